/-
  Lemmas of the wheel's laws: Same, the ticks of a put, Next, Keys. Conditions: none.
-/
import Derived.Test.YtfflhppieogkbaaWnp
set_option linter.unusedVariables false
set_option linter.unusedSimpArgs false
set_option maxRecDepth 100000
namespace Go.Proofs.Ytfflhppieogkbaa.Hp
open Go Go.RowKit Go.Proofs.YtfflhppieogkbaaW.PrintWords Go.Proofs.YtfflhppieogkbaaW.PrintLast Go.Proofs.YtfflhppieogkbaaW.PrintMore Go.Proofs.Ytfflhppieogkbaa.Mp Go.Proofs.Ytfflhppieogkbaa.PA
theorem same_loop (a : List Int) (ha : a.length ≤ 100000) : ∀ (d i k : Nat), a.length - i = d → i ≤ a.length → d < k → hostlerref01_Same.l0 k a a (i : Int) = some true := by
  intro d
  induction d with
  | zero =>
    intro i k hd hi hk
    obtain ⟨k, rfl⟩ : ∃ m, k = m + 1 := ⟨k - 1, by omega⟩
    rw [hostlerref01_Same.l0, if_neg (by omega)]
  | succ d ih =>
    intro i k hd hi hk
    obtain ⟨k, rfl⟩ : ∃ m, k = m + 1 := ⟨k - 1, by omega⟩
    have hw : wrap64 ((i : Int) + 1) = ((i + 1 : Nat) : Int) := by unfold wrap64; omega
    rw [hostlerref01_Same.l0, if_pos (by omega), if_pos (by omega), if_pos (by omega), if_pos rfl, hw]
    exact ih (i + 1) k (by omega) (by omega) (by omega)
theorem same23 (a : List Int) (A B : Option Addr) (c d : Nat) (w : World) (hA : kI.C w A a.length a) (ha : a.length ≤ c) (hB : kI.C w B a.length a) (hb : a.length ≤ d) (hl : a.length ≤ 1000) :
    Calls Try.prog 23 #[.slice A a.length c, .slice B a.length d] w fun e w' => e = .returned (.bool true) ∧ Below w.heap.size w w' := by
  refine (hostlerref01_Same.calls (a.length + 1) A c a B d a true w hA ha hB hb ?_).mono ?_
  · unfold hostlerref01_Same.f
    rw [if_pos rfl]
    exact same_loop a (by omega) a.length 0 _ (by omega) (by omega) (by omega)
  · rintro e w' ⟨rfl, hb⟩
    exact ⟨rfl, Drawn0.below hb⟩
theorem put_ticks {l : PL} (h : Ticks l) (k x : Int) : Ticks (put l k (cut x)) := fun p hp => by
  rcases mem_put.1 hp with rfl | ⟨h1, _⟩
  · exact cut_range x
  · exact h p h1
theorem put_len {l : PL} (hr : Rising l) (k v : Int) : (put l k v).length ≤ l.length + 1 := by
  cases h : Mp.look l k with
  | none => rw [len_put_new v h]; exact Nat.le_refl _
  | some u => rw [len_put_old hr v h]; omega
theorem next_some {w0 W : World} {g : Nat} {s : WS} {T : Int} (hI : IsW w0 W g s) (hB : Below w0.heap.size w0 W) (hm : s.m ≤ 90000) (hT : Least s.ats T) : Calls Try.prog 20 #[.pointer (some ⟨g, 0, none⟩)] W fun e w' => e = .returned (.tuple #[.int .i64 T, .bool true]) ∧ IsW w0 w' g s ∧ Kp g W w' := (next_any hI hB hm).mono (by
  rintro e w' ⟨hn, h1, h2⟩
  refine ⟨?_, h1, h2⟩
  rcases hn with ⟨h, _⟩ | ⟨p, hp, rfl, hle⟩
  · obtain ⟨⟨p, hp, _⟩, _⟩ := hT
    rw [h] at hp
    simp at hp
  · rw [Least.unique (S := p.2) hT ⟨⟨p, hp, rfl⟩, hle⟩])
theorem next_none {w0 W : World} {g : Nat} {s : WS} (hI : IsW w0 W g s) (hB : Below w0.heap.size w0 W) (hm : s.m ≤ 90000) (hz : s.ats = []) : Calls Try.prog 20 #[.pointer (some ⟨g, 0, none⟩)] W fun e w' => e = .returned (.tuple #[.int .i64 0, .bool false]) ∧ IsW w0 w' g s ∧ Kp g W w' := (next_any hI hB hm).mono (by
  rintro e w' ⟨hn, h1, h2⟩
  refine ⟨?_, h1, h2⟩
  rcases hn with ⟨_, h⟩ | ⟨p, hp, _⟩
  · exact h
  · rw [hz] at hp; simp at hp)
theorem keys_by {w0 W : World} {g : Nat} {s : WS} (hI : IsW w0 W g s) (hl : s.ats.length ≤ 1000000) :
    Calls Try.prog 22 #[.pointer (some ⟨g, 0, none⟩)] W fun e w' => ∃ v : Value, e = .returned v ∧ kI.R 3 w' W.heap.size (fun k => ¬ Own w' g k) v (byTick s.ats) ∧ Below W.heap.size W w' := (keys_any hI hl).mono (by
  rintro e w' ⟨v, ks, rfl, hby, hR, hb⟩
  rw [← hby.eq]
  exact ⟨v, rfl, hI.new_row hb hR, hb⟩)
end Go.Proofs.Ytfflhppieogkbaa.Hp
