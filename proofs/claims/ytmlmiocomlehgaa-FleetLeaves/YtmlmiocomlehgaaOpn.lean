/-
  Values that come in, opened: whole numbers, bools, strings, structs and slices of them, as the kinds of the print's words tell them. Conditions: each type's shape in the program.
-/
import Derived.Lib.SmallJoins
import Derived.OpenShut
import Derived.WideShapes
import Derived.SizedLaws
import Derived.Deep.Slices
import Derived.Test.YtmlmiocomlehgaaPAx0
set_option linter.unusedVariables false
namespace Go.Proofs.YtmlmiocomlehgaaOpn
open Go Go.WideShapes Go.RowKit Go.Proofs.YtmlmiocomlehgaaW.PrintWords Go.Proofs.Ytmlmiocomlehgaa.PA
/-- What a type's cells say, when they come in. -/
def Opens {α : Type} (P : Program) (t : TypeId) (d : Kd α) (wf : α → Prop) : Prop :=
  ∀ {H : Type} {enc : TypeId × Value → H} {w : World} {base : Nat} {spare : Nat → Bool} {held : Bool} {fuel : Nat} {cs : List Value} {x : DataW H × List MemPlace},
    DataW.trod enc P w base spare held fuel t cs = some x → ∃ a, d.K w a cs ∧ wf a
theorem opens_int {P : Program} {t : TypeId} {k : IntKind} (ht : P.underlying t = some (.int k)) : Opens P t (Kd.int k) (fun a => (Lit.int k a).wf = true) := by
  intro H enc w base spare held fuel cs x h
  obtain ⟨n, e, _, wn⟩ := DataW.trod_int ht h
  exact ⟨n, e, wn⟩
theorem opens_bool {P : Program} {t : TypeId} (ht : P.underlying t = some .bool) : Opens P t Kd.bool (fun _ => True) := by
  intro H enc w base spare held fuel cs x h
  obtain ⟨b, e, _⟩ := DataW.trod_bool ht h
  exact ⟨b, e, trivial⟩
theorem opens_string {P : Program} {t : TypeId} (ht : P.underlying t = some .string) : Opens P t Kd.string (fun a => a.size ≤ maxLen) := by
  intro H enc w base spare held fuel cs x h
  obtain ⟨b, e, _, hs⟩ := DataW.trod_string ht h
  exact ⟨b, e, hs⟩
theorem list_of {α : Type} {Q : Nat → α → Prop} : ∀ n, (∀ i, i < n → ∃ a, Q i a) → ∃ xs : List α, xs.length = n ∧ ∀ j p, xs[j]? = some p → Q j p := by
  intro n
  induction n with
  | zero => exact fun _ => ⟨[], rfl, fun j p h => by simp at h⟩
  | succ n ih =>
    intro h
    obtain ⟨xs, hl, hx⟩ := ih (fun i hi => h i (by omega))
    obtain ⟨a, ha⟩ := h n (by omega)
    refine ⟨xs ++ [a], by simp [hl], fun j p hj => ?_⟩
    by_cases hjn : j < n
    · rw [List.getElem?_append_left (by omega)] at hj
      exact hx j p hj
    · rw [List.getElem?_append_right (by omega)] at hj
      have : j = n := by
        have := List.getElem?_eq_some_iff.1 hj
        obtain ⟨h1, _⟩ := this
        simp at h1
        omega
      subst this
      rw [hl] at hj
      have e : a = p := by simpa using hj
      exact e ▸ ha
theorem add_add_ (a : Addr) (i j : Nat) : (a.add i).add j = a.add (i + j) := by
  unfold Addr.add
  (repeat' split) <;> simp_all <;> omega
theorem opens_slice {α : Type} {P : Program} {t e : TypeId} {d : Kd α} {wf : α → Prop} (ht : P.underlying t = some (.slice e)) (hsz : P.cellsOf e = d.sz) (hd : Opens P e d wf) :
    Opens P t (Kd.slice e d) (fun xs => xs.length ≤ maxLen ∧ ∀ x ∈ xs, wf x) := by
  intro H enc w base spare held fuel cs x h
  rcases Go.Deep.open_slice ht h with ⟨rfl, _⟩ | ⟨a, len, cap, m, n, D, Pl, rfl, _, hl, hm, hmm, _, hel⟩
  · exact ⟨[], ⟨none, 0, rfl, Nat.le_refl _, rfl, by simp, fun h => absurd h (by simp)⟩, by simp, by simp⟩
  · have hlm : len ≤ m := by rw [hmm]; split <;> omega
    obtain ⟨xs, hxl, hx⟩ := list_of (Q := fun i p => (∃ c, c.length = d.sz ∧ d.K w p c ∧ ∀ k u, c[k]? = some u → w.cell? (a.add (i * d.sz + k)) = some u) ∧ wf p) len (fun i hi => by
      obtain ⟨cs', h1, h2⟩ := hel i (by omega)
      obtain ⟨p, hk, hw⟩ := hd h2
      obtain ⟨_, hlen, hcell⟩ := World.cells?_some h1
      refine ⟨p, ⟨cs', d.K_len hk, hk, fun k u hu => ?_⟩, hw⟩
      have hkl : k < P.cellsOf e := by
        obtain ⟨h3, _⟩ := List.getElem?_eq_some_iff.1 hu
        omega
      rw [← hu, ← hcell k hkl, add_add_, hsz])
    refine ⟨xs, ⟨some a, cap, by rw [hxl], by omega, rfl, ?_, fun _ => ⟨a, rfl, fun j p hj => (hx j p hj).1⟩⟩, by omega, fun p hp => ?_⟩
    · have : maxLen = 9223372036854775807 := by decide
      omega
    · obtain ⟨j, hj⟩ := List.getElem?_of_mem hp
      exact (hx j p hj).2
/-- A slice that comes in, as a row. -/
theorem open_row {α : Type} {P : Program} {t e : TypeId} {d : Kd α} {wf : α → Prop} (ht : P.underlying t = some (.slice e)) (hsz : P.cellsOf e = d.sz) (hd : Opens P e d wf)
    {H : Type} {enc : TypeId × Value → H} {w : World} {base : Nat} {spare : Nat → Bool} {held : Bool} {a : Option Addr} {len cap : Nat} {D : DataW H} {ps : List MemPlace} (h : DataW.Trod enc P w base spare held t (.slice a len cap) D ps) :
    ∃ l : List α, len = l.length ∧ l.length ≤ cap ∧ d.C w a l.length l ∧ l.length ≤ maxLen ∧ ∀ x ∈ l, wf x := by
  obtain ⟨fuel, hf⟩ := h
  obtain ⟨l, ⟨A, c, e0, hc, hr⟩, hm, hw⟩ := opens_slice ht hsz hd hf
  simp [Value.cells] at e0
  obtain ⟨rfl, rfl, rfl⟩ := e0
  exact ⟨l, rfl, hc, hr, hm, hw⟩
/-- It is no longer than its weight allows. -/
theorem sized_row {H : Type} {enc : TypeId × Value → H} {P : Program} {W : World} {base : Nat} {spare : Nat → Bool} {held : Bool} {t e : TypeId} {a : Option Addr} {len cap : Nat} {d : DataW H} {ps : List MemPlace} {ts : List TypeId} {ds : List (DataW H)} {j : Nat}
    (hsz : (DataW.weightsEach P ts ds).all (· ≤ reachBytes) = true) (ht : ts[j]? = some t) (hd : ds[j]? = some d) (hu : P.underlying t = some (.slice e)) {B : Nat} (hB : P.bytesOf e = B)
    (h : DataW.Trod enc P W base spare held t (.slice a len cap) d ps) : len * B ≤ 140737488351232 := by
  obtain ⟨fuel, hf⟩ := h
  rcases DataW.trod_slice hu hf with ⟨hcs, _⟩ | ⟨x, l, c, elems, rest, n, _, hcs, hx, _, hl, hm, hlen, _⟩
  · simp [Value.cells] at hcs
    obtain ⟨rfl, rfl, rfl⟩ := hcs
    simp
  · simp [Value.cells] at hcs
    obtain ⟨rfl, rfl, rfl⟩ := hcs
    obtain ⟨hx, _⟩ := Prod.mk.inj hx
    subst hx
    have z := sized_slice hsz ht hd hu
    rw [hB] at z
    exact Nat.le_trans (Nat.mul_le_mul_right _ (by simp; omega)) z
theorem pair_at {α β : Type} {a : Kd α} {b : Kd β} {w : World} {x : α} {y : β} {cs : List Value} (off k : Nat) (h0 : a.K w x ((cs.drop off).take k)) (h1 : b.K w y (cs.drop (off + k))) : (Kd.pair a b).K w (x, y) (cs.drop off) :=
  ⟨_, _, by rw [← List.drop_drop, List.take_append_drop], h0, h1⟩
theorem last_at {α : Type} {a : Kd α} {w : World} {x : α} {cs : List Value} (off k : Nat) (hl : cs.length = off + k) (h0 : a.K w x ((cs.drop off).take k)) : a.K w x (cs.drop off) := by
  rwa [List.take_of_length_le (by rw [List.length_drop]; omega)] at h0
theorem drop_zero_ {α : Type} {a : Kd α} {w : World} {x : α} {cs : List Value} (h : a.K w x (cs.drop 0)) : a.K w x cs := h
theorem opens_st51 : Opens Try.prog 51 k51 (fun x => (Lit.int .i64 x.f0).wf = true ∧ (Lit.int .i64 x.f1).wf = true ∧ x.f2.size ≤ maxLen ∧ (x.f3.length ≤ maxLen ∧ ∀ y ∈ x.f3, y.size ≤ maxLen)) := by
  intro H enc w base spare held fuel cs x h
  obtain ⟨xs, n, _, _, hl, hlen, hf⟩ := DataW.trod_struct Try.underlying51 h
  have hl' : cs.length = 4 := hl.trans (by kernel_rfl)
  have h_0 : DataW.trod enc Try.prog w base spare held n 3 ((cs.drop 0).take (Try.prog.cellsOf 3)) = xs[0]? := hf 0 _ rfl
  rw [show Try.prog.cellsOf 3 = 1 by kernel_rfl, List.getElem?_eq_getElem (by rw [hlen]; decide)] at h_0
  obtain ⟨a_0, k_0, w_0⟩ := (opens_int Try.underlying3) h_0
  have h_1 : DataW.trod enc Try.prog w base spare held n 3 ((cs.drop 1).take (Try.prog.cellsOf 3)) = xs[1]? := hf 1 _ rfl
  rw [show Try.prog.cellsOf 3 = 1 by kernel_rfl, List.getElem?_eq_getElem (by rw [hlen]; decide)] at h_1
  obtain ⟨a_1, k_1, w_1⟩ := (opens_int Try.underlying3) h_1
  have h_2 : DataW.trod enc Try.prog w base spare held n 9 ((cs.drop 2).take (Try.prog.cellsOf 9)) = xs[2]? := hf 2 _ rfl
  rw [show Try.prog.cellsOf 9 = 1 by kernel_rfl, List.getElem?_eq_getElem (by rw [hlen]; decide)] at h_2
  obtain ⟨a_2, k_2, w_2⟩ := (opens_string Try.underlying9) h_2
  have h_3 : DataW.trod enc Try.prog w base spare held n 25 ((cs.drop 3).take (Try.prog.cellsOf 25)) = xs[3]? := hf 3 _ rfl
  rw [show Try.prog.cellsOf 25 = 1 by kernel_rfl, List.getElem?_eq_getElem (by rw [hlen]; decide)] at h_3
  obtain ⟨a_3, k_3, w_3⟩ := (opens_slice Try.underlying25 (by kernel_rfl) (opens_string Try.underlying9)) h_3
  exact ⟨⟨a_0, a_1, a_2, a_3⟩, drop_zero_ (pair_at 0 1 k_0 (pair_at 1 1 k_1 (pair_at 2 1 k_2 (last_at 3 1 hl' k_3)))), w_0, w_1, w_2, w_3⟩

end Go.Proofs.YtmlmiocomlehgaaOpn
