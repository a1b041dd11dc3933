/-
  Swap of the wheel's entries, over rows. Conditions: none.
-/
import Derived.Test.YtfflhppieogkbaaSw
set_option linter.unusedVariables false
set_option linter.unusedSimpArgs false
namespace Go.Proofs.Ytfflhppieogkbaa.Hp
open Go Go.RowKit Go.Proofs.YtfflhppieogkbaaW.PrintWords Go.Proofs.YtfflhppieogkbaaW.PrintLast Go.Proofs.YtfflhppieogkbaaW.PrintMore
theorem row_put {W : World} {base g n cap i : Nat} {ok : Nat → Prop} {xs : List E66} (h : k66.R 66 W base ok (.slice (some ⟨g, 0, none⟩) n cap) xs) (hi : i < n) (x : E66) :
    k66.R 66 ((W.setCell ⟨g, i * 2, none⟩ (.int .i64 x.f0)).setCell ⟨g, i * 2 + 1, none⟩ (.int .i64 x.f1)) base ok (.slice (some ⟨g, 0, none⟩) n cap) (xs.set i x) ∧ W.grownBy ((W.setCell ⟨g, i * 2, none⟩ (.int .i64 x.f0)).setCell ⟨g, i * 2 + 1, none⟩ (.int .i64 x.f1)) (some g) := by
  obtain ⟨hn, hnc, hC⟩ := Kd.R_reads' h
  obtain ⟨ad, c, e, hcl, hK, hc⟩ := Kd.C_get hC z66 (i : Int) (by omega) (by omega)
  injection e with e
  subst e
  have h1 := Kd.R_seg (d := k66) h (i : Int) (by omega) (by omega) (c := c) (seg := [.int .i64 x.f0, .int .i64 x.f1]) (j := 0) hcl (fun j u hu => by
    have := hc j u hu
    rwa [add_plain] at this) (by show 0 + 2 ≤ 2; omega) (x' := x) (okp := fun _ => False) (by
      obtain rfl := k66_open hK
      exact ⟨[.int .i64 x.f0], [.int .i64 x.f1], rfl, rfl, rfl⟩) (fun k hk => hk.elim)
  simpa only [World.setCells, show k66.sz = 2 from rfl, Nat.add_zero, Int.toNat_natCast] using h1
/-- Elements i and k change places. -/
def swp (xs : List E66) (i k : Nat) : List E66 := (xs.set i (rd_T66 xs (k : Int))).set k (rd_T66 xs (i : Int))
theorem cells_of {W : World} {base g n cap i : Nat} {ok : Nat → Prop} {xs : List E66} (h : k66.R 66 W base ok (.slice (some ⟨g, 0, none⟩) n cap) xs) (hi : i < n) : W.cell? ⟨g, i * 2, none⟩ = some (.int .i64 (rd_T66 xs (i : Int)).f0) ∧ W.cell? ⟨g, i * 2 + 1, none⟩ = some (.int .i64 (rd_T66 xs (i : Int)).f1) := by
  have hn := (Kd.R_reads' h).1
  obtain ⟨ad, e, h0, h1⟩ := at_T66 (Kd.R_reads' h).2.2 (i : Int) (by omega) (by omega)
  injection e with e
  subst e
  rw [add_plain, Int.toNat_natCast] at h0 h1
  exact ⟨h0, h1⟩
theorem frozen_of {W : World} {base g n cap : Nat} {ok : Nat → Prop} {xs : List E66} (h : k66.R 66 W base ok (.slice (some ⟨g, 0, none⟩) n cap) xs) (j : Nat) : W.frozen? ⟨g, j, none⟩ = false := by
  obtain ⟨cs, hcs⟩ := Kd.R_typed h g rfl
  exact blk_frozen hcs j
theorem grown_trans {W W1 W2 : World} {r : Option Nat} (h : W.grownBy W1 r) (k : W1.grownBy W2 r) : W.grownBy W2 r :=
  ⟨k.os.trans h.os, k.tape.trans h.tape, k.output.trans h.output, Nat.le_trans h.size k.size, fun b hb hr => (k.block b (Nat.lt_of_lt_of_le hb h.size) hr).trans (h.block b hb hr)⟩
theorem swap_raw {W : World} {base b n c i k : Nat} {ok : Nat → Prop} {xs : List E66} (h : k66.R 66 W base ok (.slice (some ⟨b, 0, none⟩) n c) xs) (hi : i < n) (hk : k < n) :
    Calls Try.prog 102 #[.slice (some ⟨b, 0, none⟩) n c, .int .i64 (i : Int), .int .i64 (k : Int)] W fun e w' => e = .returned (.tuple #[]) ∧ k66.R 66 w' base ok (.slice (some ⟨b, 0, none⟩) n c) (swp xs i k) ∧ W.drew.grownBy w' (some b) := by
  have hx := cells_of h hi
  have hy := cells_of h hk
  have hd : k66.R 66 W.drew base ok (.slice (some ⟨b, 0, none⟩) n c) xs := Kd.R_drewN h 1
  have h1 := row_put hd hi (rd_T66 xs (k : Int))
  have h2 := row_put h1.1 hk (rd_T66 xs (i : Int))
  by_cases he : i = k
  · subst he
    refine (swap_eq b n c i W _ _ hi hx.1 hx.2 (frozen_of h)).mono ?_
    rintro e w' ⟨rfl, rfl⟩
    exact ⟨rfl, h2.1, grown_trans h1.2 h2.2⟩
  · refine (swap_ne b n c i k W _ _ _ _ hi hk he hx.1 hx.2 hy.1 hy.2 (frozen_of h)).mono ?_
    rintro e w' ⟨rfl, rfl⟩
    exact ⟨rfl, h2.1, grown_trans h1.2 h2.2⟩
end Go.Proofs.Ytfflhppieogkbaa.Hp
