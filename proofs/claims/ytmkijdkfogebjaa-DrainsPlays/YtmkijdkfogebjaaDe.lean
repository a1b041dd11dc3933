/-
  Contracts of the drains' End. Conditions: none.
-/
import Derived.Test.YtmkijdkfogebjaaDd
set_option linter.unusedVariables false
set_option linter.unusedSimpArgs false
namespace Go.Proofs.Ytmkijdkfogebjaa.Man
open Go.RowKit Go.Proofs.YtmkijdkfogebjaaW.PrintWords Go.Proofs.YtmkijdkfogebjaaW.PrintLast Go.Proofs.YtmkijdkfogebjaaW.PrintMore Go.Proofs.Ytmkijdkfogebjaa.PA Go.Proofs.Ytmkijdkfogebjaa.PB Go.Proofs.Ytmkijdkfogebjaa.PF Go.Proofs.Ytmkijdkfogebjaa.Hid
variable {w0 w : World} {g : Nat} {s : DS}
theorem IsS66.open_cons (h : IsS66 w0 w g s) (hne : 0 < s.row.length) : ∃ b n, w.heap[g]? = some (.cells #[.slice (some ⟨b, 0, none⟩) s.row.length n] 66 (0, 0)) ∧ Kd.R k69 69 w w0.heap.size (fun _ => True) (.slice (some ⟨b, 0, none⟩) s.row.length n) s.row ∧ w0.heap.size ≤ g := by
  obtain ⟨A, n, hb, hn, hC, hR, hg⟩ := h.open_
  have hR2 := hR
  obtain ⟨_, inner, hown, _⟩ := hR
  rcases hown.2 with ⟨_, h0⟩ | ⟨b, cap, cur, hv, _⟩
  · omega
  · injection hv with ha _ hc2
    subst ha; subst hc2
    exact ⟨b, n, hb, hR2, hg⟩
/-- A row that holds something lies in a block. -/
theorem R_some {w : World} {base : Nat} {ok : Nat → Prop} {v : Value} {xs : List S69} (h : Kd.R k69 69 w base ok v xs) (hne : 0 < xs.length) : ∃ b n, v = .slice (some ⟨b, 0, none⟩) xs.length n ∧ base ≤ b ∧ ∃ cur, w.heap[b]? = some (.cells cur 69 (0, 0)) := by
  obtain ⟨_, inner, hown, _⟩ := h
  rcases hown.2 with ⟨_, h0⟩ | ⟨b, cap, cur, hv, hb, hh, _⟩
  · omega
  · exact ⟨b, cap, hv, hb, cur, hh⟩
/-- The state behind a store of a new row. -/
theorem IsS66.put {w3 : World} {v v3 : Value} {row : List S69} (hg : w0.heap.size ≤ g)
    (hk : KeptH TD w w3) (hB3 : Below w0.heap.size w0 w3) (hgb : w3.heap[g]? = some (.cells #[v] 66 (0, 0))) (hR : Kd.R k69 69 w3 w0.heap.size (fun _ => True) v3 row) :
    IsS66 w0 (w3.setCell ⟨g, 0, none⟩ v3) g ⟨row⟩ ∧ Below w0.heap.size w0 (w3.setCell ⟨g, 0, none⟩ v3) ∧ KeptH TD w (w3.setCell ⟨g, 0, none⟩ v3) := by
  have hg1 : (w3.setCell ⟨g, 0, none⟩ v3).heap[g]? = some (.cells #[v3] 66 (0, 0)) := by simpa using blk_set hgb 0 v3
  refine ⟨⟨v3, hg1, hg, ?_⟩, below_set hB3 hg, hk.setCell (p := ⟨g, 0, none⟩) (.cells hgb (by decide)) _⟩
  exact Kd.R_set hR hgb (by decide) 0 v3
theorem keep_below2 {W W' : World} {g j : Nat} {v : Value} (hb : Below W.heap.size W W') (h1 : W.cell? ⟨g, j, none⟩ = some v) (h2 : W.frozen? ⟨g, j, none⟩ = false) (h3 : g < W.heap.size) : W'.cell? ⟨g, j, none⟩ = some v ∧ W'.frozen? ⟨g, j, none⟩ = false ∧ g < W'.heap.size :=
  ⟨(hb.cell (p := ⟨g, j, none⟩) h3).trans h1, (hb.frozen (p := ⟨g, j, none⟩) h3).trans h2, Nat.lt_of_lt_of_le h3 hb.size⟩
theorem keep_grown2 {W W' : World} {g j : Nat} {v : Value} {row : Option Nat} (hg : W.grownBy W' row) (hne : some g ≠ row) (h1 : W.cell? ⟨g, j, none⟩ = some v) (h2 : W.frozen? ⟨g, j, none⟩ = false) (h3 : g < W.heap.size) : W'.cell? ⟨g, j, none⟩ = some v ∧ W'.frozen? ⟨g, j, none⟩ = false ∧ g < W'.heap.size := by
  have hb := hg.block g h3 hne
  refine ⟨?_, ?_, Nat.lt_of_lt_of_le h3 hg.size⟩
  · rw [← h1]; simp only [World.cell?, hb]
  · rw [← h2]; simp only [World.frozen?, hb]
/-! #### End -/
def endRow (row : List S69) (nm : ByteArray) : List S69 := if placeOf row nm 0 < 0 then row else row.eraseIdx (placeOf row nm 0).toNat
def drains_Drains_End.f (s : DS) (nm : ByteArray) : Option (Bool × DS) := if s.row.length ≤ 1000 then some (decide (0 ≤ placeOf s.row nm 0), ⟨endRow s.row nm⟩) else none
set_option maxHeartbeats 1000000 in
theorem end_no (nm : ByteArray) (hI : IsS66 w0 w g s) (hp : placeOf s.row nm 0 < 0) : Calls Try.prog 17 #[.pointer (some ⟨g, 0, none⟩), .string nm] w fun e w' => e = .returned (.bool false) ∧ Below w.heap.size w w' := by
  have HP := Aside0.mk (place_raw nm hI)
  generalize placeOf s.row nm 0 = i at hp HP
  clear hI
  go_enter Try.func17, Try.ntmps17
  go_wp2_with (go_at_call 33; refine HP.out.mono ?_; rintro e w' ⟨rfl, hb⟩)
  go_ret
  exact ⟨rfl, hb⟩
set_option maxHeartbeats 4000000 in
theorem end_yes (nm : ByteArray) (hI : IsS66 w0 w g s) (hB : Below w0.heap.size w0 w) (hp : ¬ placeOf s.row nm 0 < 0) (hlen : s.row.length ≤ 1000) :
    Calls Try.prog 17 #[.pointer (some ⟨g, 0, none⟩), .string nm] w fun e w' => e = .returned (.bool true) ∧ IsS66 w0 w' g ⟨s.row.eraseIdx (placeOf s.row nm 0).toNat⟩ ∧ Below w0.heap.size w0 w' ∧ KeptH TD w w' := by
  have HP := Aside0.mk (place_raw nm hI)
  obtain ⟨j, hj⟩ : ∃ j : Nat, placeOf s.row nm 0 = (j : Int) := ⟨(placeOf s.row nm 0).toNat, by omega⟩
  have hjl : j < s.row.length := by
    rcases place_bd s.row nm 0 with h | h <;> omega
  rw [hj] at HP hp ⊢
  rw [Int.toNat_natCast]
  have HI := Aside0.mk hI
  have HB0 := Aside0.mk hB
  clear hI hB hj
  go_enter Try.func17, Try.ntmps17
  go_wp2_with (first
    | (go_at_call 33; refine HP.out.mono ?_; rintro e w1 ⟨rfl, hb1⟩; (
        have HI1 := Aside0.mk (HI.out.below hb1); have HB1 := Aside0.mk hb1; obtain ⟨b, n, hgb, hR, hg⟩ := HI1.out.open_cons (by omega);
        have h1 : w1.cell? ⟨g, 0, none⟩ = some (.slice (some ⟨b, 0, none⟩) s.row.length n) := (blk_cell hgb 0).trans rfl;
        have hf1 : w1.frozen? ⟨g, 0, none⟩ = false := blk_frozen hgb 0;
        have hg1l : g < w1.heap.size := blk_lt hgb;
        have HCL := Aside0.mk (clone_some b n s.row w1 w0.heap.size hR hlen); have HGB := Aside0.mk hgb; clear hR hgb hb1))
    | (go_at_call 37; refine HCL.out.mono ?_; rintro e w2 ⟨v2, rfl, hR2, hb2⟩; obtain ⟨b2, n2, rfl, hbb2, cur2, hcur2⟩ := R_some hR2 (by omega))
    | (go_at_call 36; rw [show ((j : Int) + 1) = ((j + 1 : Nat) : Int) by omega]; refine (delete_R b2 n2 j (j + 1) s.row w2 w1.heap.size hR2 rfl hjl hlen hb2.size).mono ?_; rintro e w3 ⟨rfl, hR3, hg3⟩;
       (have HGB3 := Aside0.mk ((hg3.block g (Nat.lt_of_lt_of_le (blk_lt HGB.out) hb2.size) (by intro e; injection e with e; have := blk_lt HGB.out; omega)).trans ((hb2.block g (blk_lt HGB.out)).trans HGB.out));
        have h3 : w3.cell? ⟨g, 0, none⟩ = some (.slice (some ⟨b, 0, none⟩) s.row.length n) := (blk_cell HGB3.out 0).trans rfl; have hf3 : w3.frozen? ⟨g, 0, none⟩ = false := blk_frozen HGB3.out 0; have hg3l : g < w3.heap.size := blk_lt HGB3.out)))
  have hB1 : Below w0.heap.size w0 w1 := HB0.out.trans (HB1.out.mono HB0.out.size)
  have HFIN := Aside0.mk (IsS66.put (w3 := w3) (v3 := .slice (some ⟨b2, 0, none⟩) (s.row.length - 1) n2) (row := s.row.eraseIdx j) hg
    (((KeptH.of_below HB1.out).below hb2).grown hg3 (fun k h => by injection h with h; subst h; exact .inl (.cells hcur2 (by decide))))
    ((hB1.trans (hb2.mono hB1.size)).grown hg3 (Nat.le_trans hB1.size hb2.size) (fun k h => by injection h with h; subst h; exact Nat.le_trans hB1.size hbb2)) HGB3.out (Kd.R_lower hR3 hB1.size))
  go_ret
  exact ⟨rfl, HFIN.out⟩
theorem drains_Drains_End.calls (g : Nat) (s : DS) (a1 : ByteArray) (r1 : Bool) (s' : DS) (w0 w : World) (hI : IsS66 w0 w g s) (hB : Below w0.heap.size w0 w) (h : drains_Drains_End.f s a1 = some (r1, s')) :
    Calls Try.prog 17 #[.pointer (some ⟨g, 0, none⟩), .string a1] w fun e w' => e = .returned (.bool r1) ∧ IsS66 w0 w' g s' ∧ Below w0.heap.size w0 w' ∧ KeptH TD w w' := by
  unfold drains_Drains_End.f at h
  split at h
  · rename_i hl
    obtain ⟨rfl, rfl⟩ := Prod.mk.inj (Option.some.inj h)
    unfold endRow
    by_cases hp : placeOf s.row a1 0 < 0
    · rw [if_pos hp, decide_eq_false (by omega)]
      refine (end_no a1 hI hp).mono ?_
      rintro e w' ⟨rfl, hb⟩
      exact ⟨rfl, done_below hI hB hb⟩
    · rw [if_neg hp, decide_eq_true (by omega)]
      exact end_yes a1 hI hB hp hl
  · cases h
end Go.Proofs.Ytmkijdkfogebjaa.Man
