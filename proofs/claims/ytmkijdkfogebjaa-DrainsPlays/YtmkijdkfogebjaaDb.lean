/-
  The drains' methods that only look: names, Waits, Under. Conditions: none.
-/
import Derived.Test.YtmkijdkfogebjaaDa
set_option linter.unusedVariables false
set_option linter.unusedSimpArgs false
namespace Go.Proofs.Ytmkijdkfogebjaa.Man
open Go.RowKit Go.Proofs.YtmkijdkfogebjaaW.PrintWords Go.Proofs.YtmkijdkfogebjaaW.PrintLast Go.Proofs.YtmkijdkfogebjaaW.PrintMore Go.Proofs.Ytmkijdkfogebjaa.PA Go.Proofs.Ytmkijdkfogebjaa.PB Go.Proofs.Ytmkijdkfogebjaa.PF Go.Proofs.Ytmkijdkfogebjaa.Hid
variable {w0 w : World} {g : Nat} {s : DS}
def namesOf (row : List S69) (u : Bool) : List ByteArray := (row.filter (fun x => x.f2 == u)).map (·.f0)
set_option maxHeartbeats 4000000 in
theorem names_raw (u : Bool) (hlb : s.row.length < 1099511627776) (hI : IsS66 w0 w g s) :
    Calls Try.prog 35 #[.pointer (some ⟨g, 0, none⟩), .bool u] w fun e w' => ∃ v1_ : Value, e = .returned v1_ ∧ Kd.R Kd.string 9 w' w.heap.size (fun _ => True) v1_ (namesOf s.row u) ∧ Below w.heap.size w w' := by
  obtain ⟨A, n, hb, hn, hC, hR, hg⟩ := hI.open_
  have h1 : w.cell? ⟨g, 0, none⟩ = some (.slice A s.row.length n) := (blk_cell hb 0).trans rfl
  have hgl : g < w.heap.size := blk_lt hb
  have HC := Aside0.mk hC
  clear hb hn hC hR hI
  go_enter Try.func35, Try.ntmps35
  go_wp2
  go_loopw [5, 16] (fun v5 v16 wr => ∃ k : Nat, k ≤ s.row.length ∧ v16 = .int .i64 k ∧ Aside0 (Kd.R Kd.string 9 wr w.heap.size (fun _ => True) v5 (namesOf (s.row.take k) u)) ∧ Aside0 (Below w.heap.size w wr)) (fun _ v16 _ => s.row.length - (intOf v16).toNat)
  case atStart => exact ⟨0, Nat.zero_le _, rfl, ⟨Kd.R_nil _ _ _ _ _⟩, ⟨Below.refl _ _⟩⟩
  case round =>
    obtain ⟨k, hk, rfl, HO, HB⟩ := hrel
    by_cases hlt : k < s.row.length
    · obtain ⟨ad, rfl, hx0, hx1, hx2⟩ := at_T69 (Kd.C_below HC.out HB.out) (k : Int) (by omega) (by omega)
      obtain ⟨x, hxe⟩ : ∃ x : S69, x = rd_T69 s.row (k : Int) := ⟨_, rfl⟩
      rw [← hxe, Int.toNat_natCast] at hx0 hx1 hx2
      have hxg : s.row[k] = x := by rw [hxe]; simp [rd_T69, List.getD, hlt]
      have hts : s.row.take (k + 1) = s.row.take k ++ [x] := by rw [List.take_succ_eq_append_getElem hlt, hxg]
      have h0k : (0 : Int) ≤ (k : Int) := by omega
      have hkl : (k : Int) < (s.row.length : Int) := by omega
      have hlen : (namesOf (s.row.take k) u).length ≤ s.row.length := by
        unfold namesOf
        rw [List.length_map]
        exact Nat.le_trans (List.length_filter_le _ _) (by simp; omega)
      have HLEN2 := Aside0.mk hlen
      cases hu : (x.f2 == u) with
      | false =>
        have HX : Aside0 (namesOf (s.row.take (k + 1)) u = namesOf (s.row.take k) u) := ⟨by rw [hts]; simp [namesOf, hu]⟩
        generalize namesOf (s.row.take k) u = xs at HO HX HLEN2
        clear hxe hlen hts hxg
        have hu2 : decide (x.f2 = u) = false := by simpa using hu
        have HX1 := Aside0.mk (Kd.R_alloc HO.out (.cells #[.string x.f0, .int .i64 x.f1, .bool x.f2] 69))
        have HB1 := Aside0.mk (below_alloc HB.out (.cells #[.string x.f0, .int .i64 x.f1, .bool x.f2] 69))
        go_wp2
        exact ⟨⟨k + 1, by omega, by rw [show ((k : Int) + 1) = ((k + 1 : Nat) : Int) by omega], ⟨by rw [HX.out]; exact HX1.out⟩, HB1⟩, by simp [intOf]; omega⟩
      | true =>
        have hu2 : decide (x.f2 = u) = true := by simpa using hu
        have HX : Aside0 (namesOf (s.row.take (k + 1)) u = namesOf (s.row.take k) u ++ [x.f0]) := ⟨by rw [hts]; simp [namesOf, hu]⟩
        generalize namesOf (s.row.take k) u = xs at HO HX HLEN2
        clear hxe hlen hts hxg
        have HX1 := Aside0.mk (Kd.R_alloc HO.out (.cells #[.string x.f0, .int .i64 x.f1, .bool x.f2] 69))
        have HB1 := Aside0.mk (below_alloc HB.out (.cells #[.string x.f0, .int .i64 x.f1, .bool x.f2] 69))
        go_wp2_with ((with_reducible refine gate_builtin (b := .append) (xs := #[.tmp 24, .tmp 27]) rfl ?_); (try (refine gate_guard (by rfl) ?_; dsimp only)); at_builtin; refine Kd.R_append Kd.string (w0 := w) w.heap.size rfl (.tmp 24) (.tmp 27) 27 9 (.string ⟨#[]⟩) 16 rfl Try.underlying27 info9 rfl (by decide) (by omega) _ xs x.f0 [.string x.f0] (fun _ => True) (fun _ => False) rfl ?aX ?aP (fun _ h => h.elim) (fun _ _ => trivial) ?aO ?aB ?aS ?aL ?_; (case aX => (show Value.slice (some ⟨wr.heap.size + 1, 0, none⟩) 1 1 = _; simp)); (case aP => exact rfl); (case aO => exact HX1.out); (case aB => exact HB1.out); (case aS => exact HB1.out.size); (case aL => have := HLEN2.out; omega); intro v1 w1 ho hb hg hat; have HO1 := Aside0.mk ho; have HB2 := Aside0.mk hb; clear ho hb hg hat)
        exact ⟨⟨k + 1, by omega, by rw [show ((k : Int) + 1) = ((k + 1 : Nat) : Int) by omega], ⟨by rw [HX.out]; exact HO1.out⟩, HB2⟩, by simp [intOf]; omega⟩
    · have hke : k = s.row.length := by omega
      subst hke
      rw [List.take_length] at HO
      clear hk
      go_wp2
      go_ret
      exact ⟨_, rfl, HO.out, HB.out⟩
set_option maxHeartbeats 1000000 in
theorem waits_raw (hlb : s.row.length < 1099511627776) (hI : IsS66 w0 w g s) :
    Calls Try.prog 15 #[.pointer (some ⟨g, 0, none⟩)] w fun e w' => ∃ v1_ : Value, e = .returned v1_ ∧ Kd.R Kd.string 9 w' w.heap.size (fun _ => True) v1_ (namesOf s.row false) ∧ Below w.heap.size w w' := by
  have HN := Aside0.mk (names_raw false hlb hI)
  clear hI
  go_enter Try.func15, Try.ntmps15
  go_wp2_with (go_at_call 35; refine HN.out.mono ?_; rintro e w' ⟨v, rfl, hR, hb⟩)
  go_ret
  exact ⟨_, rfl, hR, hb⟩
set_option maxHeartbeats 1000000 in
theorem under_raw (hlb : s.row.length < 1099511627776) (hI : IsS66 w0 w g s) :
    Calls Try.prog 16 #[.pointer (some ⟨g, 0, none⟩)] w fun e w' => ∃ v1_ : Value, e = .returned v1_ ∧ Kd.R Kd.string 9 w' w.heap.size (fun _ => True) v1_ (namesOf s.row true) ∧ Below w.heap.size w w' := by
  have HN := Aside0.mk (names_raw true hlb hI)
  clear hI
  go_enter Try.func16, Try.ntmps16
  go_wp2_with (go_at_call 35; refine HN.out.mono ?_; rintro e w' ⟨v, rfl, hR, hb⟩)
  go_ret
  exact ⟨_, rfl, hR, hb⟩
def drains_Drains_Waits.f (s : DS) : Option (List ByteArray × DS) := if s.row.length < 1099511627776 then some (namesOf s.row false, s) else none
def drains_Drains_Under.f (s : DS) : Option (List ByteArray × DS) := if s.row.length < 1099511627776 then some (namesOf s.row true, s) else none
theorem drains_Drains_Waits.calls (g : Nat) (s : DS) (r1 : List ByteArray) (s' : DS) (w0 w : World) (hI : IsS66 w0 w g s) (hB : Below w0.heap.size w0 w) (h : drains_Drains_Waits.f s = some (r1, s')) :
    Calls Try.prog 15 #[.pointer (some ⟨g, 0, none⟩)] w fun e w' => ∃ v1_ : Value, e = .returned v1_ ∧ Kd.R Kd.string 9 w' w.heap.size (fun _ => True) v1_ r1 ∧ IsS66 w0 w' g s' ∧ Below w0.heap.size w0 w' ∧ KeptH TD w w' := by
  unfold drains_Drains_Waits.f at h
  split at h
  · rename_i hl
    obtain ⟨rfl, rfl⟩ := Prod.mk.inj (Option.some.inj h)
    refine (waits_raw hl hI).mono ?_
    rintro e w' ⟨v, rfl, hR, hb⟩
    exact ⟨v, rfl, hR, done_below hI hB hb⟩
  · cases h
theorem drains_Drains_Under.calls (g : Nat) (s : DS) (r1 : List ByteArray) (s' : DS) (w0 w : World) (hI : IsS66 w0 w g s) (hB : Below w0.heap.size w0 w) (h : drains_Drains_Under.f s = some (r1, s')) :
    Calls Try.prog 16 #[.pointer (some ⟨g, 0, none⟩)] w fun e w' => ∃ v1_ : Value, e = .returned v1_ ∧ Kd.R Kd.string 9 w' w.heap.size (fun _ => True) v1_ r1 ∧ IsS66 w0 w' g s' ∧ Below w0.heap.size w0 w' ∧ KeptH TD w w' := by
  unfold drains_Drains_Under.f at h
  split at h
  · rename_i hl
    obtain ⟨rfl, rfl⟩ := Prod.mk.inj (Option.some.inj h)
    refine (under_raw hl hI).mono ?_
    rintro e w' ⟨v, rfl, hR, hb⟩
    exact ⟨v, rfl, hR, done_below hI hB hb⟩
  · cases h
theorem place_bd : ∀ (row : List S69) (nm : ByteArray) (j : Int), placeOf row nm j = -1 ∨ (j ≤ placeOf row nm j ∧ placeOf row nm j < j + row.length)
  | [], _, _ => .inl rfl
  | x :: l, nm, j => by
    rw [placeOf]
    split
    · right
      simp
      omega
    · rcases place_bd l nm (j + 1) with h | h
      · exact .inl h
      · right
        simp
        omega
end Go.Proofs.Ytmkijdkfogebjaa.Man
