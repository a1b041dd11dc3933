/-
  The queue and its reference: plain facts, one step at a time. Conditions: none.
-/
import Derived.Test.YtdcnmjdohjodhaaPHx1
import Derived.Test.YtdcnmjdohjodhaaPAx3
import Derived.Test.YtdcnmjdohjodhaaMe
set_option linter.unusedVariables false
set_option linter.unusedSimpArgs false
namespace Go.Proofs.Ytdcnmjdohjodhaa.Qp
open Go.RowKit Go.Proofs.Ytdcnmjdohjodhaa.PE Go.Proofs.Ytdcnmjdohjodhaa.PA Go.Proofs.Ytdcnmjdohjodhaa.PF Go.Proofs.Ytdcnmjdohjodhaa.Man Go.Proofs.YtdcnmjdohjodhaaW.PrintWords Go.Proofs.YtdcnmjdohjodhaaW.PrintLast Go.Proofs.YtdcnmjdohjodhaaW.PrintMore
theorem wrap_in {x : Int} (h0 : -9223372036854775808 ≤ x) (h1 : x ≤ 9223372036854775807) : wrap64 x = x := by
  unfold wrap64
  omega
theorem mod_n (x : Int) (m : Nat) (h0 : 0 < m) (h9 : m ≤ 1000) : ∃ n : Nat, wrap64 (Int.tmod (IntKind.u64.wrap x) (m : Int)) = (n : Int) ∧ n < m := by
  have hw : 0 ≤ IntKind.u64.wrap x := by
    unfold IntKind.wrap
    simp [IntKind.bits, IntKind.signed]
    omega
  have h1 : 0 ≤ Int.tmod (IntKind.u64.wrap x) (m : Int) := Int.tmod_nonneg _ hw
  have h2 : Int.tmod (IntKind.u64.wrap x) (m : Int) < m := Int.tmod_lt_of_pos _ (by omega)
  rw [wrap_in (by omega) (by omega)]
  exact ⟨(Int.tmod (IntKind.u64.wrap x) (m : Int)).toNat, by omega, by omega⟩
theorem w64 (n : Int) (h0 : -1000000 ≤ n) (h : n ≤ 1000000) : wrap64 n = n := wrap_in (by omega) (by omega)
theorem same_l0 (a : List Int) (ha : a.length ≤ 100000) : ∀ (d i k : Nat), a.length - i = d → i ≤ a.length → d < k → hostlerref01_Same.l0 k a a (i : Int) = some true := by
  intro d
  induction d with
  | zero =>
    intro i k hd hi hk
    obtain ⟨k, rfl⟩ : ∃ m, k = m + 1 := ⟨k - 1, by omega⟩
    rw [hostlerref01_Same.l0, if_neg (by omega)]
  | succ d ih =>
    intro i k hd hi hk
    obtain ⟨k, rfl⟩ : ∃ m, k = m + 1 := ⟨k - 1, by omega⟩
    rw [hostlerref01_Same.l0, if_pos (by omega), if_pos (by omega), if_pos (by omega), if_pos rfl, w64 _ (by omega) (by omega)]
    exact ih (i + 1) k (by omega) (by omega) (by omega)
theorem same_f (a : List Int) (k : Nat) (ha : a.length ≤ 100000) (hk : a.length < k) : hostlerref01_Same.f k a a = some true := by
  unfold hostlerref01_Same.f
  rw [if_pos rfl]
  exact same_l0 a ha a.length 0 k (by omega) (by omega) hk
theorem placeOf_bd : ∀ (row : List S65) (id j : Int), placeOf row id j = -1 ∨ (j ≤ placeOf row id j ∧ placeOf row id j < j + row.length)
  | [], _, _ => .inl rfl
  | x :: l, id, j => by
    rw [placeOf]
    split
    · right
      simp
      omega
    · rcases placeOf_bd l id (j + 1) with h | h
      · exact .inl h
      · right
        simp
        omega
abbrev idsOf (row : List S65) : List Int := row.map (·.f0)
abbrev atsOf (row : List S65) : List Int := row.map (·.f1)
theorem rd_map0 (row : List S65) (j : Nat) (h : j < row.length) : rd (idsOf row) (j : Int) = row[j].f0 := by
  simp only [rd, Int.toNat_natCast, List.getD, idsOf]
  rw [List.getElem?_map, List.getElem?_eq_getElem h]
  rfl
theorem rd_map1 (row : List S65) (j : Nat) (h : j < row.length) : rd (atsOf row) (j : Int) = row[j].f1 := by
  simp only [rd, Int.toNat_natCast, List.getD, atsOf]
  rw [List.getElem?_map, List.getElem?_eq_getElem h]
  rfl
theorem place_l0 (R id : Int) (ats : List Int) (row : List S65) (hl : row.length ≤ 16) : ∀ (d j k : Nat), row.length - j = d → j ≤ row.length → d < k → hostlerref12_Place.l0 k id (j : Int) R (idsOf row) ats = some (placeOf (row.drop j) id j) := by
  intro d
  induction d with
  | zero =>
    intro j k hd hj hk
    obtain ⟨k, rfl⟩ : ∃ m, k = m + 1 := ⟨k - 1, by omega⟩
    rw [hostlerref12_Place.l0, if_neg (by simp; omega), List.drop_eq_nil_of_le (by omega)]
    rfl
  | succ d ih =>
    intro j k hd hj hk
    obtain ⟨k, rfl⟩ : ∃ m, k = m + 1 := ⟨k - 1, by omega⟩
    have hlt : j < row.length := by omega
    have hn := ih (j + 1) k (by omega) (by omega) (by omega)
    rw [hostlerref12_Place.l0, if_pos (by simp; omega), if_pos (by omega), rd_map0 row j hlt, List.drop_eq_getElem_cons hlt, placeOf, w64 _ (by omega) (by omega)]
    by_cases h : row[j].f0 = id
    · rw [if_pos h, if_pos h]
    · rw [if_neg h, if_neg h]
      exact hn
theorem place_ref (k : Nat) (R id : Int) (ats : List Int) (row : List S65) (hl : row.length ≤ 16) (hk : row.length < k) : hostlerref12_Place.f k R (idsOf row) ats id = some (placeOf row id 0) := by
  have := place_l0 R id ats row hl row.length 0 k (by omega) (by omega) hk
  simpa [hostlerref12_Place.f] using this
def C (a : Int) : Int := mn (mx a 0) 1099511627776
theorem cut_ref (a : Int) : hostlerref01_Cut.f a = some (C a) := by
  unfold hostlerref01_Cut.f C mn mx
  by_cases h1 : a < 0
  · rw [if_pos h1, if_pos h1]
    rfl
  · rw [if_neg h1, if_neg h1]
    by_cases h2 : a > 1099511627776
    · rw [if_pos h2, if_pos h2]
    · rw [if_neg h2, if_neg h2]
theorem C_bd (a : Int) : 0 ≤ C a ∧ C a ≤ 1099511627776 := by
  unfold C mn mx
  split <;> split <;> omega
theorem C_id (a : Int) (h : 0 ≤ a) (h2 : a ≤ 1099511627776) : C a = a := by
  unfold C mn mx
  split <;> split <;> omega
theorem mn_C (u : Int) (h : 0 ≤ u) : mn u 1099511627776 = C u := by
  unfold C
  rw [show mx u 0 = u by unfold mx; split <;> omega]
theorem add_ref (t w : Int) : hostlerref01_Add.f t w = some (C (C t + C w)) := by
  have h1 := C_bd t
  have h2 := C_bd w
  unfold hostlerref01_Add.f
  simp only [cut_ref, Option.bind_some]
  rw [show wrap64 (C t + C w) = C t + C w from by unfold wrap64; omega]
theorem past_ref (a b : Int) : hostlerref01_Past.f a b = some (decide (C a ≥ C b)) := by
  unfold hostlerref01_Past.f
  simp only [cut_ref, Option.bind_some]
theorem late_ref (now wait : Int) (x : S65) : late now wait x = decide (C now ≥ C (C x.f1 + C wait)) := by
  have h1 := C_bd x.f1
  have h2 := C_bd wait
  have h3 := C_bd now
  have h4 := C_bd (C x.f1 + C wait)
  have e1 : mn (C x.f1 + C wait) 1099511627776 = C (C x.f1 + C wait) := mn_C _ (by omega)
  unfold late sat_Add.f sat_Past.f sat_Sub.f sat_Cut.f
  simp only [Option.bind_some, Option.getD_some]
  rw [show mn (mx x.f1 0) 1099511627776 = C x.f1 from rfl, show mn (mx wait 0) 1099511627776 = C wait from rfl, show mn (mx now 0) 1099511627776 = C now from rfl, show wrap64 (C x.f1 + C wait) = C x.f1 + C wait from by unfold wrap64; omega, e1,
    show mn (mx (C (C x.f1 + C wait)) 0) 1099511627776 = C (C x.f1 + C wait) from C_id _ h4.1 h4.2, show wrap64 (C (C x.f1 + C wait) - C now) = C (C x.f1 + C wait) - C now from by unfold wrap64; omega]
  unfold mx
  by_cases h : C now ≥ C (C x.f1 + C wait)
  · rw [decide_eq_true h]
    split <;> simp <;> omega
  · rw [decide_eq_false h]
    split <;> simp <;> omega
theorem push_ref (k : Nat) (R id now : Int) (row : List S65) (hl : row.length ≤ 16) (hk : row.length < k) : hostlerref12_Push.f k R (idsOf row) (atsOf row) id now =
    if placeOf row id 0 ≥ 0 then some (R, idsOf row, atsOf row, 6) else if (row.length : Int) ≥ R then some (R, idsOf row, atsOf row, 7) else some (R, idsOf (row ++ [⟨id, C now⟩]), atsOf (row ++ [⟨id, C now⟩]), 0) := by
  unfold hostlerref12_Push.f
  rw [place_ref k R id _ row hl hk, Option.bind_some]
  by_cases h : placeOf row id 0 ≥ 0
  · rw [if_pos h, if_pos h]
  · rw [if_neg h, if_neg h]
    have e : ((idsOf row).length : Int) = row.length := by simp
    rw [e]
    by_cases h2 : (row.length : Int) ≥ R
    · rw [if_pos h2, if_pos h2]
    · rw [if_neg h2, if_neg h2, if_pos (by simp; omega), Option.bind_some, if_pos (by simp; omega), Option.bind_some, if_pos (by simp; omega), cut_ref, Option.bind_some, if_pos (by simp; omega)]
      simp
theorem remove_l0 (R id : Int) (row : List S65) (hl : row.length ≤ 16) : ∀ (d j k : Nat) (o : List S65), row.length - j = d → j ≤ row.length → o.length ≤ j → d < k →
    hostlerref12_Remove.l0 k id (j : Int) R (idsOf row) (atsOf row) R (idsOf o) (atsOf o) = some (R, idsOf (o ++ (row.drop j).filter (fun x => decide (x.f0 ≠ id))), atsOf (o ++ (row.drop j).filter (fun x => decide (x.f0 ≠ id))), decide ((o ++ (row.drop j).filter (fun x => decide (x.f0 ≠ id))).length < row.length)) := by
  intro d
  induction d with
  | zero =>
    intro j k o hd hj ho hk
    obtain ⟨k, rfl⟩ : ∃ m, k = m + 1 := ⟨k - 1, by omega⟩
    rw [hostlerref12_Remove.l0, if_neg (by simp; omega), List.drop_eq_nil_of_le (by omega)]
    simp
  | succ d ih =>
    intro j k o hd hj ho hk
    obtain ⟨k, rfl⟩ : ∃ m, k = m + 1 := ⟨k - 1, by omega⟩
    have hlt : j < row.length := by omega
    rw [hostlerref12_Remove.l0, if_pos (by simp; omega), if_pos (by omega), rd_map0 row j hlt, List.drop_eq_getElem_cons hlt, w64 _ (by omega) (by omega)]
    by_cases h : row[j].f0 = id
    · rw [if_pos h, List.filter_cons_of_neg (by simp [h])]
      exact ih (j + 1) k o (by omega) (by omega) (by omega) (by omega)
    · rw [if_neg h, if_pos (by simp; omega), if_pos (by simp; omega), if_pos (by simp; omega), rd_map1 row j hlt, List.filter_cons_of_pos (by simp [h])]
      have := ih (j + 1) k (o ++ [row[j]]) (by omega) (by omega) (by simp; omega) (by omega)
      simpa [idsOf, atsOf] using this
theorem remove_ref (k : Nat) (R id : Int) (row : List S65) (hl : row.length ≤ 16) (hk : row.length < k) : hostlerref12_Remove.f k R (idsOf row) (atsOf row) id =
    some (R, idsOf (row.filter (fun x => decide (x.f0 ≠ id))), atsOf (row.filter (fun x => decide (x.f0 ≠ id))), decide ((row.filter (fun x => decide (x.f0 ≠ id))).length < row.length)) := by
  have := remove_l0 R id row hl row.length 0 k [] (by omega) (by omega) (by simp) hk
  simpa [hostlerref12_Remove.f] using this
theorem expire_l0 (R now wait : Int) (row : List S65) (hl : row.length ≤ 16) : ∀ (d j k : Nat) (l : List Int) (o : List S65), row.length - j = d → j ≤ row.length → o.length ≤ j → l.length ≤ j → d < k →
    hostlerref12_Expire.l0 k now wait l (j : Int) R (idsOf row) (atsOf row) R (idsOf o) (atsOf o) = some (R, idsOf (o ++ (row.drop j).filter (fun x => !late now wait x)), atsOf (o ++ (row.drop j).filter (fun x => !late now wait x)), l ++ idsOf ((row.drop j).filter (late now wait))) := by
  intro d
  induction d with
  | zero =>
    intro j k l o hd hj ho hl2 hk
    obtain ⟨k, rfl⟩ : ∃ m, k = m + 1 := ⟨k - 1, by omega⟩
    rw [hostlerref12_Expire.l0, if_neg (by simp; omega), List.drop_eq_nil_of_le (by omega)]
    simp
  | succ d ih =>
    intro j k l o hd hj ho hl2 hk
    obtain ⟨k, rfl⟩ : ∃ m, k = m + 1 := ⟨k - 1, by omega⟩
    have hlt : j < row.length := by omega
    rw [hostlerref12_Expire.l0, if_pos (by simp; omega), if_pos (by omega), if_pos (by simp; omega), rd_map0 row j hlt, rd_map1 row j hlt, add_ref, Option.bind_some, past_ref, Option.bind_some, List.drop_eq_getElem_cons hlt, w64 ((j : Int) + 1) (by omega) (by omega)]
    have e := late_ref now wait row[j]
    have ec : C now ≥ C (C (C row[j].f1 + C wait)) ↔ C now ≥ C (C row[j].f1 + C wait) := by rw [C_id (C (C row[j].f1 + C wait)) (C_bd _).1 (C_bd _).2]
    by_cases h : C now ≥ C (C row[j].f1 + C wait)
    · rw [decide_eq_true h] at e
      rw [decide_eq_true (ec.mpr h), if_pos rfl, if_pos (by omega), show (row[j] :: row.drop (j + 1)).filter (late now wait) = row[j] :: (row.drop (j + 1)).filter (late now wait) from List.filter_cons_of_pos e, show (row[j] :: row.drop (j + 1)).filter (fun x => !late now wait x) = (row.drop (j + 1)).filter (fun x => !late now wait x) from List.filter_cons_of_neg (by simp [e])]
      have := ih (j + 1) k (l ++ [row[j].f0]) o (by omega) (by omega) (by omega) (by simp; omega) (by omega)
      simpa [idsOf] using this
    · rw [decide_eq_false h] at e
      rw [decide_eq_false (fun h2 => h (ec.mp h2)), if_neg (by decide), if_pos (by simp; omega), if_pos (by simp; omega), show (row[j] :: row.drop (j + 1)).filter (late now wait) = (row.drop (j + 1)).filter (late now wait) from List.filter_cons_of_neg (by simp [e]), show (row[j] :: row.drop (j + 1)).filter (fun x => !late now wait x) = row[j] :: (row.drop (j + 1)).filter (fun x => !late now wait x) from List.filter_cons_of_pos (by simp [e])]
      have := ih (j + 1) k l (o ++ [row[j]]) (by omega) (by omega) (by simp; omega) (by omega) (by omega)
      simpa [idsOf, atsOf] using this
theorem expire_ref (k : Nat) (R now wait : Int) (row : List S65) (hl : row.length ≤ 16) (hk : row.length < k) : hostlerref12_Expire.f k R (idsOf row) (atsOf row) now wait =
    some (R, idsOf (row.filter (fun x => !late now wait x)), atsOf (row.filter (fun x => !late now wait x)), idsOf (row.filter (late now wait))) := by
  have := expire_l0 R now wait row hl row.length 0 k [] [] (by omega) (by omega) (by simp) (by simp) hk
  simpa [hostlerref12_Expire.f] using this
theorem place_app (a b : List S65) (x : S65) (j : Int) (h : ∀ y ∈ a, y.f0 ≠ x.f0) : placeOf (a ++ x :: b) x.f0 j = j + a.length := by
  induction a generalizing j with
  | nil => simp [placeOf]
  | cons y a ih =>
    rw [List.cons_append, placeOf, if_neg (h y (by simp)), ih (j + 1) (fun z hz => h z (by simp [hz]))]
    simp
    omega
theorem nodup_ids {a b : List S65} {x : S65} (h : (idsOf (a ++ x :: b)).Nodup) : (∀ y ∈ a, y.f0 ≠ x.f0) ∧ (∀ y ∈ b, y.f0 ≠ x.f0) ∧ (idsOf (a ++ b)).Nodup := by
  simp only [idsOf, List.map_append, List.map_cons, List.nodup_append, List.nodup_cons, List.mem_map, List.mem_cons] at h
  obtain ⟨h1, ⟨h2, h3⟩, h4⟩ := h
  refine ⟨fun y hy e => h4 y.f0 ⟨y, hy, rfl⟩ x.f0 (.inl rfl) e, fun y hy e => h2 ⟨y, hy, e⟩, ?_⟩
  simp only [idsOf, List.map_append, List.nodup_append, List.mem_map]
  exact ⟨h1, h3, fun u hu v hv => h4 u hu v (.inr hv)⟩
theorem exp_ref (now wait : Int) : ∀ (n : Nat) (row : List S65) (acc : List Int), (idsOf row).Nodup → row.length ≤ n → expLoop now wait n row acc = (acc ++ idsOf (row.filter (late now wait)), row.filter (fun x => !late now wait x)) := by
  intro n
  induction n with
  | zero =>
    intro row acc _ hn
    obtain rfl : row = [] := List.eq_nil_of_length_eq_zero (by omega)
    simp [expLoop]
  | succ n ih =>
    intro row acc hnd hn
    rw [expLoop]
    cases hf : row.find? (late now wait) with
    | none =>
      have hno := List.find?_eq_none.mp hf
      have e1 : row.filter (late now wait) = [] := List.filter_eq_nil_iff.mpr hno
      have e2 : row.filter (fun x => !late now wait x) = row := List.filter_eq_self.mpr (fun x hx => by simpa using hno x hx)
      rw [e1, e2]
      simp
    | some x =>
      obtain ⟨hx, a, b, rfl, ha⟩ := List.find?_eq_some_iff_append.mp hf
      obtain ⟨n1, n2, n3⟩ := nodup_ids hnd
      dsimp only
      rw [place_app a b x 0 n1, show ((0 : Int) + (a.length : Int)).toNat = a.length by omega, List.eraseIdx_append_of_length_le (Nat.le_refl _), Nat.sub_self, List.eraseIdx_cons_zero, ih (a ++ b) _ n3 (by simp at hn ⊢; omega)]
      have ea : a.filter (late now wait) = [] := List.filter_eq_nil_iff.mpr (fun y hy => by simpa using ha y hy)
      simp [List.filter_append, List.filter_cons, hx, ea]
theorem filter_ne (row : List S65) (id : Int) (hnd : (idsOf row).Nodup) : row.filter (fun x => decide (x.f0 ≠ id)) = if placeOf row id 0 < 0 then row else row.eraseIdx (placeOf row id 0).toNat := by
  have key : ∀ (row : List S65) (j : Int), 0 ≤ j → (idsOf row).Nodup → row.filter (fun x => decide (x.f0 ≠ id)) = if placeOf row id j < 0 then row else row.eraseIdx (placeOf row id j - j).toNat := by
    intro row
    induction row with
    | nil => intro j hj _; rw [placeOf, if_pos (by omega)]; rfl
    | cons x l ih =>
      intro j hj hnd
      simp only [idsOf, List.map_cons, List.nodup_cons, List.mem_map] at hnd
      rw [placeOf]
      by_cases h : x.f0 = id
      · rw [if_pos h, if_neg (by omega), Int.sub_self, List.filter_cons_of_neg (by simp [h])]
        exact List.filter_eq_self.mpr (fun y hy => by simpa using fun e => hnd.1 ⟨y, hy, e.trans h.symm⟩)
      · rw [if_neg h, List.filter_cons_of_pos (by simp [h]), ih (j + 1) (by omega) hnd.2]
        have hb := placeOf_bd l id (j + 1)
        by_cases h2 : placeOf l id (j + 1) < 0
        · rw [if_pos h2, if_pos h2]
        · rw [if_neg h2, if_neg h2, show (placeOf l id (j + 1) - j).toNat = (placeOf l id (j + 1) - (j + 1)).toNat + 1 by omega, List.eraseIdx_cons_succ]
  have := key row 0 (by omega) hnd
  rwa [Int.sub_zero] at this
/-- The queue and the reference are the same. -/
structure Inv (s : QS) (R : Int) : Prop where
  room : R = (s.room : Int)
  le : s.row.length ≤ s.room
  r16 : s.room ≤ 16
  nd : (idsOf s.row).Nodup
theorem Inv.sub {s : QS} {R : Int} (h : Inv s R) {row : List S65} (hs : row.Sublist s.row) : Inv { s with row := row } R :=
  ⟨h.room, Nat.le_trans hs.length_le h.le, h.r16, (hs.map _).nodup h.nd⟩
/-- One step of both: what they answer is the same, and so is what they hold. -/
theorem step_push {s : QS} {R : Int} (hI : Inv s R) (id now : Int) : ∃ (f : Int) (s' : QS), hostlerref12_Push.f 40 R (idsOf s.row) (atsOf s.row) id now = some (R, idsOf s'.row, atsOf s'.row, f) ∧ queue_Queue_Push.f s id now = some (f, s') ∧ Inv s' R := by
  have hle := hI.le
  have h16 := hI.r16
  have hroom := hI.room
  rw [push_ref 40 R id now s.row (by omega) (by omega)]
  unfold queue_Queue_Push.f
  by_cases h1 : placeOf s.row id 0 ≥ 0
  · rw [if_pos h1, if_pos h1]
    exact ⟨6, s, rfl, rfl, hI⟩
  · rw [if_neg h1, if_neg h1]
    by_cases h2 : s.row.length < s.room
    · rw [if_neg (show ¬ (s.row.length : Int) ≥ R by omega), if_pos h2]
      have hno : ∀ y ∈ s.row, y.f0 ≠ id := by
        intro y hy e
        have : ∀ (row : List S65) (j : Int), 0 ≤ j → y ∈ row → 0 ≤ placeOf row id j := by
          intro row
          induction row with
          | nil => intro j _ h; simp at h
          | cons z row ih2 =>
            intro j hj h
            rw [placeOf]
            split
            · exact hj
            · rename_i hne
              rcases List.mem_cons.mp h with rfl | h
              · exact absurd e hne
              · exact ih2 (j + 1) (by omega) h
        exact h1 (this s.row 0 (by omega) hy)
      refine ⟨0, { s with row := s.row ++ [⟨id, mn (mx now 0) 1099511627776⟩] }, rfl, rfl, hroom, by simp; omega, h16, ?_⟩
      show (idsOf (s.row ++ [⟨id, mn (mx now 0) 1099511627776⟩])).Nodup
      simp only [idsOf, List.map_append, List.map_cons, List.map_nil, List.nodup_append, List.mem_map, List.mem_singleton]
      refine ⟨hI.nd, by simp, ?_⟩
      rintro u ⟨y, hy, rfl⟩ v rfl
      exact hno y hy
    · rw [if_pos (show (s.row.length : Int) ≥ R by omega), if_neg h2]
      exact ⟨7, s, rfl, rfl, hI⟩
theorem step_pop {s : QS} {R : Int} (hI : Inv s R) : ∃ (id : Int) (was : Bool) (s' : QS), hostlerref12_Pop.f 40 R (idsOf s.row) (atsOf s.row) = some (R, idsOf s'.row, atsOf s'.row, id, was) ∧ queue_Queue_Pop.f s = some (id, was, s') ∧ Inv s' R := by
  have hle := hI.le
  have h16 := hI.r16
  unfold hostlerref12_Pop.f queue_Queue_Pop.f
  cases hr : s.row with
  | nil =>
    rw [if_pos (by simp)]
    exact ⟨0, false, s, by rw [hr], rfl, hI⟩
  | cons y l =>
    have hnd := hI.nd
    rw [hr] at hnd
    rw [if_neg (by first | (simp; done) | (simp; omega)), if_pos (by first | (simp; done) | (simp; omega)), show rd (idsOf (y :: l)) 0 = y.f0 by simp [rd], remove_ref 40 R y.f0 (y :: l) (by rw [hr] at hle; omega) (by rw [hr] at hle; omega), filter_ne (y :: l) y.f0 hnd]
    simp only [placeOf, if_true, Option.bind_some]
    rw [if_neg (by decide)]
    simp only [Int.toNat_zero, List.eraseIdx_cons_zero]
    exact ⟨y.f0, true, { s with row := l }, rfl, rfl, hI.sub (by rw [hr]; exact List.sublist_cons_self _ _)⟩
theorem step_remove {s : QS} {R : Int} (hI : Inv s R) (id : Int) : ∃ (was : Bool) (s' : QS), hostlerref12_Remove.f 40 R (idsOf s.row) (atsOf s.row) id = some (R, idsOf s'.row, atsOf s'.row, was) ∧ queue_Queue_Remove.f s id = some (was, s') ∧ Inv s' R := by
  have hle := hI.le
  have h16 := hI.r16
  have hb := placeOf_bd s.row id 0
  rw [remove_ref 40 R id s.row (by omega) (by omega), filter_ne s.row id hI.nd]
  unfold queue_Queue_Remove.f
  by_cases h1 : placeOf s.row id 0 < 0
  · rw [if_pos h1, if_pos h1]
    refine ⟨false, s, ?_, rfl, hI⟩
    rw [decide_eq_false (by omega)]
  · rw [if_neg h1, if_neg h1]
    have hlt : (s.row.eraseIdx (placeOf s.row id 0).toNat).length < s.row.length := by
      rw [List.length_eraseIdx_of_lt (by omega)]
      omega
    refine ⟨true, { s with row := s.row.eraseIdx (placeOf s.row id 0).toNat }, ?_, rfl, hI.sub (List.eraseIdx_sublist _ _)⟩
    rw [decide_eq_true hlt]
theorem step_expire {s : QS} {R : Int} (hI : Inv s R) (now wait : Int) : ∃ (l : List Int) (s' : QS), hostlerref12_Expire.f 40 R (idsOf s.row) (atsOf s.row) now wait = some (R, idsOf s'.row, atsOf s'.row, l) ∧ queue_Queue_Expire.f s now wait = some (l, s') ∧ Inv s' R ∧ l.length ≤ 16 := by
  have hle := hI.le
  have h16 := hI.r16
  rw [expire_ref 40 R now wait s.row (by omega) (by omega)]
  unfold queue_Queue_Expire.f
  rw [exp_ref now wait s.row.length s.row [] hI.nd (Nat.le_refl _)]
  have hfl := List.length_filter_le (late now wait) s.row
  exact ⟨_, { s with row := s.row.filter (fun y => !late now wait y) }, rfl, rfl, hI.sub List.filter_sublist, by simp; omega⟩
theorem new_step (a0 : Int) : ∃ (R : Int) (s : QS), hostlerref12_New.f a0 = some (R, idsOf s.row, atsOf s.row) ∧ queue_New.f a0 = some s ∧ Inv s R := by
  have h0 : 0 ≤ mn (mx a0 0) 16 := by unfold mn mx; split <;> split <;> omega
  have h1 : mn (mx a0 0) 16 ≤ 16 := by unfold mn mx; split <;> split <;> omega
  exact ⟨_, ⟨(mn (mx a0 0) 16).toNat, []⟩, rfl, rfl, by simp; omega, by simp, by simp; omega, by simp⟩
end Go.Proofs.Ytdcnmjdohjodhaa.Qp
