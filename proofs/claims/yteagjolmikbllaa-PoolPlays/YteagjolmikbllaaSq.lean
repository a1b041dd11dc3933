/-
  The pool's reference: sorted lists, all of them, which are; the reference as functions of its state; how it goes with the pool. Conditions: none.
-/
import Derived.Test.YteagjolmikbllaaSt
set_option linter.unusedVariables false
set_option linter.unusedSimpArgs false
namespace Go.Proofs.Yteagjolmikbllaa.Ob
open Go.RowKit Go.Proofs.YteagjolmikbllaaW.PrintWords Go.Proofs.YteagjolmikbllaaW.PrintLast Go.Proofs.YteagjolmikbllaaW.PrintMore Go.Proofs.Yteagjolmikbllaa.Hid Go.Proofs.Yteagjolmikbllaa.Mp Go.Proofs.Yteagjolmikbllaa.PA
variable {s : PS}
theorem list_ext : ∀ {a b : List Int}, a.Pairwise (· < ·) → b.Pairwise (· < ·) → (∀ p, p ∈ a ↔ p ∈ b) → a = b
  | [], [], _, _, _ => rfl
  | [], y :: b, _, _, h => by have := (h y).2 (by simp); simp at this
  | x :: a, [], _, _, h => by have := (h x).1 (by simp); simp at this
  | x :: a, y :: b, ha, hb, h => by
    have h1 := List.pairwise_cons.1 ha
    have h2 := List.pairwise_cons.1 hb
    have hxy : x = y := by
      rcases List.mem_cons.1 ((h x).1 (by simp)) with e | e
      · exact e
      · rcases List.mem_cons.1 ((h y).2 (by simp)) with e2 | e2
        · exact e2.symm
        · have := h2.1 x e
          have := h1.1 y e2
          omega
    subst hxy
    congr 1
    refine list_ext h1.2 h2.2 (fun p => ⟨fun hp => ?_, fun hp => ?_⟩)
    · rcases List.mem_cons.1 ((h p).1 (List.mem_cons_of_mem _ hp)) with e | e
      · subst e; have := h1.1 p hp; omega
      · exact e
    · rcases List.mem_cons.1 ((h p).2 (List.mem_cons_of_mem _ hp)) with e | e
      · subst e; have := h2.1 p hp; omega
      · exact e
theorem rd_get {xs : List Int} {j : Nat} (h : j < xs.length) : rd xs (j : Int) = xs[j] := by simp [rd, List.getD, h]
theorem ins_at (acc : List Int) (x : Int) (j : Nat) (hj : j ≤ acc.length) (hr : acc.Pairwise (· < ·)) (h1 : ∀ m (h : m < acc.length), j ≤ m → x < acc[m]) (h2 : ∀ m (h : m < acc.length), m < j → acc[m] < x) :
    ((acc.take j ++ [x]) ++ acc.drop j).Pairwise (· < ·) ∧ (∀ y, y ∈ (acc.take j ++ [x]) ++ acc.drop j ↔ y = x ∨ y ∈ acc) ∧ ((acc.take j ++ [x]) ++ acc.drop j).length = acc.length + 1 := by
  have hd : ∀ b ∈ acc.drop j, x < b := fun b hb => by
    obtain ⟨m, hm, rfl⟩ := List.mem_iff_getElem.1 hb
    rw [List.getElem_drop]
    exact h1 (j + m) _ (by omega)
  have ht : ∀ b ∈ acc.take j, b < x := fun b hb => by
    obtain ⟨m, hm, rfl⟩ := List.mem_iff_getElem.1 hb
    rw [List.getElem_take]
    have : m < j := by rw [List.length_take] at hm; omega
    exact h2 m _ this
  refine ⟨?_, fun y => ?_, ?_⟩
  · rw [List.pairwise_append, List.pairwise_append]
    refine ⟨⟨hr.sublist (List.take_sublist _ _), List.pairwise_singleton _ _, fun a ha b hb => ?_⟩, hr.sublist (List.drop_sublist _ _), fun a ha b hb => ?_⟩
    · rw [List.mem_singleton.1 hb]; exact ht a ha
    · rcases List.mem_append.1 ha with h | h
      · exact Int.lt_trans (ht a h) (hd b hb)
      · rw [List.mem_singleton.1 h]; exact hd b hb
  · have e : y ∈ acc ↔ y ∈ acc.take j ∨ y ∈ acc.drop j := by rw [← List.mem_append, List.take_append_drop]
    rw [e]
    simp only [List.mem_append, List.mem_singleton]
    constructor
    · rintro ((h | h) | h)
      · exact .inr (.inl h)
      · exact .inl h
      · exact .inr (.inr h)
    · rintro (h | h | h)
      · exact .inl (.inr h)
      · exact .inl (.inl h)
      · exact .inr h
  · simp only [List.length_append, List.length_take, List.length_drop, List.length_singleton]
    omega
theorem ins_loop (xs acc : List Int) (i : Nat) (hi : i < xs.length) (hx : xs.length ≤ 1000) (ha : acc.length ≤ 1000) (hr : acc.Pairwise (· < ·)) (hn : xs[i] ∉ acc) : ∀ (j k : Nat), j ≤ acc.length → (∀ m (h : m < acc.length), j ≤ m → xs[i] < acc[m]) → j < k →
    ∃ k' acc', k - j - 1 ≤ k' ∧ hostlerref16_Sorted.l1 k xs acc (i : Int) (j : Int) = hostlerref16_Sorted.l0 k' xs acc' ((i + 1 : Nat) : Int) ∧ acc'.Pairwise (· < ·) ∧ (∀ y, y ∈ acc' ↔ y = xs[i] ∨ y ∈ acc) ∧ acc'.length = acc.length + 1 := by
  intro j
  induction j with
  | zero =>
    intro k hj hm hk
    obtain ⟨k, rfl⟩ : ∃ m, k = m + 1 := ⟨k - 1, by omega⟩
    obtain ⟨p1, p2, p3⟩ := ins_at acc xs[i] 0 hj hr hm (fun m _ h => by omega)
    have hw : wrap64 ((i : Int) + 1) = ((i + 1 : Nat) : Int) := by unfold wrap64; omega
    refine ⟨k, _, by omega, ?_, p1, p2, p3⟩
    simp only [hostlerref16_Sorted.l1]
    rw [if_neg (by omega), if_pos (by omega), if_pos (by omega), Option.bind_some, if_pos (by simp), Option.bind_some, if_pos (by omega), if_pos (by omega), if_pos (by simp), Option.bind_some, Option.bind_some, hw, rd_get hi]
    rw [if_pos (by simp; omega)]
    simp
  | succ j ih =>
    intro k hj hm hk
    obtain ⟨k, rfl⟩ : ∃ m, k = m + 1 := ⟨k - 1, by omega⟩
    have hjl : j < acc.length := by omega
    have hw : wrap64 ((i : Int) + 1) = ((i + 1 : Nat) : Int) := by unfold wrap64; omega
    have hv : wrap64 (((j + 1 : Nat) : Int) - 1) = (j : Int) := by unfold wrap64; omega
    by_cases hc : acc[j] > xs[i]
    · obtain ⟨k', acc', q1, q2, q3⟩ := ih k (by omega) (fun m h hjm => by
        rcases Nat.eq_or_lt_of_le hjm with e | e
        · subst e; exact hc
        · exact hm m h e) (by omega)
      refine ⟨k', acc', by omega, ?_, q3⟩
      simp only [hostlerref16_Sorted.l1]
      rw [if_pos (by omega), hv, if_pos (by omega), if_pos (by omega), if_pos (by omega), if_pos (by omega), rd_get hi, rd_get hjl, if_pos hc]
      exact q2
    · have hlt : acc[j] < xs[i] := by
        have : acc[j] ≠ xs[i] := fun e => hn (by rw [← e]; exact List.getElem_mem hjl)
        omega
      obtain ⟨p1, p2, p3⟩ := ins_at acc xs[i] (j + 1) hj hr hm (fun m h hmj => by
        rcases Nat.eq_or_lt_of_le (Nat.le_of_lt_succ hmj) with e | e
        · subst e; exact hlt
        · exact Int.lt_trans (List.pairwise_iff_getElem.1 hr m j h hjl e) hlt)
      refine ⟨k, _, by omega, ?_, p1, p2, p3⟩
      simp only [hostlerref16_Sorted.l1]
      rw [if_pos (by omega), hv, if_pos (by omega), if_pos (by omega), if_pos (by omega), if_pos (by omega), rd_get hi, rd_get hjl, if_neg hc, if_pos (by omega), if_pos (by omega), Option.bind_some, Int.toNat_natCast]
      rw [if_pos (by simp only [List.length_take, List.length_nil]; omega), Option.bind_some, List.nil_append, if_pos (by simp only [List.length_take]; omega), Option.bind_some, Option.bind_some, hw, if_pos (by simp only [List.length_append, List.length_take, List.length_drop, List.length_singleton]; omega)]
set_option maxRecDepth 20000 in
theorem sort_loop (xs : List Int) (hx : xs.length ≤ 999) (hnd : xs.Nodup) (d : Nat) : ∀ (k i : Nat) (acc : List Int), i ≤ xs.length → xs.length - i = d → d * 2000 < k → acc.Pairwise (· < ·) → (∀ y, y ∈ acc ↔ y ∈ xs.take i) → acc.length = i →
    ∃ r, hostlerref16_Sorted.l0 k xs acc (i : Int) = some r ∧ r.Pairwise (· < ·) ∧ ∀ y, y ∈ r ↔ y ∈ xs := by
  induction d with
  | zero =>
    intro k i acc hi hd hk hr hm hl
    obtain ⟨k, rfl⟩ : ∃ m, k = m + 1 := ⟨k - 1, by omega⟩
    refine ⟨acc, ?_, hr, fun y => ?_⟩
    · simp only [hostlerref16_Sorted.l0]
      rw [if_neg (by omega)]
    · rw [hm, List.take_of_length_le (by omega)]
  | succ d ih =>
    intro k i acc hi hd hk hr hm hl
    obtain ⟨k, rfl⟩ : ∃ m, k = m + 1 := ⟨k - 1, by omega⟩
    have hlt : i < xs.length := by omega
    have hn : xs[i] ∉ acc := fun h => by
      obtain ⟨m, h1, h2⟩ := List.mem_iff_getElem.1 ((hm _).1 h)
      have h3 : m < i := by rw [List.length_take] at h1; omega
      rw [List.getElem_take] at h2
      exact (List.pairwise_iff_getElem.1 hnd m i (by omega) hlt h3) h2
    obtain ⟨k', acc', q1, q2, q3, q4, q5⟩ := ins_loop xs acc i hlt (by omega) (by omega) hr hn acc.length k (Nat.le_refl _) (fun m h1 h2 => by omega) (by omega)
    obtain ⟨r, r1, r2, r3⟩ := ih k' (i + 1) acc' (by omega) (by omega) (by omega) q3 (fun y => by
      rw [q4, hm, List.take_succ_eq_append_getElem hlt, List.mem_append, List.mem_singleton]
      exact ⟨fun h => h.elim .inr .inl, fun h => h.elim .inr .inl⟩) (by omega)
    refine ⟨r, ?_, r2, r3⟩
    simp only [hostlerref16_Sorted.l0]
    rw [if_pos (by omega), q2]
    exact r1
set_option maxRecDepth 20000 in
theorem sort_pure (xs r : List Int) (hx : xs.length ≤ 999) (hnd : xs.Nodup) (hr : r.Pairwise (· < ·)) (hm : ∀ y, y ∈ r ↔ y ∈ xs) : ∃ k, hostlerref16_Sorted.f k xs = some r := by
  obtain ⟨k, hk⟩ : ∃ k, xs.length * 2000 < k := ⟨_, Nat.lt_succ_self _⟩
  obtain ⟨r', h1, h2, h3⟩ := sort_loop xs hx hnd xs.length k 0 [] (Nat.zero_le _) (Nat.sub_zero _) hk List.Pairwise.nil (fun y => by simp) rfl
  have e : r' = r := list_ext h2 hr (fun y => (h3 y).trans (hm y).symm)
  exact ⟨k, by rw [← e]; exact h1⟩
/-- The reference's state. -/
structure Rp where
  m : List Int
  i : List Int
  b : List Int
def Rp.all (r : Rp) : List Int := r.m ++ r.i ++ r.b
def rMake (n : Nat) (r : Rp) (id : Int) : Int × Rp := if id ∈ r.m ∨ id ∈ r.i ∨ id ∈ r.b then (6, r) else if r.m.length + r.i.length + r.b.length < n then (0, ⟨r.m ++ [id], r.i, r.b⟩) else (7, r)
def rReady (r : Rp) (id : Int) : Bool × Rp := if id ∈ r.m then (true, ⟨dropRow r.m id, r.i ++ [id], r.b⟩) else (false, r)
def rGive (r : Rp) (id : Int) : Bool × Rp := if id ∈ r.b then (true, ⟨r.m, r.i ++ [id], dropRow r.b id⟩) else (false, r)
def rTake (r : Rp) : Int × Bool × Rp := match r.i.getLast? with
  | none => (0, false, r)
  | some id => (id, true, ⟨r.m, dropRow r.i id, r.b ++ [id]⟩)
def rDrop (r : Rp) (id : Int) : Bool × Rp := (decide (id ∈ r.m ∨ id ∈ r.i ∨ id ∈ r.b), ⟨dropRow r.m id, dropRow r.i id, dropRow r.b id⟩)
/-- The reference goes with the pool. -/
structure Goes (s : PS) (r : Rp) : Prop where
  i : r.i = s.stack
  mn : r.m.Nodup
  m : ∀ k, k ∈ r.m ↔ code s.what k = 1
  bn : r.b.Nodup
  b : ∀ k, k ∈ r.b ↔ code s.what k = 3
theorem Goes.new (n : Nat) : Goes ⟨n, [], []⟩ ⟨[], [], []⟩ := ⟨rfl, List.nodup_nil, fun k => by simp [code, Mp.look], List.nodup_nil, fun k => by simp [code, Mp.look]⟩
theorem mem_drop {l : List Int} {id k : Int} : k ∈ dropRow l id ↔ k ∈ l ∧ k ≠ id := by unfold dropRow; rw [List.mem_filter]; simp
theorem nodup_drop {l : List Int} (h : l.Nodup) (id : Int) : (dropRow l id).Nodup := h.sublist List.filter_sublist
theorem nodup_snoc {l : List Int} {id : Int} (h : l.Nodup) (hn : id ∉ l) : (l ++ [id]).Nodup := by
  rw [List.nodup_append]
  exact ⟨h, by simp, fun a ha b hb => by
    rw [List.mem_singleton.1 hb]
    rintro rfl
    exact hn ha⟩
theorem code2 (h : PInv s) (k : Int) : k ∈ s.stack ↔ code s.what k = 2 := (h.idle k).trans (code_some h.rise (by decide)).symm
theorem keyc (h : PInv s) (id : Int) : id ∈ keys s.what ↔ code s.what id ≠ 0 := by
  constructor
  · intro hk hc
    obtain ⟨p, hp, rfl⟩ := List.mem_map.1 hk
    exact (look_none.1 (h.none hc)) p.2 hp
  · intro hc
    unfold code at hc
    cases hl : Mp.look s.what id with
    | none => rw [hl] at hc; exact absurd rfl hc
    | some v => exact List.mem_map.2 ⟨(id, v), (look_some h.rise).1 hl, rfl⟩
theorem code123 (h : PInv s) {k : Int} (hk : code s.what k ≠ 0) : code s.what k = 1 ∨ code s.what k = 2 ∨ code s.what k = 3 := by
  obtain ⟨p, hp, rfl⟩ := List.mem_map.1 ((keyc h k).2 hk)
  have e : code s.what p.1 = p.2 := by unfold code; rw [(look_some h.rise).2 hp]; rfl
  rw [e]
  exact (h.vals p hp).2
theorem code_bad (h : PInv s) (k : Int) : code s.what k = 0 ∨ code s.what k = 1 ∨ code s.what k = 2 ∨ code s.what k = 3 := by
  by_cases hk : code s.what k = 0
  · exact .inl hk
  · exact .inr (code123 h hk)
section
variable {r : Rp}
theorem Goes.there (h : Goes s r) (hv : PInv s) (id : Int) : (id ∈ r.m ∨ id ∈ r.i ∨ id ∈ r.b) ↔ code s.what id ≠ 0 := by
  rw [h.m, h.i, h.b, code2 hv]
  rcases code_bad hv id with e | e | e | e <;> simp [e]
theorem Goes.nodup (h : Goes s r) (hv : PInv s) : (r.m ++ r.i ++ r.b).Nodup := by
  rw [List.nodup_append, List.nodup_append]
  refine ⟨⟨h.mn, by rw [h.i]; exact hv.nodup, fun a ha b hb => ?_⟩, h.bn, fun a ha b hb => ?_⟩
  · rintro rfl
    rw [h.i, code2 hv] at hb
    have := (h.m a).1 ha
    omega
  · rintro rfl
    have h3 := (h.b a).1 hb
    rcases List.mem_append.1 ha with ha | ha
    · have := (h.m a).1 ha; omega
    · rw [h.i, code2 hv] at ha; omega
theorem Goes.all (h : Goes s r) (hv : PInv s) (k : Int) : k ∈ r.m ++ r.i ++ r.b ↔ k ∈ keys s.what := by
  rw [List.mem_append, List.mem_append, or_assoc, h.there hv, keyc hv]
theorem Goes.len (h : Goes s r) (hv : PInv s) : r.m.length + r.i.length + r.b.length = s.what.length := by
  have e : (r.m ++ r.i ++ r.b).length = (keys s.what).length := Nat.le_antisymm ((h.nodup hv).length_le_of_subset (fun k hk => (h.all hv k).1 hk)) ((keys_nodup hv.rise).length_le_of_subset (fun k hk => (h.all hv k).2 hk))
  simp only [keys, List.length_append, List.length_map] at e
  exact e
theorem Goes.those1 (h : Goes s r) (hv : PInv s) : (∀ k, k ∈ those s 46 ↔ k ∈ r.m) ∧ (those s 46).Pairwise (· < ·) := by
  refine ⟨fun k => ?_, (keys_rising hv.rise).sublist List.filter_sublist⟩
  unfold those
  rw [List.mem_filter, keyc hv, h.m]
  simp only [asks]
  rcases code_bad hv k with e | e | e | e <;> simp [e]
theorem Goes.those3 (h : Goes s r) (hv : PInv s) : (∀ k, k ∈ those s 40 ↔ k ∈ r.b) ∧ (those s 40).Pairwise (· < ·) := by
  refine ⟨fun k => ?_, (keys_rising hv.rise).sublist List.filter_sublist⟩
  unfold those
  rw [List.mem_filter, keyc hv, h.b]
  simp only [asks]
  rcases code_bad hv k with e | e | e | e <;> simp [e]
theorem Goes.make (h : Goes s r) (hv : PInv s) (id : Int) : (rMake s.size r id).1 = (makeF s id).1 ∧ Goes (makeF s id).2 (rMake s.size r id).2 := by
  unfold rMake makeF
  have hl := h.len hv
  have ht := h.there hv id
  by_cases hc : code s.what id = 0
  · rw [if_neg (fun e => ht.1 e hc), if_pos hc]
    by_cases hf : s.what.length < s.size
    · rw [if_pos (by omega), if_pos hf]
      have hnm : id ∉ r.m := fun e => by have := (h.m id).1 e; omega
      refine ⟨rfl, h.i, nodup_snoc h.mn hnm, fun k => ?_, h.bn, fun k => ?_⟩
      · rw [List.mem_append, List.mem_singleton, h.m]
        show _ ↔ code (put s.what id 1) k = 1
        by_cases e : k = id
        · subst e; rw [code_put_same hv.rise]; simp
        · rw [code_put_other hv.rise _ e]; simp [e]
      · rw [h.b]
        show _ ↔ code (put s.what id 1) k = 3
        by_cases e : k = id
        · subst e; rw [code_put_same hv.rise, hc]; simp
        · rw [code_put_other hv.rise _ e]
    · rw [if_neg (by omega), if_neg hf]
      exact ⟨rfl, h⟩
  · rw [if_pos (ht.2 hc), if_neg hc]
    exact ⟨rfl, h⟩
theorem Goes.ready (h : Goes s r) (hv : PInv s) (id : Int) : (rReady r id).1 = (readyF s id).1 ∧ Goes (readyF s id).2 (rReady r id).2 := by
  unfold rReady readyF
  by_cases hc : code s.what id = 1
  · rw [if_pos ((h.m id).2 hc), if_pos hc]
    refine ⟨rfl, by show r.i ++ [id] = s.stack ++ [id]; rw [h.i], nodup_drop h.mn id, fun k => ?_, h.bn, fun k => ?_⟩
    · show _ ↔ code (put s.what id 2) k = 1
      rw [mem_drop, h.m]
      by_cases e : k = id
      · subst e; rw [code_put_same hv.rise]; simp
      · rw [code_put_other hv.rise _ e]; simp [e]
    · show _ ↔ code (put s.what id 2) k = 3
      rw [h.b]
      by_cases e : k = id
      · subst e; rw [code_put_same hv.rise, hc]; simp
      · rw [code_put_other hv.rise _ e]
  · rw [if_neg (fun e => hc ((h.m id).1 e)), if_neg hc]
    exact ⟨rfl, h⟩
theorem Goes.give (h : Goes s r) (hv : PInv s) (id : Int) : (rGive r id).1 = (giveF s id).1 ∧ Goes (giveF s id).2 (rGive r id).2 := by
  unfold rGive giveF
  by_cases hc : code s.what id = 3
  · rw [if_pos ((h.b id).2 hc), if_pos hc]
    refine ⟨rfl, by show r.i ++ [id] = s.stack ++ [id]; rw [h.i], h.mn, fun k => ?_, nodup_drop h.bn id, fun k => ?_⟩
    · show _ ↔ code (put s.what id 2) k = 1
      rw [h.m]
      by_cases e : k = id
      · subst e; rw [code_put_same hv.rise, hc]; simp
      · rw [code_put_other hv.rise _ e]
    · show _ ↔ code (put s.what id 2) k = 3
      rw [mem_drop, h.b]
      by_cases e : k = id
      · subst e; rw [code_put_same hv.rise]; simp
      · rw [code_put_other hv.rise _ e]; simp [e]
  · rw [if_neg (fun e => hc ((h.b id).1 e)), if_neg hc]
    exact ⟨rfl, h⟩
theorem Goes.take (h : Goes s r) (hv : PInv s) : (rTake r).1 = (takeF s).1 ∧ (rTake r).2.1 = (takeF s).2.1 ∧ Goes (takeF s).2.2 (rTake r).2.2 := by
  unfold rTake
  rcases take_cases s with ⟨e, et⟩ | ⟨l, id, hs, et⟩
  · rw [et, h.i, e]
    exact ⟨rfl, rfl, h⟩
  · rw [et, h.i, hs]
    have hg : (l ++ [id]).getLast? = some id := by simp
    rw [hg]
    have hc : code s.what id = 2 := (code2 hv id).1 (by rw [hs]; simp)
    have hnd := hv.nodup
    rw [hs, List.nodup_append] at hnd
    refine ⟨rfl, rfl, ?_, h.mn, fun k => ?_, nodup_snoc h.bn (fun e => by have := (h.b id).1 e; omega), fun k => ?_⟩
    · show dropRow (l ++ [id]) id = l
      unfold dropRow
      rw [List.filter_append, List.filter_eq_self.2 (fun a ha => by
        have := hnd.2.2 a ha id (by simp)
        simp [this])]
      simp
    · show _ ↔ code (put s.what id 3) k = 1
      rw [h.m]
      by_cases e : k = id
      · subst e; rw [code_put_same hv.rise, hc]; simp
      · rw [code_put_other hv.rise _ e]
    · show _ ↔ code (put s.what id 3) k = 3
      rw [List.mem_append, List.mem_singleton, h.b]
      by_cases e : k = id
      · subst e; rw [code_put_same hv.rise]; simp
      · rw [code_put_other hv.rise _ e]; simp [e]
theorem Goes.drop (h : Goes s r) (hv : PInv s) (id : Int) : (rDrop r id).1 = (dropF s id).1 ∧ Goes (dropF s id).2 (rDrop r id).2 := by
  unfold rDrop dropF
  have ht := h.there hv id
  have hx : ∀ {l : List Int}, id ∉ l → dropRow l id = l := fun {l} hn => by
    unfold dropRow
    rw [List.filter_eq_self]
    intro a ha
    simp only [Bool.not_eq_true', decide_eq_false_iff_not]
    rintro rfl
    exact hn ha
  by_cases hc : code s.what id = 0
  · rw [if_pos hc, decide_eq_false (fun e => ht.1 e hc)]
    have hn := fun e => ht.1 e hc
    rw [hx (fun e => hn (.inl e)), hx (fun e => hn (.inr (.inl e))), hx (fun e => hn (.inr (.inr e)))]
    exact ⟨rfl, h⟩
  · rw [if_neg hc, decide_eq_true (ht.2 hc)]
    refine ⟨rfl, by show dropRow r.i id = dropRow s.stack id; rw [h.i], nodup_drop h.mn id, fun k => ?_, nodup_drop h.bn id, fun k => ?_⟩
    · show _ ↔ code (rem s.what id) k = 1
      rw [mem_drop, h.m]
      by_cases e : k = id
      · subst e; rw [code_rem_same]; simp
      · rw [code_rem_other hv.rise e]; simp [e]
    · show _ ↔ code (rem s.what id) k = 3
      rw [mem_drop, h.b]
      by_cases e : k = id
      · subst e; rw [code_rem_same]; simp
      · rw [code_rem_other hv.rise e]; simp [e]
end
end Go.Proofs.Yteagjolmikbllaa.Ob
