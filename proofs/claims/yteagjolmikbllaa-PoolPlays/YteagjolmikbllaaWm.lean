/-
  The pool's methods as functions of its state; what they keep; the laws' example. Conditions: none.
-/
import Derived.Test.YteagjolmikbllaaWd
import Derived.Test.YteagjolmikbllaaPAx2
import Derived.Lib.SliceRun
set_option linter.unusedVariables false
set_option linter.unusedSimpArgs false
namespace Go.Proofs.Yteagjolmikbllaa.Ob
open Go.RowKit Go.Proofs.YteagjolmikbllaaW.PrintWords Go.Proofs.YteagjolmikbllaaW.PrintLast Go.Proofs.YteagjolmikbllaaW.PrintMore Go.Proofs.Yteagjolmikbllaa.Hid Go.Proofs.Yteagjolmikbllaa.Mp Go.Proofs.Yteagjolmikbllaa.PA
variable {w0 w : World} {g : Nat} {s : PS}
/-- What always holds of a pool. -/
structure PInv (s : PS) : Prop where
  rise : Rising s.what
  vals : ∀ p ∈ s.what, I64 p.1 ∧ (p.2 = 1 ∨ p.2 = 2 ∨ p.2 = 3)
  nodup : s.stack.Nodup
  idle : ∀ k, k ∈ s.stack ↔ (k, 2) ∈ s.what
  size : s.what.length ≤ s.size ∧ s.size ≤ 8
theorem PInv.key (h : PInv s) : ∀ p ∈ s.what, I64 p.1 := fun p hp => (h.vals p hp).1
theorem PInv.ne0 (h : PInv s) : ∀ p ∈ s.what, p.2 ≠ 0 := fun p hp => by
  rcases (h.vals p hp).2 with e | e | e <;> rw [e] <;> decide
theorem PInv.none (h : PInv s) {id : Int} (hc : code s.what id = 0) : Mp.look s.what id = none := look_code h.ne0 h.rise hc
theorem code_some {l : PL} (hr : Rising l) {id v : Int} (hv : v ≠ 0) : code l id = v ↔ (id, v) ∈ l := by
  unfold code
  rw [← look_some hr]
  cases hl : Mp.look l id with
  | none => simp [Ne.symm hv]
  | some u => simp
theorem PInv.len (h : PInv s) : s.stack.length ≤ s.what.length := by
  have h1 : s.stack.length ≤ (keys s.what).length := h.nodup.length_le_of_subset (fun k hk => List.mem_map.2 ⟨(k, 2), (h.idle k).1 hk, rfl⟩)
  simpa [keys] using h1
theorem keys_nodup (h : Rising s.what) : (keys s.what).Nodup := (keys_rising h).imp (fun h => by omega)
theorem PInv.new (n : Nat) (h : n ≤ 8) : PInv ⟨n, [], []⟩ := ⟨List.Pairwise.nil, fun p hp => by simp at hp, List.nodup_nil, fun k => by simp, by simpa using h⟩
theorem put_inv {l : PL} (hr : Rising l) {id v : Int} (hid : I64 id) (hv : v = 1 ∨ v = 2 ∨ v = 3) (h : ∀ p ∈ l, I64 p.1 ∧ (p.2 = 1 ∨ p.2 = 2 ∨ p.2 = 3)) : ∀ p ∈ put l id v, I64 p.1 ∧ (p.2 = 1 ∨ p.2 = 2 ∨ p.2 = 3) := fun p hp => by
  rcases mem_put.1 hp with rfl | ⟨h1, _⟩
  · exact ⟨hid, hv⟩
  · exact h p h1
theorem PInv.make (h : PInv s) {id : Int} (hid : I64 id) : PInv (makeF s id).2 := by
  unfold makeF
  split
  · rename_i hc
    split
    · rename_i hl
      refine ⟨h.rise.put id 1, put_inv h.rise hid (.inl rfl) h.vals, h.nodup, fun k => ?_, ?_⟩
      · rw [h.idle k, mem_put]
        constructor
        · intro hm
          refine .inr ⟨hm, ?_⟩
          rintro rfl
          exact (look_none.1 (h.none hc)) 2 hm
        · rintro (e | e)
          · exfalso; simp at e
          · exact e.1
      · show (put s.what id 1).length ≤ s.size ∧ _
        rw [len_put_new 1 (h.none hc)]
        exact ⟨hl, h.size.2⟩
    · exact h
  · exact h
theorem PInv.rest (h : PInv s) {id : Int} (hid : I64 id) {c : Int} (hc : code s.what id = c) (h0 : c ≠ 0) (h2 : c ≠ 2) : PInv (restF s id) := by
  have hm : (id, c) ∈ s.what := (code_some h.rise h0).1 hc
  have hn : id ∉ s.stack := fun hs => by
    have := rising_inj h.rise hm ((h.idle id).1 hs) rfl
    exact h2 (congrArg Prod.snd this)
  refine ⟨h.rise.put id 2, put_inv h.rise hid (.inr (.inl rfl)) h.vals, ?_, fun k => ?_, ?_⟩
  · show (s.stack ++ [id]).Nodup
    rw [List.nodup_append]
    exact ⟨h.nodup, by simp, fun a ha b hb => by
      have : b = id := by simpa using hb
      subst this
      rintro rfl
      exact hn ha⟩
  · show k ∈ s.stack ++ [id] ↔ (k, 2) ∈ put s.what id 2
    rw [mem_put, List.mem_append, h.idle k]
    constructor
    · rintro (hk | hk)
      · refine .inr ⟨hk, ?_⟩
        rintro rfl
        exact hn ((h.idle k).2 hk)
      · left
        have : k = id := by simpa using hk
        rw [this]
    · rintro (e | e)
      · right
        have : k = id := congrArg Prod.fst e
        simp [this]
      · exact .inl e.1
  · show (put s.what id 2).length ≤ s.size ∧ _
    rw [len_put_old h.rise 2 ((look_some h.rise).2 hm)]
    exact h.size
theorem PInv.ready (h : PInv s) {id : Int} (hid : I64 id) : PInv (readyF s id).2 := by
  unfold readyF
  split
  · rename_i hc
    exact h.rest hid hc (by decide) (by decide)
  · exact h
theorem PInv.give (h : PInv s) {id : Int} (hid : I64 id) : PInv (giveF s id).2 := by
  unfold giveF
  split
  · rename_i hc
    exact h.rest hid hc (by decide) (by decide)
  · exact h
def takeF (s : PS) : Int × Bool × PS := match s.stack.getLast? with
  | none => (0, false, s)
  | some id => (id, true, ⟨s.size, put s.what id 3, s.stack.dropLast⟩)
theorem take_cases (s : PS) : (s.stack = [] ∧ takeF s = (0, false, s)) ∨ ∃ l id, s.stack = l ++ [id] ∧ takeF s = (id, true, ⟨s.size, put s.what id 3, l⟩) := by
  unfold takeF
  cases hl : s.stack.getLast? with
  | none => exact .inl ⟨by simpa using hl, rfl⟩
  | some id =>
    obtain ⟨l, hl2⟩ := List.getLast?_eq_some_iff.1 hl
    refine .inr ⟨l, id, hl2, ?_⟩
    rw [hl2]
    simp
theorem PInv.take (h : PInv s) : PInv (takeF s).2.2 := by
  rcases take_cases s with ⟨_, e⟩ | ⟨l, id, hs, e⟩
  · rw [e]; exact h
  · rw [e]
    have hm : (id, 2) ∈ s.what := (h.idle id).1 (by rw [hs]; simp)
    have hnd := h.nodup
    rw [hs, List.nodup_append] at hnd
    refine ⟨h.rise.put id 3, put_inv h.rise (h.key _ hm) (.inr (.inr rfl)) h.vals, hnd.1, fun k => ?_, ?_⟩
    · show k ∈ l ↔ (k, 2) ∈ put s.what id 3
      rw [mem_put, ← h.idle k, hs]
      constructor
      · intro hk
        exact .inr ⟨by simp [hk], fun e => hnd.2.2 k hk id (by simp) e⟩
      · rintro (e | ⟨e1, e2⟩)
        · exfalso; simp at e
        · simpa [e2] using e1
    · show (put s.what id 3).length ≤ s.size ∧ _
      rw [len_put_old h.rise 3 ((look_some h.rise).2 hm)]
      exact h.size
theorem PInv.drop (h : PInv s) {id : Int} : PInv (dropF s id).2 := by
  unfold dropF
  split
  · exact h
  · refine ⟨h.rise.rem id, fun p hp => h.vals p (mem_rem.1 hp).1, h.nodup.sublist List.filter_sublist, fun k => ?_, ?_⟩
    · show k ∈ dropRow s.stack id ↔ (k, 2) ∈ rem s.what id
      unfold dropRow
      rw [List.mem_filter, mem_rem, h.idle k]
      simp
    · exact ⟨Nat.le_trans (rem_sub s.what id).length_le h.size.1, h.size.2⟩
/-! #### the methods -/
theorem done_eq {e : Ending} {v : Value} {w' : World} (hI : IsP w0 w g s) (hB : Below w0.heap.size w0 w) (h : e = .returned v ∧ w = w') : e = .returned v ∧ IsP w0 w' g s ∧ Below w0.heap.size w0 w' ∧ KeptP g w w' := by
  obtain ⟨rfl, rfl⟩ := h
  exact ⟨rfl, hI, hB, KeptP.refl _ _⟩
theorem make_any (id : Int) (hid : I64 id) (hv : PInv s) (hI : IsP w0 w g s) (hB : Below w0.heap.size w0 w) : Calls Try.prog 10 #[.pointer (some ⟨g, 0, none⟩), .int .i64 id] w fun e w' => e = .returned (.int .i64 (makeF s id).1) ∧ IsP w0 w' g (makeF s id).2 ∧ Below w0.heap.size w0 w' ∧ KeptP g w w' := by
  unfold makeF
  by_cases hc : code s.what id = 0
  · rw [if_pos hc]
    by_cases hl : s.what.length < s.size
    · rw [if_pos hl]
      exact make_ok id hid hI hB hc (hv.none hc) hl
    · rw [if_neg hl]
      exact (make_full id hid hI hc hl).mono (fun e w' h => done_eq hI hB h)
  · rw [if_neg hc]
    exact (make_there id hid hI hc).mono (fun e w' h => done_eq hI hB h)
theorem ready_any (id : Int) (hid : I64 id) (hv : PInv s) (hI : IsP w0 w g s) (hB : Below w0.heap.size w0 w) : Calls Try.prog 11 #[.pointer (some ⟨g, 0, none⟩), .int .i64 id] w fun e w' => e = .returned (.bool (readyF s id).1) ∧ IsP w0 w' g (readyF s id).2 ∧ Below w0.heap.size w0 w' ∧ KeptP g w w' := by
  unfold readyF
  by_cases hc : code s.what id = 1
  · rw [if_pos hc]
    exact ready_yes id hid hI hB hc (by have := hv.len; have := hv.size; omega)
  · rw [if_neg hc]
    exact (ready_no id hid hI hc).mono (fun e w' h => done_eq hI hB h)
theorem give_any (id : Int) (hid : I64 id) (hv : PInv s) (hI : IsP w0 w g s) (hB : Below w0.heap.size w0 w) : Calls Try.prog 14 #[.pointer (some ⟨g, 0, none⟩), .int .i64 id] w fun e w' => e = .returned (.bool (giveF s id).1) ∧ IsP w0 w' g (giveF s id).2 ∧ Below w0.heap.size w0 w' ∧ KeptP g w w' := by
  unfold giveF
  by_cases hc : code s.what id = 3
  · rw [if_pos hc]
    exact give_yes id hid hI hB hc (by have := hv.len; have := hv.size; omega)
  · rw [if_neg hc]
    exact (give_no id hid hI hc).mono (fun e w' h => done_eq hI hB h)
theorem take_any (hv : PInv s) (hI : IsP w0 w g s) (hB : Below w0.heap.size w0 w) : Calls Try.prog 12 #[.pointer (some ⟨g, 0, none⟩)] w fun e w' => e = .returned (.tuple #[.int .i64 (takeF s).1, .bool (takeF s).2.1]) ∧ IsP w0 w' g (takeF s).2.2 ∧ Below w0.heap.size w0 w' ∧ KeptP g w w' := by
  rcases take_cases s with ⟨hs, e⟩ | ⟨l, id, hs, e⟩
  · rw [e]
    exact (take_no hI hs).mono (fun e w' h => done_eq hI hB h)
  · rw [e]
    have hm : (id, 2) ∈ s.what := (hv.idle id).1 (by rw [hs]; simp)
    have hl := hv.len
    rw [hs] at hl
    simp at hl
    exact take_yes l id (hv.key _ hm) hI hB hs (by have := hv.size; omega) ((look_some hv.rise).2 hm)
theorem drop_any (id : Int) (hid : I64 id) (hv : PInv s) (hI : IsP w0 w g s) (hB : Below w0.heap.size w0 w) : Calls Try.prog 22 #[.pointer (some ⟨g, 0, none⟩), .int .i64 id] w fun e w' => e = .returned (.bool (dropF s id).1) ∧ IsP w0 w' g (dropF s id).2 ∧ Below w0.heap.size w0 w' ∧ KeptP g w w' := by
  unfold dropF
  by_cases hc : code s.what id = 0
  · rw [if_pos hc]
    refine (drop_no id hid hI hc).mono ?_
    rintro e w' ⟨rfl, hb⟩
    exact ⟨rfl, hI.below hb, hB.trans (hb.mono hB.size), KeptP.of_below hI hb⟩
  · rw [if_neg hc]
    exact drop_yes id hid hI hB hc
theorem making_raw (hv : PInv s) (hI : IsP w0 w g s) : Calls Try.prog 34 #[.pointer (some ⟨g, 0, none⟩)] w fun e w' => ∃ v : Value, e = .returned v ∧ kI.R 3 w' w.heap.size (fun _ => True) v (those s 46) ∧ Below w.heap.size w w' := by
  have H := Aside0.mk (of_46 hI hv.key)
  clear hI
  go_enter Try.func34, Try.ntmps34
  go_wp2_with (go_at_call 39; refine H.out.mono ?_; rintro e w' ⟨v, rfl, hR, hb⟩)
  go_ret
  exact ⟨v, rfl, hR, hb⟩
theorem busy_raw (hv : PInv s) (hI : IsP w0 w g s) : Calls Try.prog 15 #[.pointer (some ⟨g, 0, none⟩)] w fun e w' => ∃ v : Value, e = .returned v ∧ kI.R 3 w' w.heap.size (fun _ => True) v (those s 40) ∧ Below w.heap.size w w' := by
  have H := Aside0.mk (of_40 hI hv.key)
  clear hI
  go_enter Try.func15, Try.ntmps15
  go_wp2_with (go_at_call 39; refine H.out.mono ?_; rintro e w' ⟨v, rfl, hR, hb⟩)
  go_ret
  exact ⟨v, rfl, hR, hb⟩
theorem all_raw (hv : PInv s) (hI : IsP w0 w g s) : Calls Try.prog 21 #[.pointer (some ⟨g, 0, none⟩)] w fun e w' => ∃ v : Value, e = .returned v ∧ kI.R 3 w' w.heap.size (fun _ => True) v (those s 42) ∧ Below w.heap.size w w' := by
  have H := Aside0.mk (of_42 hI hv.key)
  clear hI
  go_enter Try.func21, Try.ntmps21
  go_wp2_with (go_at_call 39; refine H.out.mono ?_; rintro e w' ⟨v, rfl, hR, hb⟩)
  go_ret
  exact ⟨v, rfl, hR, hb⟩
theorem those_all (s : PS) : those s 42 = keys s.what := by
  unfold those
  rw [List.filter_eq_self]
  intro a _
  rfl
theorem len_raw (hv : PInv s) (hI : IsP w0 w g s) : Calls Try.prog 30 #[.pointer (some ⟨g, 0, none⟩)] w fun e w' => e = .returned (.int .i64 (s.what.length : Int)) ∧ Below w.heap.size w w' := by
  have H := Aside0.mk (all_raw hv hI)
  rw [those_all] at H
  have hk : (keys s.what).length = s.what.length := by simp [keys]
  have HK := Aside0.mk hk
  clear hI hk
  go_enter Try.func30, Try.ntmps30
  go_wp2_with (go_at_call 21; refine H.out.mono ?_; rintro e w' ⟨v, rfl, hR, hb⟩; obtain ⟨A, n, rfl⟩ := Kd.R_slice hR; rw [HK.out])
  go_ret
  exact ⟨rfl, hb⟩
/-! #### Idle -/
theorem empty_row (w : World) : kI.R 3 (w.alloc (.cells #[] 3)) w.heap.size (fun _ => True) (.slice (some ⟨w.heap.size, 0, none⟩) ([] : List Int).length 0) [] :=
  ⟨fun _ _ => trivial, [], World.ownsRow_lit (base := w.heap.size) (e := 3) (size := 1) w #[] 0 (Nat.le_refl _) (by decide) (by simp), Reps.none _ _⟩
set_option maxHeartbeats 1000000 in
theorem clone_nil (n : Nat) (w : World) : Calls Try.prog 41 #[.slice none 0 n] w fun e w' => e = .returned (.slice none 0 0) ∧ w = w' := by
  have heq := fun (w : World) (a : Option Addr) (n c n' c' : Nat) => Lib.run_eql_slice_nil (P := Try.prog) w 22 3 a n c n' c' Try.underlying22
  go_enter Try.func41, Try.ntmps41
  go_wp2
  go_ret
  exact ⟨rfl, rfl⟩
set_option maxHeartbeats 1000000 in
theorem clone_some (b : Addr) (m n : Nat) (xs : List Int) (hm : m = xs.length) (w : World) (hC : kI.C w (some b) xs.length xs) (hl : xs.length ≤ 1000) : Calls Try.prog 41 #[.slice (some b) m n] w fun e w' => ∃ v', e = .returned v' ∧ kI.R 3 w' w.heap.size (fun _ => True) v' xs ∧ Below w.heap.size w w' := by
  subst hm
  have HC := Aside0.mk (Kd.C_below hC (below_alloc (Below.refl _ w) (.cells #[] 3)))
  have HO := Aside0.mk (empty_row w)
  clear hC
  have heq := fun (w : World) (a : Option Addr) (n c n' c' : Nat) => Lib.run_eql_slice_nil (P := Try.prog) w 22 3 a n c n' c' Try.underlying22
  go_enter Try.func41, Try.ntmps41
  go_wp2_with (at_builtin; refine Kd.R_append_rows kI (w0 := w) w.heap.size rfl (.tmp 5) (.tmp 6) 22 3 (.int .i64 0) 8 rfl Try.underlying22 info3 rfl (by decide) (by omega) _ [] xs _ _ _ (fun _ => True) (fun _ => False) rfl rfl ?aO ?aR (fun _ _ h => h) (fun _ h => h.elim) ?aF ?aB ?aS ?aL ?_; (case aO => exact HO.out); (case aR => exact HC.out); (case aF => exact fun _ _ => trivial); (case aB => exact below_alloc (Below.refl _ w) _); (case aS => simp); (case aL => simp; omega); intro v1 w1 ho hb hg hat; simp only [List.nil_append] at ho)
  go_ret
  exact ⟨_, rfl, ho, hb⟩
theorem idle_raw (hv : PInv s) (hI : IsP w0 w g s) : Calls Try.prog 19 #[.pointer (some ⟨g, 0, none⟩)] w fun e w' => ∃ v : Value, e = .returned v ∧ kI.R 3 w' w.heap.size (fun _ => True) v s.stack ∧ Below w.heap.size w w' := by
  obtain ⟨mb, A, n, cb, buf, sn, rc, hb, hg, hM, hgm, hR, _⟩ := hI.open_
  have c1 : w.cell? ⟨g, 1, none⟩ = some (.slice A s.stack.length n) := (blk_cell hb 1).trans rfl
  have hl := hv.len
  have h8 := hv.size
  have hRd := Kd.R_reads' hR
  cases A with
  | none =>
    have hs0 : s.stack = [] := by
      cases hs : s.stack with
      | nil => rfl
      | cons x l =>
        rw [hs] at hRd
        obtain ⟨ad, hA, _⟩ := hRd.2.2.2.2 (by simp)
        cases hA
    have H := Aside0.mk (clone_nil n w)
    rw [hs0] at c1 ⊢
    clear hb hM hR hI hRd hs0
    go_enter Try.func19, Try.ntmps19
    go_wp2_with (go_at_call 41; refine H.out.mono ?_; rintro e w' ⟨rfl, rfl⟩)
    go_ret
    exact ⟨_, rfl, Kd.R_nil _ _ _ _ _, Below.refl _ _⟩
  | some b =>
    have H := Aside0.mk (clone_some b s.stack.length n s.stack rfl w hRd.2.2 (by omega))
    clear hb hM hR hI hRd
    go_enter Try.func19, Try.ntmps19
    go_wp2_with (go_at_call 41; refine H.out.mono ?_; rintro e w' ⟨v, rfl, hr, hb⟩)
    go_ret
    exact ⟨v, rfl, hr, hb⟩
end Go.Proofs.Yteagjolmikbllaa.Ob
