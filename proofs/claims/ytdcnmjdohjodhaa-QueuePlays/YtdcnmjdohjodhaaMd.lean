/-
  Contracts of the queue's other methods, in the form in which they are used. Conditions: none.
-/
import Derived.Test.YtdcnmjdohjodhaaMc
set_option linter.unusedVariables false
set_option linter.unusedSimpArgs false
namespace Go.Proofs.Ytdcnmjdohjodhaa.Man
open Go.RowKit Go.Conc Go.Proofs.Ytdcnmjdohjodhaa.Comm Go.Proofs.YtdcnmjdohjodhaaW.PrintWords Go.Proofs.YtdcnmjdohjodhaaW.PrintLast Go.Proofs.YtdcnmjdohjodhaaW.PrintMore Go.Proofs.Ytdcnmjdohjodhaa.PA Go.Proofs.Ytdcnmjdohjodhaa.PF Go.Proofs.Ytdcnmjdohjodhaa.Hid
attribute [local go_sem] max2_int min2_int max_two min_two   -- for this text's walks alone

def queue_Queue_Remove.f (s : QS) (id : Int) : Option (Bool × QS) := if placeOf s.row id 0 < 0 then some (false, s) else some (true, { s with row := s.row.eraseIdx (placeOf s.row id 0).toNat })
theorem queue_Queue_Remove.calls (g : Nat) (s : QS) (a1 : Int) (r1 : Bool) (s' : QS) (w0 w : World) (hI : IsS62 w0 w g s) (hB : Below w0.heap.size w0 w) (h : queue_Queue_Remove.f s a1 = some (r1, s')) :
    Calls Try.prog 17 #[.pointer (some ⟨g, 0, none⟩), .int .i64 a1] w fun e w' => e = .returned (.bool r1) ∧ IsS62 w0 w' g s' ∧ Below w0.heap.size w0 w' ∧ KeptH TQ w w' := by
  unfold queue_Queue_Remove.f at h
  by_cases hp : placeOf s.row a1 0 < 0
  · rw [if_pos hp] at h
    obtain ⟨rfl, rfl⟩ := Prod.mk.inj (Option.some.inj h)
    refine (remove_no g s a1 w0 w hI hp).mono ?_
    rintro e w' ⟨rfl, hb⟩
    exact ⟨rfl, done_below hI hB hb⟩
  · rw [if_neg hp] at h
    obtain ⟨rfl, rfl⟩ := Prod.mk.inj (Option.some.inj h)
    exact remove_yes g s a1 w0 w hI hB hp
theorem queue_Queue_Push.calls (g : Nat) (s : QS) (a1 a2 : Int) (r1 : Int) (s' : QS) (w0 w : World) (hI : IsS62 w0 w g s) (hB : Below w0.heap.size w0 w) (h : queue_Queue_Push.f s a1 a2 = some (r1, s')) :
    Calls Try.prog 10 #[.pointer (some ⟨g, 0, none⟩), .int .i64 a1, .int .i64 a2] w fun e w' => e = .returned (.int .i64 r1) ∧ IsS62 w0 w' g s' ∧ Below w0.heap.size w0 w' ∧ KeptH TQ w w' := by
  unfold queue_Queue_Push.f at h
  by_cases hp : placeOf s.row a1 0 ≥ 0
  · rw [if_pos hp] at h
    obtain ⟨rfl, rfl⟩ := Prod.mk.inj (Option.some.inj h)
    refine (push_there g s a1 a2 w0 w hI hp).mono ?_
    rintro e w' ⟨rfl, hb⟩
    exact ⟨rfl, done_below hI hB hb⟩
  · rw [if_neg hp] at h
    by_cases hf : s.row.length < s.room
    · rw [if_pos hf] at h
      obtain ⟨rfl, rfl⟩ := Prod.mk.inj (Option.some.inj h)
      exact push_ok g s a1 a2 w0 w hI hB hp hf
    · rw [if_neg hf] at h
      obtain ⟨rfl, rfl⟩ := Prod.mk.inj (Option.some.inj h)
      refine (push_full g s a1 a2 w0 w hI hp hf).mono ?_
      rintro e w' ⟨rfl, hb⟩
      exact ⟨rfl, done_below hI hB hb⟩

/-! #### Pop -/
def queue_Queue_Pop.f (s : QS) : Option (Int × Bool × QS) := match s.row with | [] => some (0, false, s) | x :: l => some (x.f0, true, { s with row := l })
set_option maxHeartbeats 1000000 in
theorem pop_nil (g : Nat) (s : QS) (w0 w : World) (hI : IsS62 w0 w g s) (hrow : s.row = []) : Calls Try.prog 12 #[.pointer (some ⟨g, 0, none⟩)] w fun e w' => e = .returned (.tuple #[.int .i64 0, .bool false]) ∧ w = w' := by
  have HP := Aside0.mk (peek_nil g s w0 w hI hrow)
  clear hI hrow
  go_enter Try.func12, Try.ntmps12
  go_wp2_with (go_at_call 28; refine HP.out.mono ?_; rintro e w' ⟨rfl, rfl⟩)
  go_ret2
  exact ⟨rfl, rfl⟩
set_option maxHeartbeats 1000000 in
theorem pop_cons (g : Nat) (s : QS) (x : S65) (l : List S65) (w0 w : World) (hI : IsS62 w0 w g s) (hB : Below w0.heap.size w0 w) (hrow : s.row = x :: l) :
    Calls Try.prog 12 #[.pointer (some ⟨g, 0, none⟩)] w fun e w' => e = .returned (.tuple #[.int .i64 x.f0, .bool true]) ∧ IsS62 w0 w' g { s with row := l } ∧ Below w0.heap.size w0 w' ∧ KeptH TQ w w' := by
  have HP := Aside0.mk (peek_cons g s x l w0 w hI hrow)
  have hp : placeOf s.row x.f0 0 = 0 := by rw [hrow, placeOf, if_pos rfl]
  have HR := Aside0.mk (queue_Queue_Remove.calls g s x.f0 true { s with row := l } w0 w hI hB (by unfold queue_Queue_Remove.f; rw [hp, if_neg (by omega), hrow]; rfl))
  clear hI hrow hB hp
  go_enter Try.func12, Try.ntmps12
  go_wp2_with (first | (go_at_call 28; refine HP.out.mono ?_; rintro e w' ⟨rfl, rfl⟩) | (go_at_call 17; refine HR.out.mono ?_; rintro e w' ⟨rfl, hi⟩))
  go_ret2
  exact ⟨rfl, hi⟩
theorem queue_Queue_Pop.calls (g : Nat) (s : QS) (r1 : Int) (r2 : Bool) (s' : QS) (w0 w : World) (hI : IsS62 w0 w g s) (hB : Below w0.heap.size w0 w) (h : queue_Queue_Pop.f s = some (r1, r2, s')) :
    Calls Try.prog 12 #[.pointer (some ⟨g, 0, none⟩)] w fun e w' => e = .returned (.tuple #[.int .i64 r1, .bool r2]) ∧ IsS62 w0 w' g s' ∧ Below w0.heap.size w0 w' ∧ KeptH TQ w w' := by
  cases hrow : s.row with
  | nil =>
    rw [queue_Queue_Pop.f, hrow] at h
    injection h with h
    injection h with h1 h
    injection h with h2 h3
    subst h1 h2 h3
    refine (pop_nil g s w0 w hI hrow).mono ?_
    rintro e w' ⟨rfl, rfl⟩
    exact ⟨rfl, done_below hI hB (Below.refl _ _)⟩
  | cons x l =>
    rw [queue_Queue_Pop.f, hrow] at h
    injection h with h
    injection h with h1 h
    injection h with h2 h3
    subst h1 h2 h3
    exact pop_cons g s x l w0 w hI hB hrow

/-! #### New -/
def queue_New.f (a0 : Int) : Option QS := some ⟨(mn (mx a0 0) 16).toNat, []⟩
theorem bytes63 : ∃ i, Try.prog.info? 63 = some i ∧ i.bytes = 0 := by
  have h : (Try.prog.info? 63).map (·.bytes) = some 0 := by kernel_rfl
  obtain ⟨i, hi, hb⟩ := Option.map_eq_some_iff.1 h
  exact ⟨i, hi, hb⟩
theorem mkc (w : World) (n : Nat) (hn : n ≤ 16) : (Instr.makeChan 59 (.int .i64 n)).run Try.prog w = .ok (.chan (some w.heap.size)) (w.alloc (.chan n #[] false 0 0 false)) := by
  obtain ⟨i, hi, hb⟩ := bytes63
  simpa using run_makeChan (P := Try.prog) (w := w) Try.underlying59 hi .i64 n (by omega) (by rw [hb]; omega)
set_option maxHeartbeats 2000000 in
theorem new_raw (a0 : Int) (n : Nat) (hn : mn (mx a0 0) 16 = (n : Int)) (hn16 : n ≤ 16) (w0 w : World) (hB : Below w0.heap.size w0 w) :
    Calls Try.prog 9 #[.int .i64 a0] w fun e w' => ∃ g_ : Nat, e = .returned (.pointer (some ⟨g_, 0, none⟩)) ∧ IsS62 w0 w' g_ ⟨n, []⟩ ∧ Below w0.heap.size w0 w' ∧ Below w.heap.size w w' := by
  have hmk := fun w => mkc w n hn16
  obtain ⟨j2, hj2⟩ : ∃ j : Int, (if a0 < 0 then 0 else a0) = j := ⟨_, rfl⟩
  have hj3 : (if 16 < j2 then 16 else j2) = (n : Int) := by rw [← hj2]; exact hn
  clear hn
  have HB := Aside0.mk hB
  clear hB
  refine calls_of_wpN Try.func9 rfl (by rintro _ ⟨_, h, _⟩; cases h) ?_
  simp only [Try.ntmps9, List.size_toArray, List.length_cons, List.length_nil, Nat.reduceAdd, Nat.reduceSub, Array.replicate_succ, Array.replicate_zero, List.push_toArray, List.append_toArray, List.nil_append, List.cons_append]
  refine wpN_seq (wpN_of ?_)
  go_wp2
  refine wpN_seq (wpN_of ?_)
  go_wp2
  refine wpN_seq (wpN_of ?_)
  go_wp2
  refine wpN_seq (wpN_seq (wpN_of ?_))
  go_wp2
  have hgb0 : ((w.alloc (.chan n #[] false 0 0 false)).alloc (.cells #[.chan (some w.heap.size), .slice none 0 0] 62)).heap[w.heap.size + 1]? = some (.cells #[.chan (some w.heap.size), .slice none 0 0] 62 (0, 0)) := by
    have := heap_alloc_new (w.alloc (.chan n #[] false 0 0 false)) (.cells #[.chan (some w.heap.size), .slice none 0 0] 62)
    simpa using this
  have hcb0 : ((w.alloc (.chan n #[] false 0 0 false)).alloc (.cells #[.chan (some w.heap.size), .slice none 0 0] 62)).heap[w.heap.size]? = some (.chan n #[] false 0 0 false) := by
    rw [Below.heap_alloc _ _ _ (by simp)]
    exact heap_alloc_new w _
  have HBW : Aside0 (Below w.heap.size w ((w.alloc (.chan n #[] false 0 0 false)).alloc (.cells #[.chan (some w.heap.size), .slice none 0 0] 62))) := ⟨below_alloc (below_alloc (Below.refl _ _) _) _⟩
  generalize (w.alloc (.chan n #[] false 0 0 false)).alloc (.cells #[.chan (some w.heap.size), .slice none 0 0] 62) = W0 at hgb0 hcb0 HBW ⊢
  obtain ⟨c, hc⟩ : ∃ c, c = w.heap.size := ⟨_, rfl⟩
  obtain ⟨g, hg⟩ : ∃ g, g = w.heap.size + 1 := ⟨_, rfl⟩
  rw [← hg, ← hc] at hgb0 ⊢
  rw [← hc] at hcb0
  have HG := Aside0.mk hg
  have HC := Aside0.mk hc
  have hcg : c ≠ g := by omega
  clear hg hc hmk hj2 hj3
  refine wpN_block (wpN_loop (fun m a W => ∃ (j : Nat) (buf : Array Value) (u13 u14 u15 u16 u17 u18 u19 : Value), m + j = n ∧ a = ⟨#[.int .i64 n, undef, .pointer none, .pointer (some ⟨g, 0, none⟩), .int .i64 a0, .int .i64 j2, .int .i64 n, .int .i64 n, .chan (some c), .agg #[.chan (some c), .slice none 0 0], .pointer (some ⟨g, 0, none⟩), .int .i64 n, .int .i64 j, u13, u14, u15, u16, u17, u18, u19, undef], []⟩ ∧
      W.heap[g]? = some (.cells #[.chan (some c), .slice none 0 0] 62 (0, 0)) ∧ W.heap[c]? = some (.chan n buf false j 0 false) ∧ buf.size = j ∧ Below w.heap.size w W) n ⟨0, #[], _, _, _, _, _, _, _, rfl, rfl, hgb0, hcb0, rfl, HBW.out⟩ ?_)
  rintro m a W ⟨j, buf, u13, u14, u15, u16, u17, u18, u19, hmj, rfl, hgb, hcb, hbuf, hbel⟩
  have HGB := Aside0.mk hgb
  have HCB := Aside0.mk hcb
  have HBUF := Aside0.mk hbuf
  have HBEL := Aside0.mk hbel
  have HMJ := Aside0.mk hmj
  have hjn : j ≤ n := by omega
  have h0 : W.cell? ⟨g, 0, none⟩ = some (.chan (some c)) := (blk_cell hgb 0).trans rfl
  clear hgb hcb hbuf hbel hmj
  by_cases hlt : j < n
  · refine wpN_seq (wpN_of ?_)
    go_wp2
    refine wpN_seq (wpN_of ?_)
    go_wp2
    refine wpN_seq (wpN_block (wpN_region ?_))
    simp only [List.size_toArray, List.length_cons, List.length_nil, Nat.reduceAdd, Nat.zero_add, List.range, List.range.loop]
    refine wpR_same (.pointer (some ⟨g, 0, none⟩)) rfl rfl (by go_simp) ?_
    simp only [List.getElem_toArray, List.getElem_cons_zero, List.getElem_cons_succ, Act.put, List.setIfInBounds_toArray, List.set_cons_zero, List.set_cons_succ]
    refine wpR_same (.pointer (some ⟨g, 0, none⟩)) rfl rfl (by go_simp) ?_
    simp only [List.getElem_toArray, List.getElem_cons_zero, List.getElem_cons_succ, Act.put, List.setIfInBounds_toArray, List.set_cons_zero, List.set_cons_succ]
    refine wpR_same (.pointer (some ⟨g, 0, none⟩)) rfl rfl (by go_simp) ?_
    simp only [List.getElem_toArray, List.getElem_cons_zero, List.getElem_cons_succ, Act.put, List.setIfInBounds_toArray, List.set_cons_zero, List.set_cons_succ]
    refine wpR_same (.chan (some c)) rfl rfl (by go_simp) ?_
    simp only [List.getElem_toArray, List.getElem_cons_zero, List.getElem_cons_succ, Act.put, List.setIfInBounds_toArray, List.set_cons_zero, List.set_cons_succ]
    refine wpR_same (.agg #[]) rfl rfl (by go_simp) ?_
    simp only [List.getElem_toArray, List.getElem_cons_zero, List.getElem_cons_succ, Act.put, List.setIfInBounds_toArray, List.set_cons_zero, List.set_cons_succ]
    refine wpR_send (c := c) (v := .agg #[]) (z := .tuple #[]) rfl rfl (by simp [execOp, scase, Act.eval]) HCB.out (by rw [HBUF.out]; exact hlt) ?_
    simp only [List.getElem_toArray, List.getElem_cons_zero, List.getElem_cons_succ, Act.put, List.setIfInBounds_toArray, List.set_cons_zero, List.set_cons_succ]
    refine wpR_end ?_
    refine wpN_of ?_
    go_wp2
    have hmj := HMJ.out
    refine ⟨m - 1, by omega, j + 1, buf.push (.agg #[]), _, _, _, _, _, _, _, by omega, rfl, (setChan_other _ _ _ _ _ _ _ _ _ (Ne.symm hcg)).trans HGB.out, heap_setChan _ _ _ _ _ _ _ _ (blk_lt HCB.out), by rw [Array.size_push, HBUF.out], below_setChan HBEL.out (by rw [HC.out]; exact Nat.le_refl _) _ _ _ _ _ _⟩
  · have hje : j = n := by omega
    subst hje
    refine wpN_seq (wpN_of ?_)
    go_wp2
    refine wpN_seq (wpN_of ?_)
    go_wp2
    have hs0 : buf.size + ([] : List S65).length = j := by rw [HBUF.out]; rfl
    have hc2 := HC.out
    have HFIN : Aside0 (IsS62 w0 W g ⟨j, []⟩ ∧ Below w0.heap.size w0 W ∧ Below w.heap.size w W) := ⟨⟨c, .slice none 0 0, buf, j, 0, HGB.out, by have := HG.out; have := HB.out.size; omega, HCB.out, by have := HB.out.size; omega, hs0, hn16, Kd.R_nil _ _ _ _ _⟩, HB.out.trans (HBEL.out.mono HB.out.size), HBEL.out⟩
    clear hs0
    refine wpN_of ?_
    go_wp2
    go_ret
    exact ⟨g, rfl, HFIN.out.1, HFIN.out.2.1, by have h := HFIN.out.2.2; rw [← hc2] at h; exact h⟩
theorem queue_New.calls (a1 : Int) (r : QS) (w0 w : World) (hB : Below w0.heap.size w0 w) (h : queue_New.f a1 = some r) :
    Calls Try.prog 9 #[.int .i64 a1] w fun e w' => ∃ g_ : Nat, e = .returned (.pointer (some ⟨g_, 0, none⟩)) ∧ IsS62 w0 w' g_ r ∧ Below w0.heap.size w0 w' ∧ Below w.heap.size w w' := by
  obtain rfl := Option.some.inj h
  have h0 : 0 ≤ mn (mx a1 0) 16 ∧ mn (mx a1 0) 16 ≤ 16 := by
    unfold mn mx
    constructor <;> (repeat' split) <;> omega
  exact new_raw a1 _ (by omega) (by omega) w0 w hB
end Go.Proofs.Ytdcnmjdohjodhaa.Man
