/-
  Contracts of the queue's methods that only look. Conditions: none.
-/
import Derived.Test.YtdcnmjdohjodhaaObj
import Derived.Conc.LoneCalls
import Derived.Conc.LoneSelect
import Derived.Conc.LoneSelectN
import Derived.WalkSpells
import Derived.WalkLawsBesides
import Derived.Handy
set_option linter.unusedVariables false
set_option linter.unusedSimpArgs false
namespace Go.Proofs.Ytdcnmjdohjodhaa.Man
open Go.RowKit Go.Proofs.YtdcnmjdohjodhaaW.PrintWords Go.Proofs.YtdcnmjdohjodhaaW.PrintMore Go.Proofs.Ytdcnmjdohjodhaa.PA Go.Proofs.Ytdcnmjdohjodhaa.PF Go.Proofs.Ytdcnmjdohjodhaa.Hid

theorem done_below {w0 w w' : World} {g : Nat} {s : QS} (hI : IsS62 w0 w g s) (hB : Below w0.heap.size w0 w) (hb : Below w.heap.size w w') : IsS62 w0 w' g s ∧ Below w0.heap.size w0 w' ∧ KeptH TQ w w' :=
  ⟨hI.below hb, hB.trans (hb.mono hB.size), .of_below hb⟩

/-- What a queue is, cell by cell. -/
theorem IsS62.open_ {w0 w : World} {g : Nat} {s : QS} (h : IsS62 w0 w g s) : ∃ c A n sn rc buf, w.heap[g]? = some (.cells #[.chan (some c), .slice A s.row.length n] 62 (0, 0)) ∧ w.heap[c]? = some (.chan s.room buf false sn rc false) ∧
    buf.size + s.row.length = s.room ∧ s.room ≤ 16 ∧ s.row.length ≤ n ∧ Kd.C k65 w A s.row.length s.row ∧ Kd.R k65 65 w w0.heap.size (fun _ => True) (.slice A s.row.length n) s.row ∧ w0.heap.size ≤ g ∧ w0.heap.size ≤ c := by
  obtain ⟨c, v, buf, sn, rc, hb, hg, hc, hgc, hl, hr, hR⟩ := h
  obtain ⟨A, n, rfl, hn, hC⟩ := Kd.R_reads hR
  exact ⟨c, A, n, sn, rc, buf, hb, hc, hl, hr, hn, hC, hR, hg, hgc⟩

/-! #### Len, Room: the world stays -/
def queue_Queue_Len.f (s : QS) : Option (Int × QS) := some ((s.row.length : Int), s)
set_option maxHeartbeats 1000000 in
theorem len_raw (g : Nat) (s : QS) (w0 w : World) (hI : IsS62 w0 w g s) : Calls Try.prog 13 #[.pointer (some ⟨g, 0, none⟩)] w fun e w' => e = .returned (.int .i64 (s.row.length : Int)) ∧ w = w' := by
  obtain ⟨c, A, n, sn, rc, buf, hb, hc, hl, hr, hn, hC, hR, hg, hgc⟩ := hI.open_
  have h1 : w.cell? ⟨g, 1, none⟩ = some (.slice A s.row.length n) := (blk_cell hb 1).trans rfl
  clear hb hc hC hR hI hl hr hn
  go_enter Try.func13, Try.ntmps13
  go_wp2
  go_ret
  exact ⟨rfl, rfl⟩
theorem queue_Queue_Len.calls (g : Nat) (s : QS) (r1 : Int) (s' : QS) (w0 w : World) (hI : IsS62 w0 w g s) (hB : Below w0.heap.size w0 w) (h : queue_Queue_Len.f s = some (r1, s')) :
    Calls Try.prog 13 #[.pointer (some ⟨g, 0, none⟩)] w fun e w' => e = .returned (.int .i64 r1) ∧ IsS62 w0 w' g s' ∧ Below w0.heap.size w0 w' ∧ KeptH TQ w w' := by
  obtain ⟨rfl, rfl⟩ := Prod.mk.inj (Option.some.inj h)
  refine (len_raw g s w0 w hI).mono ?_
  rintro e w' ⟨rfl, rfl⟩
  exact ⟨rfl, done_below hI hB (Below.refl _ _)⟩

def queue_Queue_Room.f (s : QS) : Option (Int × QS) := some ((s.room : Int) - s.row.length, s)
theorem ret_int {k : IntKind} {a b : Int} (h : a = b) : Ending.returned (.int k a) = .returned (.int k b) := by rw [h]
set_option maxHeartbeats 1000000 in
theorem room_raw (g : Nat) (s : QS) (w0 w : World) (hI : IsS62 w0 w g s) : Calls Try.prog 19 #[.pointer (some ⟨g, 0, none⟩)] w fun e w' => e = .returned (.int .i64 ((s.room : Int) - s.row.length)) ∧ w = w' := by
  obtain ⟨c, A, n, sn, rc, buf, hb, hc, hl, hr, hn, hC, hR, hg, hgc⟩ := hI.open_
  have h0 : w.cell? ⟨g, 0, none⟩ = some (.chan (some c)) := (blk_cell hb 0).trans rfl
  have HL : Aside0 ((buf.size : Int) = (s.room : Int) - s.row.length) := ⟨by omega⟩
  have hlen := fun ty => Go.Conc.run_len_chan (P := Try.prog) 59 ty Try.underlying59 hc
  clear hb hc hC hR hI hl hr hn
  go_enter Try.func19, Try.ntmps19
  go_wp2
  go_ret
  exact ⟨ret_int HL.out, rfl⟩
theorem queue_Queue_Room.calls (g : Nat) (s : QS) (r1 : Int) (s' : QS) (w0 w : World) (hI : IsS62 w0 w g s) (hB : Below w0.heap.size w0 w) (h : queue_Queue_Room.f s = some (r1, s')) :
    Calls Try.prog 19 #[.pointer (some ⟨g, 0, none⟩)] w fun e w' => e = .returned (.int .i64 r1) ∧ IsS62 w0 w' g s' ∧ Below w0.heap.size w0 w' ∧ KeptH TQ w w' := by
  obtain ⟨rfl, rfl⟩ := Prod.mk.inj (Option.some.inj h)
  refine (room_raw g s w0 w hI).mono ?_
  rintro e w' ⟨rfl, rfl⟩
  exact ⟨rfl, done_below hI hB (Below.refl _ _)⟩

/-! #### Place -/
/-- Where an id stands; -1: nowhere. -/
def placeOf : List S65 → Int → Int → Int
  | [], _, _ => -1
  | x :: l, id, j => if x.f0 = id then j else placeOf l id (j + 1)
def queue_Queue_Place.f (s : QS) (id : Int) : Option (Int × QS) := some (placeOf s.row id 0, s)

theorem place_loop (id : Int) (xs : List S65) (hm : xs.length ≤ 9223372036854775807) (d : Nat) : ∀ (k j : Nat), j ≤ xs.length → xs.length - j = d → d < k → queue_waiter.l0 k xs [id] (xs.length : Int) (j : Int) = some (placeOf (xs.drop j) id j) := by
  induction d with
  | zero =>
    intro k j hj hd hk
    obtain ⟨k, rfl⟩ : ∃ m, k = m + 1 := ⟨k - 1, by omega⟩
    simp only [queue_waiter.l0]
    rw [if_neg (by omega), List.drop_eq_nil_of_le (by omega)]
    rfl
  | succ d ih =>
    intro k j hj hd hk
    obtain ⟨k, rfl⟩ : ∃ m, k = m + 1 := ⟨k - 1, by omega⟩
    have hlt : j < xs.length := by omega
    simp only [queue_waiter.l0]
    rw [if_pos (by omega), if_pos (by omega), if_pos (by omega), List.drop_eq_getElem_cons hlt]
    have e : rd_T65 xs (j : Int) = xs[j] := by simp [rd_T65, List.getD, hlt]
    rw [e]
    have ih' := ih k (j + 1) (by omega) (by omega) (by omega)
    rw [show ((j + 1 : Nat) : Int) = (j : Int) + 1 by omega] at ih'
    have hw : wrap64 ((j : Int) + 1) = (j : Int) + 1 := by unfold wrap64; omega
    simp only [queue_Queue_Place_1.f, placeOf]
    by_cases c : xs[j].f0 = id
    · simp [rd, c]
    · simp only [rd, List.getD_cons_zero, Int.toNat_zero, List.length_singleton]
      simp [c, hw, ih']

theorem place_some (id : Int) (xs : List S65) (hm : xs.length ≤ 9223372036854775807) : queue_waiter.f (xs.length + 1) xs 0 [id] = some (placeOf xs id 0) := by
  have := place_loop id xs hm xs.length (xs.length + 1) 0 (by omega) (by omega) (by omega)
  simpa [queue_waiter.f] using this
/-- A captured variable, told as a row of one element. -/
theorem cap_int {W : World} {B : Nat} {x : Int} (h : W.cell? ⟨B, 0, none⟩ = some (.int .i64 x)) : Kd.C (Kd.int .i64) W (some ⟨B, 0, none⟩) ([x] : List Int).length [x] :=
  Kd.C_of_reads (d := (0 : Int)) ⟨rfl, by simp, fun _ => ⟨⟨B, 0, none⟩, rfl, fun j hj => by
    have : j = 0 := by simp at hj; omega
    subst this
    simpa [Addr.add] using h⟩⟩
set_option maxHeartbeats 1000000 in
theorem place_raw (g : Nat) (s : QS) (a1 : Int) (w0 w : World) (hI : IsS62 w0 w g s) : Calls Try.prog 11 #[.pointer (some ⟨g, 0, none⟩), .int .i64 a1] w fun e w' => e = .returned (.int .i64 (placeOf s.row a1 0)) ∧ Below w.heap.size w w' := by
  obtain ⟨c, A, n, sn, rc, buf, hb, hc, hl, hr, hn, hC, hR, hg, hgc⟩ := hI.open_
  have h1 : w.cell? ⟨g, 1, none⟩ = some (.slice A s.row.length n) := (blk_cell hb 1).trans rfl
  have hgl : g < w.heap.size := blk_lt hb
  have HCALL := Aside0.mk (fun (o : Obj) (ho : o = .cells #[.int .i64 a1] 3) => queue_waiter.calls (s.row.length + 1) A n s.row 0 (some ⟨w.heap.size, 0, none⟩) 1 [a1] _ (w.alloc o) (Kd.C_below hC ((Below.refl _ w).alloc (Nat.le_refl _) _)) hn (cap_int (by subst ho; simp [go_sem])) (Nat.le_refl _) (place_some a1 s.row hC.2.1))
  clear hb hc hC hR hI hl hr hn
  go_enter Try.func11, Try.ntmps11
  go_wp2_with (go_at_call 30; refine (HCALL.out _ rfl).mono ?_; rintro e w' ⟨rfl, hb⟩)
  go_ret
  exact ⟨rfl, below_step ((Below.refl _ w).alloc (Nat.le_refl _) _) hb⟩
theorem queue_Queue_Place.calls (g : Nat) (s : QS) (a1 : Int) (r1 : Int) (s' : QS) (w0 w : World) (hI : IsS62 w0 w g s) (hB : Below w0.heap.size w0 w) (h : queue_Queue_Place.f s a1 = some (r1, s')) :
    Calls Try.prog 11 #[.pointer (some ⟨g, 0, none⟩), .int .i64 a1] w fun e w' => e = .returned (.int .i64 r1) ∧ IsS62 w0 w' g s' ∧ Below w0.heap.size w0 w' ∧ KeptH TQ w w' := by
  obtain ⟨rfl, rfl⟩ := Prod.mk.inj (Option.some.inj h)
  refine (place_raw g s a1 w0 w hI).mono ?_
  rintro e w' ⟨rfl, hb⟩
  exact ⟨rfl, done_below hI hB hb⟩

/-! #### Peek, Since -/
def queue_Queue_Peek.f (s : QS) : Option (Int × Bool × QS) := match s.row with | [] => some (0, false, s) | x :: _ => some (x.f0, true, s)
set_option maxHeartbeats 1000000 in
theorem peek_nil (g : Nat) (s : QS) (w0 w : World) (hI : IsS62 w0 w g s) (hrow : s.row = []) : Calls Try.prog 28 #[.pointer (some ⟨g, 0, none⟩)] w fun e w' => e = .returned (.tuple #[.int .i64 0, .bool false]) ∧ w = w' := by
  have HLEN := Aside0.mk (len_raw g s w0 w hI)
  rw [hrow] at HLEN
  clear hI hrow
  go_enter Try.func28, Try.ntmps28
  go_wp2_with (go_at_call 13; refine HLEN.out.mono ?_; rintro e w' ⟨rfl, rfl⟩)
  go_ret2
  exact ⟨rfl, rfl⟩
set_option maxHeartbeats 1000000 in
theorem peek_cons (g : Nat) (s : QS) (x : S65) (l : List S65) (w0 w : World) (hI : IsS62 w0 w g s) (hrow : s.row = x :: l) : Calls Try.prog 28 #[.pointer (some ⟨g, 0, none⟩)] w fun e w' => e = .returned (.tuple #[.int .i64 x.f0, .bool true]) ∧ w = w' := by
  have HLEN := Aside0.mk (len_raw g s w0 w hI)
  obtain ⟨c, A, n, sn, rc, buf, hb, hc, hl, hr, hn, hC, hR, hg, hgc⟩ := hI.open_
  have h1 : w.cell? ⟨g, 1, none⟩ = some (.slice A s.row.length n) := (blk_cell hb 1).trans rfl
  obtain ⟨ad, rfl, hx, _⟩ := at_T65 hC 0 (by omega) (by rw [hrow]; simp)
  have hL2 : ((s.row.length : Int) == 0) = false := by rw [hrow]; simp; omega
  have hL3 : 0 < s.row.length := by rw [hrow]; simp
  have hx' : w.cell? ad = some (.int .i64 x.f0) := by
    have e : rd_T65 s.row 0 = x := by rw [hrow]; rfl
    rw [e] at hx
    exact hx
  clear hb hc hC hR hI hl hr hn hx hrow
  go_enter Try.func28, Try.ntmps28
  go_wp2_with (go_at_call 13; refine HLEN.out.mono ?_; rintro e w' ⟨rfl, rfl⟩)
  go_ret2
  exact ⟨rfl, rfl⟩
theorem queue_Queue_Peek.calls (g : Nat) (s : QS) (r1 : Int) (r2 : Bool) (s' : QS) (w0 w : World) (hI : IsS62 w0 w g s) (hB : Below w0.heap.size w0 w) (h : queue_Queue_Peek.f s = some (r1, r2, s')) :
    Calls Try.prog 28 #[.pointer (some ⟨g, 0, none⟩)] w fun e w' => e = .returned (.tuple #[.int .i64 r1, .bool r2]) ∧ IsS62 w0 w' g s' ∧ Below w0.heap.size w0 w' ∧ KeptH TQ w w' := by
  cases hrow : s.row with
  | nil =>
    rw [queue_Queue_Peek.f, hrow] at h
    injection h with h
    injection h with h1 h
    injection h with h2 h3
    subst h1 h2 h3
    refine (peek_nil g s w0 w hI hrow).mono ?_
    rintro e w' ⟨rfl, rfl⟩
    exact ⟨rfl, done_below hI hB (Below.refl _ _)⟩
  | cons x l =>
    rw [queue_Queue_Peek.f, hrow] at h
    injection h with h
    injection h with h1 h
    injection h with h2 h3
    subst h1 h2 h3
    refine (peek_cons g s x l w0 w hI hrow).mono ?_
    rintro e w' ⟨rfl, rfl⟩
    exact ⟨rfl, done_below hI hB (Below.refl _ _)⟩

theorem placeOf_range (id : Int) : ∀ (xs : List S65) (j : Int), 0 ≤ j → placeOf xs id j = -1 ∨ (j ≤ placeOf xs id j ∧ placeOf xs id j < j + xs.length)
  | [], j, _ => .inl rfl
  | x :: l, j, hj => by
    unfold placeOf
    by_cases c : x.f0 = id
    · rw [if_pos c]; exact .inr ⟨Int.le_refl _, by simp; omega⟩
    · rw [if_neg c]
      rcases placeOf_range id l (j + 1) (by omega) with h | h
      · exact .inl h
      · exact .inr ⟨by omega, by simp; omega⟩

def queue_Queue_Since.f (s : QS) (id : Int) : Option (Int × Bool × QS) := if placeOf s.row id 0 < 0 then some (0, false, s) else some ((rd_T65 s.row (placeOf s.row id 0)).f1, true, s)
set_option maxHeartbeats 1000000 in
theorem since_no (g : Nat) (s : QS) (a1 : Int) (w0 w : World) (hI : IsS62 w0 w g s) (hp : placeOf s.row a1 0 < 0) : Calls Try.prog 27 #[.pointer (some ⟨g, 0, none⟩), .int .i64 a1] w fun e w' => e = .returned (.tuple #[.int .i64 0, .bool false]) ∧ Below w.heap.size w w' := by
  have HP := Aside0.mk (place_raw g s a1 w0 w hI)
  generalize placeOf s.row a1 0 = i at hp HP
  clear hI
  go_enter Try.func27, Try.ntmps27
  go_wp2_with (go_at_call 11; refine HP.out.mono ?_; rintro e w' ⟨rfl, hb⟩)
  go_ret2
  exact ⟨rfl, hb⟩
set_option maxHeartbeats 1000000 in
theorem since_yes (g : Nat) (s : QS) (a1 : Int) (w0 w : World) (hI : IsS62 w0 w g s) (hp : ¬ placeOf s.row a1 0 < 0) : Calls Try.prog 27 #[.pointer (some ⟨g, 0, none⟩), .int .i64 a1] w fun e w' => e = .returned (.tuple #[.int .i64 (rd_T65 s.row (placeOf s.row a1 0)).f1, .bool true]) ∧ Below w.heap.size w w' := by
  have HP := Aside0.mk (place_raw g s a1 w0 w hI)
  obtain ⟨c, A, n, sn, rc, buf, hb, hc, hl, hr, hn, hC, hR, hg, hgc⟩ := hI.open_
  have hlt : placeOf s.row a1 0 < (s.row.length : Int) := by
    rcases placeOf_range a1 s.row 0 (by omega) with h | h <;> omega
  have h0 : 0 ≤ placeOf s.row a1 0 := by omega
  have h1 : w.cell? ⟨g, 1, none⟩ = some (.slice A s.row.length n) := (blk_cell hb 1).trans rfl
  generalize placeOf s.row a1 0 = i at hp HP hlt h0 ⊢
  obtain ⟨ad, rfl, _, hx⟩ := at_T65 hC i h0 hlt
  have HW := Aside0.mk (fun (w' : World) (hb : Below w.heap.size w w') => And.intro ((hb.cell (World.block_lt_of_cell? w _ h1)).trans h1) ((hb.cell (World.block_lt_of_cell? w _ hx)).trans hx))
  clear hb hc hC hR hI hl hr hn hx h1
  go_enter Try.func27, Try.ntmps27
  go_wp2_with (go_at_call 11; refine HP.out.mono ?_; rintro e w' ⟨rfl, hb⟩; obtain ⟨h1, hx⟩ := HW.out w' hb)
  go_ret2
  exact ⟨rfl, hb⟩
theorem queue_Queue_Since.calls (g : Nat) (s : QS) (a1 : Int) (r1 : Int) (r2 : Bool) (s' : QS) (w0 w : World) (hI : IsS62 w0 w g s) (hB : Below w0.heap.size w0 w) (h : queue_Queue_Since.f s a1 = some (r1, r2, s')) :
    Calls Try.prog 27 #[.pointer (some ⟨g, 0, none⟩), .int .i64 a1] w fun e w' => e = .returned (.tuple #[.int .i64 r1, .bool r2]) ∧ IsS62 w0 w' g s' ∧ Below w0.heap.size w0 w' ∧ KeptH TQ w w' := by
  unfold queue_Queue_Since.f at h
  by_cases hp : placeOf s.row a1 0 < 0
  · rw [if_pos hp] at h
    injection h with h
    injection h with h1 h
    injection h with h2 h3
    subst h1 h2 h3
    refine (since_no g s a1 w0 w hI hp).mono ?_
    rintro e w' ⟨rfl, hb⟩
    exact ⟨rfl, done_below hI hB hb⟩
  · rw [if_neg hp] at h
    injection h with h
    injection h with h1 h
    injection h with h2 h3
    subst h1 h2 h3
    refine (since_yes g s a1 w0 w hI hp).mono ?_
    rintro e w' ⟨rfl, hb⟩
    exact ⟨rfl, done_below hI hB hb⟩
end Go.Proofs.Ytdcnmjdohjodhaa.Man
