/-
  The walk of PoolOne. Conditions: none.
-/
import Derived.Test.YteagjolmikbllaaWy
import Derived.Test.YteagjolmikbllaaWTab
set_option linter.unusedVariables false
set_option linter.unusedSimpArgs false
namespace Go.Proofs.Yteagjolmikbllaa.Ob
open Go.RowKit Go.Proofs.YteagjolmikbllaaW.PrintWords Go.Proofs.YteagjolmikbllaaW.PrintLast Go.Proofs.YteagjolmikbllaaW.PrintMore Go.Proofs.Yteagjolmikbllaa.Hid Go.Proofs.Yteagjolmikbllaa.Mp Go.Proofs.Yteagjolmikbllaa.PA
variable {s : PS}
theorem mod8 (x : Int) : ∃ m : Nat, m < 8 ∧ Int.tmod (IntKind.u64.wrap x) (8 : Int) = (m : Int) := by
  have hw : 0 ≤ IntKind.u64.wrap x := by
    unfold IntKind.wrap
    simp [IntKind.bits, IntKind.signed]
    omega
  have h1 : 0 ≤ Int.tmod (IntKind.u64.wrap x) (8 : Int) := Int.tmod_nonneg _ hw
  have h2 : Int.tmod (IntKind.u64.wrap x) (8 : Int) < 8 := Int.tmod_lt_of_pos _ (by omega)
  exact ⟨(Int.tmod (IntKind.u64.wrap x) (8 : Int)).toNat, by omega, by omega⟩
theorem size_of {n : Nat} (h1 : 1 ≤ n) (h8 : n ≤ 8) : sizeOf (n : Int) = n := by
  have := (sizeOf_eq (n : Int)).1
  have e : mn (mx (n : Int) 1) 8 = (n : Int) := by unfold mn mx; (repeat' split) <;> omega
  omega
theorem one_of_three (p q r : Int → Bool) : ∀ l : List Int, (∀ x ∈ l, (p x = true ∧ q x = false ∧ r x = false) ∨ (p x = false ∧ q x = true ∧ r x = false) ∨ (p x = false ∧ q x = false ∧ r x = true)) → (l.filter p).length + (l.filter q).length + (l.filter r).length = l.length
  | [], _ => rfl
  | x :: l, h => by
    have ih := one_of_three p q r l (fun y hy => h y (List.mem_cons_of_mem _ hy))
    rcases h x (by simp) with ⟨h1, h2, h3⟩ | ⟨h1, h2, h3⟩ | ⟨h1, h2, h3⟩ <;> simp [List.filter_cons, h1, h2, h3] <;> omega
theorem code_cases (h : PInv s) {k : Int} (hk : k ∈ keys s.what) : (code s.what k = 1 ∨ code s.what k = 2 ∨ code s.what k = 3) := by
  obtain ⟨p, hp, rfl⟩ := List.mem_map.1 hk
  have e : code s.what p.1 = p.2 := by unfold code; rw [(look_some h.rise).2 hp]; rfl
  rw [e]
  exact (h.vals p hp).2
theorem idle_code (h : PInv s) (k : Int) : k ∈ s.stack ↔ code s.what k = 2 := (h.idle k).trans (code_some h.rise (by decide)).symm
theorem idle_len (h : PInv s) : s.stack.length = ((keys s.what).filter (fun k => decide (code s.what k = 2))).length := by
  refine Nat.le_antisymm (h.nodup.length_le_of_subset (fun k hk => ?_)) (((keys_nodup h.rise).sublist List.filter_sublist).length_le_of_subset (fun k hk => ?_))
  · rw [List.mem_filter]
    have hc := (idle_code h k).1 hk
    exact ⟨(key_code h k).2 (by rw [hc]; decide), by simp [hc]⟩
  · rw [List.mem_filter] at hk
    exact (idle_code h k).2 (by simpa using hk.2)
theorem count_all (h : PInv s) : (those s 46).length + s.stack.length + (those s 40).length = s.what.length := by
  have := one_of_three (fun k => asks 46 (code s.what k)) (fun k => decide (code s.what k = 2)) (fun k => asks 40 (code s.what k)) (keys s.what) (fun x hx => by
    rcases code_cases h hx with e | e | e <;> simp [asks, e])
  rw [idle_len h]
  unfold those
  rw [this]
  simp [keys]
theorem in_those (s : PS) (q : Nat) {k : Int} (hk : k ∈ keys s.what) : decide (k ∈ those s q) = asks q (code s.what k) := by
  unfold those
  have e : k ∈ (keys s.what).filter (fun k => asks q (code s.what k)) ↔ asks q (code s.what k) = true := by rw [List.mem_filter]; exact ⟨fun h => h.2, fun h => ⟨hk, h⟩⟩
  by_cases h : asks q (code s.what k) = true
  · rw [h, decide_eq_true (e.2 h)]
  · rw [decide_eq_false (fun hm => h (e.1 hm))]
    cases ha : asks q (code s.what k) with
    | true => exact absurd ha h
    | false => rfl
theorem in_idle (h : PInv s) (k : Int) : decide (k ∈ s.stack) = decide (code s.what k = 2) := by
  by_cases hc : code s.what k = 2
  · rw [decide_eq_true hc, decide_eq_true ((idle_code h k).2 hc)]
  · rw [decide_eq_false hc, decide_eq_false (fun hm => hc ((idle_code h k).1 hm))]
theorem w64n {x y : Int} (h0 : -1000 ≤ x) (h1 : x ≤ 1000) (h : x = y) : wrap64 x = y := by subst h; unfold wrap64; omega
theorem room_w {n a b : Nat} (h : b = n) (hb : a ≤ b) (h8 : n ≤ 8) : wrap64 ((n : Int) - (a : Int)) = (b : Int) - (a : Int) := w64n (by omega) (by omega) (by omega)
theorem not_more {n a b : Nat} (h : b = n) (hb : a ≤ b) : decide ((n : Int) < (a : Int)) = false ∧ decide (n < a) = false := ⟨decide_eq_false (by omega), decide_eq_false (by omega)⟩
theorem sum3 {a b c d : Nat} (h : a + b + c = d) : (a : Int) + (b : Int) + (c : Int) = (d : Int) := by omega
theorem diff_w {n a b : Nat} {p : Int} (h : b = n) (hb : a ≤ b) (h8 : n ≤ 8) (hp : (b : Int) - (a : Int) = p) : wrap64 p = p := w64n (by omega) (by omega) rfl
theorem size_make (s : PS) (id : Int) : (makeF s id).2.size = s.size := by unfold makeF; (repeat' split) <;> rfl
theorem size_ready (s : PS) (id : Int) : (readyF s id).2.size = s.size := by unfold readyF; (repeat' split) <;> rfl
theorem size_give (s : PS) (id : Int) : (giveF s id).2.size = s.size := by unfold giveF; (repeat' split) <;> rfl
theorem size_take (s : PS) : (takeF s).2.2.size = s.size := by unfold takeF; split <;> rfl
theorem size_drop (s : PS) (id : Int) : (dropF s id).2.size = s.size := by unfold dropF; (repeat' split) <;> rfl
def one.T34 : Bool × List (List Nat × List Nat) := (true, [([], []), ([0], [0]), ([], []), ([], []), ([2, 3], [2, 3]), ([4], [4]), ([1, 5, 1], [1, 5])])
theorem one.tab34 : rtab .any (opsOf Try.f6 34) = one.T34 := by kernel_rfl
def one.T36 : Bool × List (List Nat × List Nat) := (true, [([], []), ([0], [0]), ([], []), ([], []), ([2, 3], [2, 3]), ([4], [4]), ([1, 5, 1], [1, 5])])
theorem one.tab36 : rtab .any (opsOf Try.f6 36) = one.T36 := by kernel_rfl
def one.T38 : Bool × List (List Nat × List Nat) := (true, [([], []), ([0], [0]), ([], []), ([], []), ([2, 3], [2, 3]), ([4], [4]), ([1, 5, 1], [1, 5])])
theorem one.tab38 : rtab .any (opsOf Try.f6 38) = one.T38 := by kernel_rfl
set_option maxRecDepth 100000 in
set_option maxHeartbeats 8000000 in
theorem one_calls (a0 : Int) (A : Option Addr) (c0 : Nat) (l0 : List S39) (w : World) (ha : (Lit.int .i64 a0).wf = true) (hr0 : Kd.C k39 w A l0.length l0) (hc0 : l0.length ≤ c0) (hw0 : ∀ x ∈ l0, (Lit.int .i64 x.f0).wf = true ∧ (Lit.int .i64 x.f1).wf = true) :
    Calls Try.prog 6 #[.int .i64 a0, .slice A l0.length c0] w fun e w' => e = .returned (.bool true) ∧ Below w.heap.size w w' := by
  have HL := Aside0.mk (lives_raw w)
  have HC := Aside0.mk hr0
  have HWF := Aside0.mk hw0
  obtain ⟨ne, hne⟩ : ∃ ne, ne = min l0.length 100 := ⟨_, rfl⟩
  have hnl : ne ≤ l0.length := by omega
  have HEA := Aside0.mk (fun W => early_raw A l0.length c0 ne W hne hc0)
  have hlm : l0.length ≤ 9223372036854775807 := hr0.2.1
  obtain ⟨m, hm8, hm⟩ := mod8 a0
  obtain ⟨n, hn⟩ : ∃ n : Nat, n = m + 1 := ⟨_, rfl⟩
  have hmw : wrap64 (m : Int) = (m : Int) := by unfold wrap64; omega
  have hmw2 : wrap64 (1 + (m : Int)) = (n : Int) := by unfold wrap64; omega
  have hn1 : 1 ≤ n := by omega
  have hn8 : n ≤ 8 := by omega
  have HSZ := Aside0.mk (size_of hn1 hn8)
  have HN18 := Aside0.mk (And.intro hn1 hn8)
  clear hn hm8 hn1 hn8
  clear hr0 hw0 hne
  go_enter Try.func6, Try.ntmps6
  go_wp2_with (first
    | (go_at_call 8; refine HL.out.mono ?_; rintro e w1 ⟨rfl, hb⟩; have HB1 := Aside0.mk hb; clear hb HL)
    | (go_at_call 9; refine (new_raw (n : Int) w w1 HB1.out).mono ?_; rintro e w2 ⟨g, rfl, hi, hb, _⟩; have HI2 := Aside0.mk hi; have HB2 := Aside0.mk hb; clear hi hb HB1)
    | (go_at_call 17; refine (HEA.out _).mono ?_; rintro e w3 ⟨rfl, rfl⟩))
  clear hm hmw hmw2 ha
  go_loopw [6] (fun v6 wr => ∃ (k : Nat) (s : PS), k ≤ ne ∧ v6 = .int .i64 k ∧ Aside0 (PInv s) ∧ Aside0 (IsP w wr g s) ∧ Aside0 (Below w.heap.size w wr) ∧ Aside0 (s.size = n)) (fun v6 _ => ne - (intOf v6).toNat)
  case atStart => exact ⟨0, ⟨sizeOf (n : Int), [], []⟩, Nat.zero_le _, rfl, ⟨PInv.new _ (sizeOf_eq (n : Int)).2.2⟩, HI2, HB2, HSZ⟩
  case round =>
    obtain ⟨k, s, hk, rfl, HV, HI, HB, HSZN⟩ := hrel
    by_cases hlt : k < ne
    · obtain ⟨ad, hA, hx0, hx1⟩ := at_T39 (Kd.C_below HC.out HB.out) (k : Int) (by omega) (by omega)
      subst hA
      obtain ⟨x, hxe⟩ : ∃ x : S39, x = rd_T39 l0 (k : Int) := ⟨_, rfl⟩
      have hxm : x ∈ l0 := by rw [hxe]; exact rd39_mem (by omega)
      have HID : Aside0 (I64 x.f1) := ⟨(HWF.out x hxm).2⟩
      rw [← hxe, Int.toNat_natCast] at hx0 hx1
      have h0k : (0 : Int) ≤ (k : Int) := by omega
      have hkl : (k : Int) < (ne : Int) := by omega
      obtain ⟨κ, hκ6, hκ⟩ := kind_raw x
      have HKD := Aside0.mk hκ
      clear hxe hxm hκ
      go_upto_block 2 with (go_at_call 18; refine (HKD.out _).mono ?_; rintro e w5 ⟨rfl, hb⟩; have HB5 := Aside0.mk hb; clear hb HKD)
      have HI5 := Aside0.mk (HI.out.below HB5.out)
      have HW5 := Aside0.mk (HB.out.trans (HB5.out.mono HB.out.size))
      clear HI HB HB5 hx0 hx1
      go_cut [] (fun wc => ∃ s' : PS, Aside0 (PInv s') ∧ Aside0 (IsP w wc g s') ∧ Aside0 (Below w.heap.size w wc) ∧ Aside0 (s'.size = n))
      case first =>
        have hx : κ = 0 ∨ κ = 1 ∨ κ = 2 ∨ κ = 3 ∨ κ = 4 ∨ κ = 5 := by omega
        rcases hx with rfl | rfl | rfl | rfl | rfl | rfl
        · have HR := Aside0.mk (room_raw HI5.out)
          have HIS := Aside0.mk (isThere_raw x.f1 HID.out HI5.out)
          have HC1 := Aside0.mk (make_any x.f1 HID.out HV.out HI5.out HW5.out)
          have hv1 : PInv (makeF s x.f1).2 := HV.out.make HID.out
          have hsz1 : (makeF s x.f1).2.size = n := (size_make s x.f1).trans HSZN.out
          unfold makeF at HC1 hv1 hsz1
          have hle := HV.out.size.1
          by_cases hc : code s.what x.f1 = 0
          · rw [if_pos hc] at HC1 hv1 hsz1
            rw [decide_eq_true hc] at HIS
            clear hc
            by_cases hl : s.what.length < s.size
            · rw [if_pos hl] at HC1 hv1 hsz1
              have hrz : ((s.size : Int) - (s.what.length : Int) == 0) = false := by rw [beq_eq_false_iff_ne]; omega
              have hry : decide ((s.size : Int) - (s.what.length : Int) = 0) = false := decide_eq_false (by omega)
              have hrw : ¬ ((s.size : Int) - (s.what.length : Int) = 0) := by omega
              clear hl
              have HV1 := Aside0.mk hv1
              have HS1 := Aside0.mk hsz1
              clear hv1 hsz1 hle
              go_wp2_with (first
                | (go_at_call 16; (with_reducible refine HR.out.mono ?_); rintro e wa ⟨rfl, rfl⟩; clear HR)
                | (go_at_call 32; (with_reducible refine HIS.out.mono ?_); rintro e wb ⟨rfl, rfl⟩; clear HIS)
                | (go_at_call 10; (with_reducible refine HC1.out.mono ?_); rintro e w6 ⟨rfl, hi, hb, hk⟩; have HI6 := Aside0.mk hi; have HB6 := Aside0.mk hb; clear hi hb hk HC1))
              go_meet
              case rel => exact ⟨_, HV1, HI6, HB6, HS1⟩
            · rw [if_neg hl] at HC1 hv1 hsz1
              have hrz : (s.size : Int) - (s.what.length : Int) = 0 := by omega
              rw [hrz] at HR
              clear hl hrz
              have HV1 := Aside0.mk hv1
              have HS1 := Aside0.mk hsz1
              clear hv1 hsz1 hle
              go_wp2_with (first
                | (go_at_call 16; (with_reducible refine HR.out.mono ?_); rintro e wa ⟨rfl, rfl⟩; clear HR)
                | (go_at_call 32; (with_reducible refine HIS.out.mono ?_); rintro e wb ⟨rfl, rfl⟩; clear HIS)
                | (go_at_call 10; (with_reducible refine HC1.out.mono ?_); rintro e w6 ⟨rfl, hi, hb, hk⟩; have HI6 := Aside0.mk hi; have HB6 := Aside0.mk hb; clear hi hb hk HC1))
              go_meet
              case rel => exact ⟨_, HV1, HI6, HB6, HS1⟩
          · rw [if_neg hc] at HC1 hv1 hsz1
            rw [decide_eq_false hc] at HIS
            clear hc
            by_cases hl : (s.size : Int) - (s.what.length : Int) = 0
            · rw [hl] at HR
              clear hl
              have HV1 := Aside0.mk hv1
              have HS1 := Aside0.mk hsz1
              clear hv1 hsz1 hle
              go_wp2_with (first
                | (go_at_call 16; (with_reducible refine HR.out.mono ?_); rintro e wa ⟨rfl, rfl⟩; clear HR)
                | (go_at_call 32; (with_reducible refine HIS.out.mono ?_); rintro e wb ⟨rfl, rfl⟩; clear HIS)
                | (go_at_call 10; (with_reducible refine HC1.out.mono ?_); rintro e w6 ⟨rfl, hi, hb, hk⟩; have HI6 := Aside0.mk hi; have HB6 := Aside0.mk hb; clear hi hb hk HC1))
              go_meet
              case rel => exact ⟨_, HV1, HI6, HB6, HS1⟩
            · skip
              have hrz : ((s.size : Int) - (s.what.length : Int) == 0) = false := by rw [beq_eq_false_iff_ne]; omega
              have hry : decide ((s.size : Int) - (s.what.length : Int) = 0) = false := decide_eq_false hl
              have HV1 := Aside0.mk hv1
              have HS1 := Aside0.mk hsz1
              clear hv1 hsz1 hle
              go_wp2_with (first
                | (go_at_call 16; (with_reducible refine HR.out.mono ?_); rintro e wa ⟨rfl, rfl⟩; clear HR)
                | (go_at_call 32; (with_reducible refine HIS.out.mono ?_); rintro e wb ⟨rfl, rfl⟩; clear HIS)
                | (go_at_call 10; (with_reducible refine HC1.out.mono ?_); rintro e w6 ⟨rfl, hi, hb, hk⟩; have HI6 := Aside0.mk hi; have HB6 := Aside0.mk hb; clear hi hb hk HC1))
              go_meet
              case rel => exact ⟨_, HV1, HI6, HB6, HS1⟩
        · have HR := Aside0.mk (room_raw HI5.out)
          have HIS := Aside0.mk (isThere_raw x.f1 HID.out HI5.out)
          have HC1 := Aside0.mk (make_any x.f1 HID.out HV.out HI5.out HW5.out)
          have hv1 : PInv (makeF s x.f1).2 := HV.out.make HID.out
          have hsz1 : (makeF s x.f1).2.size = n := (size_make s x.f1).trans HSZN.out
          unfold makeF at HC1 hv1 hsz1
          have hle := HV.out.size.1
          by_cases hc : code s.what x.f1 = 0
          · rw [if_pos hc] at HC1 hv1 hsz1
            rw [decide_eq_true hc] at HIS
            clear hc
            by_cases hl : s.what.length < s.size
            · rw [if_pos hl] at HC1 hv1 hsz1
              have hrz : ((s.size : Int) - (s.what.length : Int) == 0) = false := by rw [beq_eq_false_iff_ne]; omega
              have hry : decide ((s.size : Int) - (s.what.length : Int) = 0) = false := decide_eq_false (by omega)
              have hrw : ¬ ((s.size : Int) - (s.what.length : Int) = 0) := by omega
              clear hl
              have HV1 := Aside0.mk hv1
              have HS1 := Aside0.mk hsz1
              clear hv1 hsz1 hle
              go_wp2_with (first
                | (go_at_call 16; (with_reducible refine HR.out.mono ?_); rintro e wa ⟨rfl, rfl⟩; clear HR)
                | (go_at_call 32; (with_reducible refine HIS.out.mono ?_); rintro e wb ⟨rfl, rfl⟩; clear HIS)
                | (go_at_call 10; (with_reducible refine HC1.out.mono ?_); rintro e w6 ⟨rfl, hi, hb, hk⟩; have HI6 := Aside0.mk hi; have HB6 := Aside0.mk hb; clear hi hb hk HC1))
              go_meet
              case rel => exact ⟨_, HV1, HI6, HB6, HS1⟩
            · rw [if_neg hl] at HC1 hv1 hsz1
              have hrz : (s.size : Int) - (s.what.length : Int) = 0 := by omega
              rw [hrz] at HR
              clear hl hrz
              have HV1 := Aside0.mk hv1
              have HS1 := Aside0.mk hsz1
              clear hv1 hsz1 hle
              go_wp2_with (first
                | (go_at_call 16; (with_reducible refine HR.out.mono ?_); rintro e wa ⟨rfl, rfl⟩; clear HR)
                | (go_at_call 32; (with_reducible refine HIS.out.mono ?_); rintro e wb ⟨rfl, rfl⟩; clear HIS)
                | (go_at_call 10; (with_reducible refine HC1.out.mono ?_); rintro e w6 ⟨rfl, hi, hb, hk⟩; have HI6 := Aside0.mk hi; have HB6 := Aside0.mk hb; clear hi hb hk HC1))
              go_meet
              case rel => exact ⟨_, HV1, HI6, HB6, HS1⟩
          · rw [if_neg hc] at HC1 hv1 hsz1
            rw [decide_eq_false hc] at HIS
            clear hc
            by_cases hl : (s.size : Int) - (s.what.length : Int) = 0
            · rw [hl] at HR
              clear hl
              have HV1 := Aside0.mk hv1
              have HS1 := Aside0.mk hsz1
              clear hv1 hsz1 hle
              go_wp2_with (first
                | (go_at_call 16; (with_reducible refine HR.out.mono ?_); rintro e wa ⟨rfl, rfl⟩; clear HR)
                | (go_at_call 32; (with_reducible refine HIS.out.mono ?_); rintro e wb ⟨rfl, rfl⟩; clear HIS)
                | (go_at_call 10; (with_reducible refine HC1.out.mono ?_); rintro e w6 ⟨rfl, hi, hb, hk⟩; have HI6 := Aside0.mk hi; have HB6 := Aside0.mk hb; clear hi hb hk HC1))
              go_meet
              case rel => exact ⟨_, HV1, HI6, HB6, HS1⟩
            · skip
              have hrz : ((s.size : Int) - (s.what.length : Int) == 0) = false := by rw [beq_eq_false_iff_ne]; omega
              have hry : decide ((s.size : Int) - (s.what.length : Int) = 0) = false := decide_eq_false hl
              have HV1 := Aside0.mk hv1
              have HS1 := Aside0.mk hsz1
              clear hv1 hsz1 hle
              go_wp2_with (first
                | (go_at_call 16; (with_reducible refine HR.out.mono ?_); rintro e wa ⟨rfl, rfl⟩; clear HR)
                | (go_at_call 32; (with_reducible refine HIS.out.mono ?_); rintro e wb ⟨rfl, rfl⟩; clear HIS)
                | (go_at_call 10; (with_reducible refine HC1.out.mono ?_); rintro e w6 ⟨rfl, hi, hb, hk⟩; have HI6 := Aside0.mk hi; have HB6 := Aside0.mk hb; clear hi hb hk HC1))
              go_meet
              case rel => exact ⟨_, HV1, HI6, HB6, HS1⟩
        · have HC1 := Aside0.mk (ready_any x.f1 HID.out HV.out HI5.out HW5.out)
          go_wp2_with (first
            | (go_at_call 11; (with_reducible refine (HC1.out).mono ?_); rintro e w6 ⟨rfl, hi, hb, hk⟩; have HI6 := Aside0.mk hi; have HB6 := Aside0.mk hb; have HK6 := Aside0.mk hk; clear hi hb hk))
          go_meet
          case rel => exact ⟨_, ⟨HV.out.ready HID.out⟩, HI6, HB6, ⟨(size_ready s x.f1).trans HSZN.out⟩⟩
        · have HC1 := Aside0.mk (take_any HV.out HI5.out HW5.out)
          go_wp2_with (first
            | (go_at_call 12; (with_reducible refine (HC1.out).mono ?_); rintro e w6 ⟨rfl, hi, hb, hk⟩; have HI6 := Aside0.mk hi; have HB6 := Aside0.mk hb; have HK6 := Aside0.mk hk; clear hi hb hk))
          go_meet
          case rel => exact ⟨_, ⟨HV.out.take⟩, HI6, HB6, ⟨(size_take s).trans HSZN.out⟩⟩
        · have HC1 := Aside0.mk (give_any x.f1 HID.out HV.out HI5.out HW5.out)
          go_wp2_with (first
            | (go_at_call 14; (with_reducible refine (HC1.out).mono ?_); rintro e w6 ⟨rfl, hi, hb, hk⟩; have HI6 := Aside0.mk hi; have HB6 := Aside0.mk hb; have HK6 := Aside0.mk hk; clear hi hb hk))
          go_meet
          case rel => exact ⟨_, ⟨HV.out.give HID.out⟩, HI6, HB6, ⟨(size_give s x.f1).trans HSZN.out⟩⟩
        · have HC1 := Aside0.mk (drop_any x.f1 HID.out HV.out HI5.out HW5.out)
          have HV1 := Aside0.mk (HV.out.drop (id := x.f1))
          have HS1 : Aside0 ((dropF s x.f1).2.size = n) := ⟨(size_drop s x.f1).trans HSZN.out⟩
          have HIS := Aside0.mk (fun W (h : IsP w W g (dropF s x.f1).2) => isThere_raw x.f1 HID.out h)
          have hcz : code (dropF s x.f1).2.what x.f1 = 0 := by rw [drop_eq HV.out]; exact code_rem_same _ _
          rw [decide_eq_true hcz] at HIS
          clear hcz
          generalize (dropF s x.f1).1 = dq at HC1
          cases dq with
          | true =>
            go_wp2_with (first
              | (go_at_call 22; (with_reducible refine (HC1.out).mono ?_); rintro e w6 ⟨rfl, hi, hb, hk⟩; have HI6 := Aside0.mk hi; have HB6 := Aside0.mk hb; have HK6 := Aside0.mk hk; clear hi hb hk)
              | (go_at_call 32; (with_reducible refine (HIS.out w6 HI6.out).mono ?_); rintro e wb ⟨rfl, rfl⟩))
            go_meet
            case rel => exact ⟨_, HV1, HI6, HB6, HS1⟩
          | false =>
            go_wp2_with (first
              | (go_at_call 22; (with_reducible refine (HC1.out).mono ?_); rintro e w6 ⟨rfl, hi, hb, hk⟩; have HI6 := Aside0.mk hi; have HB6 := Aside0.mk hb; have HK6 := Aside0.mk hk; clear hi hb hk))
            go_meet
            case rel => exact ⟨_, HV1, HI6, HB6, HS1⟩
      case rest =>
        clear HI5 HW5 HV HSZN
        obtain ⟨s', HV, HI, HB, HSZN⟩ := hcut
        have hk8 : (keys s'.what).length ≤ 8 := by simpa [keys] using Nat.le_trans HV.out.size.1 HV.out.size.2
        have hl8 : s'.stack.length ≤ 8 := Nat.le_trans HV.out.len (Nat.le_trans HV.out.size.1 HV.out.size.2)
        have hcnt := count_all HV.out
        have hln := HV.out.size.1
        have hkl2 : (keys s'.what).length = s'.what.length := by simp [keys]
        have hszn := HSZN.out
        have hn8 := HN18.out.2
        have HALL := Aside0.mk (those_all s')
        have HKEY := Aside0.mk (fun k (hk : k ∈ keys s'.what) => code_cases HV.out hk)
        have HTH := Aside0.mk (fun q k (hk : k ∈ keys s'.what) => in_those s' q hk)
        have HID2 := Aside0.mk (fun k => in_idle HV.out k)
        have HWK := Aside0.mk (fun k (hk : k ∈ keys s'.what) => (by obtain ⟨p, hp, rfl⟩ := List.mem_map.1 hk; exact HV.out.key p hp : I64 k))
        obtain ⟨mk, hmk⟩ : ∃ mk, those s' 46 = mk := ⟨_, rfl⟩
        obtain ⟨bz, hbz⟩ : ∃ bz, those s' 40 = bz := ⟨_, rfl⟩
        obtain ⟨al, hal⟩ : ∃ al, keys s'.what = al := ⟨_, rfl⟩
        have HM46 := Aside0.mk hmk
        have HM40 := Aside0.mk hbz
        rw [hal] at HALL HKEY HTH HWK hk8 hkl2
        rw [hmk, hbz] at hcnt
        have hmk8 : mk.length ≤ 8 := by omega
        have hbz8 : bz.length ≤ 8 := by omega
        have hs1 : (mk.length : Int) + (s'.stack.length : Int) + (bz.length : Int) = (s'.what.length : Int) := sum3 hcnt
        obtain ⟨p3, hp3⟩ : ∃ p3 : Int, (s'.size : Int) - (s'.what.length : Int) = p3 := ⟨_, rfl⟩
        have hs3 : (n : Int) - (s'.what.length : Int) = p3 := by rw [← hszn]; exact hp3
        have hs4 : wrap64 p3 = p3 := diff_w hszn hln hn8 hp3
        have HP3 := Aside0.mk hp3
        clear hp3
        obtain ⟨hgt, hgt2⟩ := not_more hszn hln
        have HKL2 := Aside0.mk hkl2
        have HCNT := Aside0.mk hcnt
        rw [← hkl2] at hs1 hs3 hgt hgt2
        clear hal hmk hbz hkl2 hcnt hln hszn hn8
        go_wp2_with (first
          | (go_at_call 21; (with_reducible refine (all_raw HV.out HI.out).mono ?_); rw [HALL.out]; rintro e wa ⟨va, rfl, hr, hb⟩; obtain ⟨Aa, na, rfl⟩ := Kd.R_slice hr; have HIa := Aside0.mk (HI.out.below hb); have HBa := Aside0.mk (HB.out.trans (hb.mono HB.out.size)); have HRa := Aside0.mk hr; clear hr hb HI HB)
          | (go_at_call 34; (with_reducible refine (making_raw HV.out HIa.out).mono ?_); rw [HM46.out]; rintro e wb ⟨vb, rfl, hr, hb⟩; obtain ⟨Ab, nb, rfl⟩ := Kd.R_slice hr; have HIb := Aside0.mk (HIa.out.below hb); have HBb := Aside0.mk (HBa.out.trans (hb.mono HBa.out.size)); have HRb := Aside0.mk (Kd.R_below HRa.out hb); clear hr hb HIa HBa HRa)
          | (go_at_call 19; (with_reducible refine (idle_raw HV.out HIb.out).mono ?_); rintro e wc ⟨vc, rfl, hr, hb⟩; obtain ⟨Ac, nc, rfl⟩ := Kd.R_slice hr; have HIc := Aside0.mk (HIb.out.below hb); have HBc := Aside0.mk (HBb.out.trans (hb.mono HBb.out.size)); have HRc := Aside0.mk (Kd.R_below HRb.out hb); clear hr hb HIb HBb HRb)
          | (go_at_call 15; (with_reducible refine (busy_raw HV.out HIc.out).mono ?_); rw [HM40.out]; rintro e wd ⟨vd, rfl, hr, hb⟩; obtain ⟨Ad, nd, rfl⟩ := Kd.R_slice hr; have HId := Aside0.mk (HIc.out.below hb); have HBd := Aside0.mk (HBc.out.trans (hb.mono HBc.out.size)); have HRd := Aside0.mk (Kd.R_below HRc.out hb); clear hr hb HIc HBc HRc)
          | (go_at_call 16; (with_reducible refine (room_raw HId.out).mono ?_); rintro e we ⟨rfl, rfl⟩; rw [HP3.out]))
        go_loopw [13] (fun v13 wj => ∃ j : Nat, j ≤ al.length ∧ v13 = .int .i64 j ∧ Aside0 (Below wd.heap.size wd wj)) (fun v13 _ => al.length - (intOf v13).toNat)
        case atStart => exact ⟨0, Nat.zero_le _, rfl, ⟨Below.refl _ _⟩⟩
        case round =>
          obtain ⟨j, hj, rfl, HBJ⟩ := hrel
          by_cases hjl : j < al.length
          · obtain ⟨b, n', he, _, hbl, csn, hcsn⟩ := Kd.R_form HRd.out (by omega)
            injection he with e1 e2 e3
            subst e1; subst e3
            obtain ⟨hc0, _⟩ := Kd.R_cell (0 : Int) HRd.out (j : Int) (by omega) (by omega)
            rw [Int.toNat_natCast] at hc0
            obtain ⟨y, hy⟩ : ∃ y, y = rdOf (0 : Int) al (j : Int) := ⟨_, rfl⟩
            rw [← hy] at hc0
            have hym : y ∈ al := by rw [hy]; simp [rdOf, List.getD, hjl]
            have hcj := (HBJ.out.cell (p := ⟨b, j, none⟩) hbl).trans hc0
            have HYI : Aside0 (I64 y) := ⟨HWK.out y hym⟩
            have h46 := HTH.out 46 y hym
            have h40 := HTH.out 40 y hym
            have hid := HID2.out y
            rw [HM46.out] at h46
            rw [HM40.out] at h40
            have hcs := HKEY.out y hym
            have h0j : (0 : Int) ≤ (j : Int) := by omega
            have hjl2 : (j : Int) < (al.length : Int) := by omega
            have HIS := Aside0.mk (fun W (h : IsP w W g s') => isThere_raw y HYI.out h)
            have HMK : Aside0 (∀ W, IsP w W g s' → Calls Try.prog 34 #[.pointer (some ⟨g, 0, none⟩)] W fun e w' => ∃ v : Value, e = .returned v ∧ kI.R 3 w' W.heap.size (fun _ => True) v mk ∧ Below W.heap.size W w') := ⟨fun W h => by have := making_raw HV.out h; rwa [HM46.out] at this⟩
            have HBZ : Aside0 (∀ W, IsP w W g s' → Calls Try.prog 15 #[.pointer (some ⟨g, 0, none⟩)] W fun e w' => ∃ v : Value, e = .returned v ∧ kI.R 3 w' W.heap.size (fun _ => True) v bz ∧ Below W.heap.size W w') := ⟨fun W h => by have := busy_raw HV.out h; rwa [HM40.out] at this⟩
            have HIL := Aside0.mk (fun W (h : IsP w W g s') => idle_raw HV.out h)
            generalize code s'.what y = cy at h46 h40 hid hcs HIS
            generalize s'.stack = st at hid HIL hl8
            clear hy hym hs1 hs3 hs4 hgt hgt2
            rcases hcs with rfl | rfl | rfl
            · have h1 : decide (y ∈ mk) = true := by rw [h46]; rfl
              have h2 : decide (y ∈ st) = false := by rw [hid]; rfl
              have h3 : decide (y ∈ bz) = false := by rw [h40]; rfl
              have K1 := Aside0.mk h1
              have K2 := Aside0.mk h2
              have K3 := Aside0.mk h3
              clear h1 h2 h3 h46 h40 hid
              go_wp2_with fail
              refine start_ (n := 7) (S := fun w' => w'.cell? ⟨b, j, none⟩ = some (.int .i64 y) ∧ True) (ds := []) #[false, false, false, false, false, false, false] (by kernel_rfl) rfl rfl ⟨hcj, trivial⟩ (fun hHeld => ?_); refine with_tab one.tab34 (fun HT_ => ?_)
              refine pure_ (i := 0) (N := some 128) (v := ?_) (a' := ?_) #[true, false, false, false, false, false, false] rfl rfl (any_of HT_.out (by kernel_rfl)) (fun _ _ _ h => h) (Or.inl ⟨by rfl, ?_⟩) ?_ ?_
              rotate_left
              · intro w'
                go_simp
                with_reducible rfl
              rotate_left
              · simp only [Act.put, List.setIfInBounds_toArray, List.set_cons_zero, List.set_cons_succ, i64_w, i32_w]
                rfl
              refine pure_ (i := 2) (N := some 130) (v := ?_) (a' := ?_) #[true, false, true, false, false, false, false] rfl rfl (any_of HT_.out (by kernel_rfl)) (fun _ _ _ h => h) (Or.inl ⟨by rfl, ?_⟩) ?_ ?_
              rotate_left
              · intro w'
                go_simp
                with_reducible rfl
              rotate_left
              · simp only [Act.put, List.setIfInBounds_toArray, List.set_cons_zero, List.set_cons_succ, i64_w, i32_w]
                rfl
              refine pure_ (i := 3) (N := some 131) (v := ?_) (a' := ?_) #[true, false, true, true, false, false, false] rfl rfl (any_of HT_.out (by kernel_rfl)) (fun _ _ _ h => h) (Or.inl ⟨by rfl, ?_⟩) ?_ ?_
              rotate_left
              · intro w'
                go_simp
                with_reducible rfl
              rotate_left
              · simp only [Act.put, List.setIfInBounds_toArray, List.set_cons_zero, List.set_cons_succ, i64_w, i32_w]
                rfl
              refine pure_ (i := 4) (N := some 132) (v := ?_) (a' := ?_) #[true, false, true, true, true, false, false] rfl rfl (any_of HT_.out (by kernel_rfl)) (fun _ _ _ h => h) (Or.inl ⟨by rfl, ?_⟩) ?_ ?_
              rotate_left
              · intro w'
                go_simp
                with_reducible rfl
              rotate_left
              · simp only [Act.put, List.setIfInBounds_toArray, List.set_cons_zero, List.set_cons_succ, i64_w, i32_w]
                rfl
              refine take_ (i := 5) (N := some 133) (v := ?_) (a' := ?_) #[true, false, true, true, true, true, false] rfl rfl (take_of HT_.out (by kernel_rfl)) (fun _ _ _ h => h) (Or.inl ⟨by rfl, ?_⟩) hHeld ?_ ?_
              rotate_left
              · intro w' hS_
                obtain ⟨s0, s1⟩ := hS_
                go_simp
                with_reducible rfl
              rotate_left
              · simp only [Act.put, List.setIfInBounds_toArray, List.set_cons_zero, List.set_cons_succ, i64_w, i32_w]
                rfl
              refine one_ (i := 1) (N := some 129) #[true, true, true, true, true, true, false] rfl rfl (one_of HT_.out (by kernel_rfl)) (by decide) (fun K hK => ?_)
              refine goes_ Try.func34 (by kernel_rfl) rfl #[.pointer (some ⟨g, 0, none⟩)] (by rfl) rfl rfl (by (try simp only [List.map_toArray, List.map_cons, List.map_nil]); first | done | rfl) ?_
              refine (HMK.out _ (HId.out.below (below_drew1 HBJ.out))).mono ?_
              rintro e wp1 ⟨vp, rfl, hr, hb⟩
              obtain ⟨Ap, np, rfl⟩ := Kd.R_slice hr
              have HRp := Aside0.mk (Kd.R_reads' hr)
              have HBp1 := Aside0.mk (below_step (below_drew1 HBJ.out) hb)
              have hcp1 : wp1.cell? ⟨b, j, none⟩ = some (.int .i64 y) := (HBp1.out.cell (p := ⟨b, j, none⟩) hbl).trans hc0
              clear hr hb
              refine ⟨_, rfl, ?_⟩
              refine hK.out _ _ ⟨hcp1, trivial⟩ (fun hHeld => ?_)
              clear hK K
              refine norm_ (a' := ?_) ?_ ?_
              rotate_left
              · show Act.put _ (some 129) _ = _
                simp only [Act.put, List.setIfInBounds_toArray, List.set_cons_zero, List.set_cons_succ, i64_w, i32_w]
                rfl
              refine one_ (i := 6) (N := some 134) #[true, true, true, true, true, true, true] rfl rfl (one_of HT_.out (by kernel_rfl)) (by decide) (fun K hK => ?_)
              refine goes_ Try.func13 (by kernel_rfl) rfl #[.slice Ap mk.length np, .int .i64 y] (by rfl) rfl rfl (by (try simp only [List.map_toArray, List.map_cons, List.map_nil]); first | done | rfl) ?_
              refine (has16 y mk Ap np wp1 HRp.out.2.2 HRp.out.2.1 (by omega)).mono ?_
              rintro e wp2 ⟨rfl, hb⟩
              rw [K1.out]
              have HBp2 := Aside0.mk (below_step HBp1.out hb)
              have hcp2 : wp2.cell? ⟨b, j, none⟩ = some (.int .i64 y) := (HBp2.out.cell (p := ⟨b, j, none⟩) hbl).trans hc0
              clear hb
              refine ⟨_, rfl, ?_⟩
              refine hK.out _ _ ⟨hcp2, trivial⟩ (fun hHeld => ?_)
              clear hK K
              refine norm_ (a' := ?_) ?_ ?_
              rotate_left
              · show Act.put _ (some 134) _ = _
                simp only [Act.put, List.setIfInBounds_toArray, List.set_cons_zero, List.set_cons_succ, i64_w, i32_w]
                rfl
              refine done_ (done_of HT_.out (by kernel_rfl)) ?_
              clear hHeld
              go_wp2_with fail
              refine start_ (n := 7) (S := fun w' => w'.cell? ⟨b, j, none⟩ = some (.int .i64 y) ∧ True) (ds := []) #[false, false, false, false, false, false, false] (by kernel_rfl) rfl rfl ⟨hcp2, trivial⟩ (fun hHeld => ?_); refine with_tab one.tab36 (fun HT_ => ?_)
              refine pure_ (i := 0) (N := some 137) (v := ?_) (a' := ?_) #[true, false, false, false, false, false, false] rfl rfl (any_of HT_.out (by kernel_rfl)) (fun _ _ _ h => h) (Or.inl ⟨by rfl, ?_⟩) ?_ ?_
              rotate_left
              · intro w'
                go_simp
                with_reducible rfl
              rotate_left
              · simp only [Act.put, List.setIfInBounds_toArray, List.set_cons_zero, List.set_cons_succ, i64_w, i32_w]
                rfl
              refine pure_ (i := 2) (N := some 139) (v := ?_) (a' := ?_) #[true, false, true, false, false, false, false] rfl rfl (any_of HT_.out (by kernel_rfl)) (fun _ _ _ h => h) (Or.inl ⟨by rfl, ?_⟩) ?_ ?_
              rotate_left
              · intro w'
                go_simp
                with_reducible rfl
              rotate_left
              · simp only [Act.put, List.setIfInBounds_toArray, List.set_cons_zero, List.set_cons_succ, i64_w, i32_w]
                rfl
              refine pure_ (i := 3) (N := some 140) (v := ?_) (a' := ?_) #[true, false, true, true, false, false, false] rfl rfl (any_of HT_.out (by kernel_rfl)) (fun _ _ _ h => h) (Or.inl ⟨by rfl, ?_⟩) ?_ ?_
              rotate_left
              · intro w'
                go_simp
                with_reducible rfl
              rotate_left
              · simp only [Act.put, List.setIfInBounds_toArray, List.set_cons_zero, List.set_cons_succ, i64_w, i32_w]
                rfl
              refine pure_ (i := 4) (N := some 141) (v := ?_) (a' := ?_) #[true, false, true, true, true, false, false] rfl rfl (any_of HT_.out (by kernel_rfl)) (fun _ _ _ h => h) (Or.inl ⟨by rfl, ?_⟩) ?_ ?_
              rotate_left
              · intro w'
                go_simp
                with_reducible rfl
              rotate_left
              · simp only [Act.put, List.setIfInBounds_toArray, List.set_cons_zero, List.set_cons_succ, i64_w, i32_w]
                rfl
              refine take_ (i := 5) (N := some 142) (v := ?_) (a' := ?_) #[true, false, true, true, true, true, false] rfl rfl (take_of HT_.out (by kernel_rfl)) (fun _ _ _ h => h) (Or.inl ⟨by rfl, ?_⟩) hHeld ?_ ?_
              rotate_left
              · intro w' hS_
                obtain ⟨s0, s1⟩ := hS_
                go_simp
                with_reducible rfl
              rotate_left
              · simp only [Act.put, List.setIfInBounds_toArray, List.set_cons_zero, List.set_cons_succ, i64_w, i32_w]
                rfl
              refine one_ (i := 1) (N := some 138) #[true, true, true, true, true, true, false] rfl rfl (one_of HT_.out (by kernel_rfl)) (by decide) (fun K hK => ?_)
              refine goes_ Try.func19 (by kernel_rfl) rfl #[.pointer (some ⟨g, 0, none⟩)] (by rfl) rfl rfl (by (try simp only [List.map_toArray, List.map_cons, List.map_nil]); first | done | rfl) ?_
              refine (HIL.out _ (HId.out.below (below_drew1 HBp2.out))).mono ?_
              rintro e wq1 ⟨vq, rfl, hr, hb⟩
              obtain ⟨Aq, nq, rfl⟩ := Kd.R_slice hr
              have HRq := Aside0.mk (Kd.R_reads' hr)
              have HBq1 := Aside0.mk (below_step (below_drew1 HBp2.out) hb)
              have hcq1 : wq1.cell? ⟨b, j, none⟩ = some (.int .i64 y) := (HBq1.out.cell (p := ⟨b, j, none⟩) hbl).trans hc0
              clear hr hb
              refine ⟨_, rfl, ?_⟩
              refine hK.out _ _ ⟨hcq1, trivial⟩ (fun hHeld => ?_)
              clear hK K
              refine norm_ (a' := ?_) ?_ ?_
              rotate_left
              · show Act.put _ (some 138) _ = _
                simp only [Act.put, List.setIfInBounds_toArray, List.set_cons_zero, List.set_cons_succ, i64_w, i32_w]
                rfl
              refine one_ (i := 6) (N := some 143) #[true, true, true, true, true, true, true] rfl rfl (one_of HT_.out (by kernel_rfl)) (by decide) (fun K hK => ?_)
              refine goes_ Try.func13 (by kernel_rfl) rfl #[.slice Aq st.length nq, .int .i64 y] (by rfl) rfl rfl (by (try simp only [List.map_toArray, List.map_cons, List.map_nil]); first | done | rfl) ?_
              refine (has16 y st Aq nq wq1 HRq.out.2.2 HRq.out.2.1 (by omega)).mono ?_
              rintro e wq2 ⟨rfl, hb⟩
              rw [K2.out]
              have HBq2 := Aside0.mk (below_step HBq1.out hb)
              have hcq2 : wq2.cell? ⟨b, j, none⟩ = some (.int .i64 y) := (HBq2.out.cell (p := ⟨b, j, none⟩) hbl).trans hc0
              clear hb
              refine ⟨_, rfl, ?_⟩
              refine hK.out _ _ ⟨hcq2, trivial⟩ (fun hHeld => ?_)
              clear hK K
              refine norm_ (a' := ?_) ?_ ?_
              rotate_left
              · show Act.put _ (some 143) _ = _
                simp only [Act.put, List.setIfInBounds_toArray, List.set_cons_zero, List.set_cons_succ, i64_w, i32_w]
                rfl
              refine done_ (done_of HT_.out (by kernel_rfl)) ?_
              clear hHeld
              go_wp2_with fail
              refine start_ (n := 7) (S := fun w' => w'.cell? ⟨b, j, none⟩ = some (.int .i64 y) ∧ True) (ds := []) #[false, false, false, false, false, false, false] (by kernel_rfl) rfl rfl ⟨hcq2, trivial⟩ (fun hHeld => ?_); refine with_tab one.tab38 (fun HT_ => ?_)
              refine pure_ (i := 0) (N := some 146) (v := ?_) (a' := ?_) #[true, false, false, false, false, false, false] rfl rfl (any_of HT_.out (by kernel_rfl)) (fun _ _ _ h => h) (Or.inl ⟨by rfl, ?_⟩) ?_ ?_
              rotate_left
              · intro w'
                go_simp
                with_reducible rfl
              rotate_left
              · simp only [Act.put, List.setIfInBounds_toArray, List.set_cons_zero, List.set_cons_succ, i64_w, i32_w]
                rfl
              refine pure_ (i := 2) (N := some 148) (v := ?_) (a' := ?_) #[true, false, true, false, false, false, false] rfl rfl (any_of HT_.out (by kernel_rfl)) (fun _ _ _ h => h) (Or.inl ⟨by rfl, ?_⟩) ?_ ?_
              rotate_left
              · intro w'
                go_simp
                with_reducible rfl
              rotate_left
              · simp only [Act.put, List.setIfInBounds_toArray, List.set_cons_zero, List.set_cons_succ, i64_w, i32_w]
                rfl
              refine pure_ (i := 3) (N := some 149) (v := ?_) (a' := ?_) #[true, false, true, true, false, false, false] rfl rfl (any_of HT_.out (by kernel_rfl)) (fun _ _ _ h => h) (Or.inl ⟨by rfl, ?_⟩) ?_ ?_
              rotate_left
              · intro w'
                go_simp
                with_reducible rfl
              rotate_left
              · simp only [Act.put, List.setIfInBounds_toArray, List.set_cons_zero, List.set_cons_succ, i64_w, i32_w]
                rfl
              refine pure_ (i := 4) (N := some 150) (v := ?_) (a' := ?_) #[true, false, true, true, true, false, false] rfl rfl (any_of HT_.out (by kernel_rfl)) (fun _ _ _ h => h) (Or.inl ⟨by rfl, ?_⟩) ?_ ?_
              rotate_left
              · intro w'
                go_simp
                with_reducible rfl
              rotate_left
              · simp only [Act.put, List.setIfInBounds_toArray, List.set_cons_zero, List.set_cons_succ, i64_w, i32_w]
                rfl
              refine take_ (i := 5) (N := some 151) (v := ?_) (a' := ?_) #[true, false, true, true, true, true, false] rfl rfl (take_of HT_.out (by kernel_rfl)) (fun _ _ _ h => h) (Or.inl ⟨by rfl, ?_⟩) hHeld ?_ ?_
              rotate_left
              · intro w' hS_
                obtain ⟨s0, s1⟩ := hS_
                go_simp
                with_reducible rfl
              rotate_left
              · simp only [Act.put, List.setIfInBounds_toArray, List.set_cons_zero, List.set_cons_succ, i64_w, i32_w]
                rfl
              refine one_ (i := 1) (N := some 147) #[true, true, true, true, true, true, false] rfl rfl (one_of HT_.out (by kernel_rfl)) (by decide) (fun K hK => ?_)
              refine goes_ Try.func15 (by kernel_rfl) rfl #[.pointer (some ⟨g, 0, none⟩)] (by rfl) rfl rfl (by (try simp only [List.map_toArray, List.map_cons, List.map_nil]); first | done | rfl) ?_
              refine (HBZ.out _ (HId.out.below (below_drew1 HBq2.out))).mono ?_
              rintro e wr1 ⟨vr, rfl, hr, hb⟩
              obtain ⟨Ar, nr, rfl⟩ := Kd.R_slice hr
              have HRr := Aside0.mk (Kd.R_reads' hr)
              have HBr1 := Aside0.mk (below_step (below_drew1 HBq2.out) hb)
              have hcr1 : wr1.cell? ⟨b, j, none⟩ = some (.int .i64 y) := (HBr1.out.cell (p := ⟨b, j, none⟩) hbl).trans hc0
              clear hr hb
              refine ⟨_, rfl, ?_⟩
              refine hK.out _ _ ⟨hcr1, trivial⟩ (fun hHeld => ?_)
              clear hK K
              refine norm_ (a' := ?_) ?_ ?_
              rotate_left
              · show Act.put _ (some 147) _ = _
                simp only [Act.put, List.setIfInBounds_toArray, List.set_cons_zero, List.set_cons_succ, i64_w, i32_w]
                rfl
              refine one_ (i := 6) (N := some 152) #[true, true, true, true, true, true, true] rfl rfl (one_of HT_.out (by kernel_rfl)) (by decide) (fun K hK => ?_)
              refine goes_ Try.func13 (by kernel_rfl) rfl #[.slice Ar bz.length nr, .int .i64 y] (by rfl) rfl rfl (by (try simp only [List.map_toArray, List.map_cons, List.map_nil]); first | done | rfl) ?_
              refine (has16 y bz Ar nr wr1 HRr.out.2.2 HRr.out.2.1 (by omega)).mono ?_
              rintro e wr2 ⟨rfl, hb⟩
              rw [K3.out]
              have HBr2 := Aside0.mk (below_step HBr1.out hb)
              have hcr2 : wr2.cell? ⟨b, j, none⟩ = some (.int .i64 y) := (HBr2.out.cell (p := ⟨b, j, none⟩) hbl).trans hc0
              clear hb
              refine ⟨_, rfl, ?_⟩
              refine hK.out _ _ ⟨hcr2, trivial⟩ (fun hHeld => ?_)
              clear hK K
              refine norm_ (a' := ?_) ?_ ?_
              rotate_left
              · show Act.put _ (some 152) _ = _
                simp only [Act.put, List.setIfInBounds_toArray, List.set_cons_zero, List.set_cons_succ, i64_w, i32_w]
                rfl
              refine done_ (done_of HT_.out (by kernel_rfl)) ?_
              clear hHeld
              go_wp2_with (go_at_call 32; refine (HIS.out _ (HId.out.below HBr2.out)).mono ?_; rintro e wz ⟨rfl, rfl⟩)
              go_roundw
              case measure => simp [intOf, Go.RowKit.intOf]; omega
              case rel => exact ⟨j + 1, by omega, by rw [show ((j : Int) + 1) = ((j + 1 : Nat) : Int) by omega], HBr2⟩
            · have h1 : decide (y ∈ mk) = false := by rw [h46]; rfl
              have h2 : decide (y ∈ st) = true := by rw [hid]; rfl
              have h3 : decide (y ∈ bz) = false := by rw [h40]; rfl
              have K1 := Aside0.mk h1
              have K2 := Aside0.mk h2
              have K3 := Aside0.mk h3
              clear h1 h2 h3 h46 h40 hid
              go_wp2_with fail
              refine start_ (n := 7) (S := fun w' => w'.cell? ⟨b, j, none⟩ = some (.int .i64 y) ∧ True) (ds := []) #[false, false, false, false, false, false, false] (by kernel_rfl) rfl rfl ⟨hcj, trivial⟩ (fun hHeld => ?_); refine with_tab one.tab34 (fun HT_ => ?_)
              refine pure_ (i := 0) (N := some 128) (v := ?_) (a' := ?_) #[true, false, false, false, false, false, false] rfl rfl (any_of HT_.out (by kernel_rfl)) (fun _ _ _ h => h) (Or.inl ⟨by rfl, ?_⟩) ?_ ?_
              rotate_left
              · intro w'
                go_simp
                with_reducible rfl
              rotate_left
              · simp only [Act.put, List.setIfInBounds_toArray, List.set_cons_zero, List.set_cons_succ, i64_w, i32_w]
                rfl
              refine pure_ (i := 2) (N := some 130) (v := ?_) (a' := ?_) #[true, false, true, false, false, false, false] rfl rfl (any_of HT_.out (by kernel_rfl)) (fun _ _ _ h => h) (Or.inl ⟨by rfl, ?_⟩) ?_ ?_
              rotate_left
              · intro w'
                go_simp
                with_reducible rfl
              rotate_left
              · simp only [Act.put, List.setIfInBounds_toArray, List.set_cons_zero, List.set_cons_succ, i64_w, i32_w]
                rfl
              refine pure_ (i := 3) (N := some 131) (v := ?_) (a' := ?_) #[true, false, true, true, false, false, false] rfl rfl (any_of HT_.out (by kernel_rfl)) (fun _ _ _ h => h) (Or.inl ⟨by rfl, ?_⟩) ?_ ?_
              rotate_left
              · intro w'
                go_simp
                with_reducible rfl
              rotate_left
              · simp only [Act.put, List.setIfInBounds_toArray, List.set_cons_zero, List.set_cons_succ, i64_w, i32_w]
                rfl
              refine pure_ (i := 4) (N := some 132) (v := ?_) (a' := ?_) #[true, false, true, true, true, false, false] rfl rfl (any_of HT_.out (by kernel_rfl)) (fun _ _ _ h => h) (Or.inl ⟨by rfl, ?_⟩) ?_ ?_
              rotate_left
              · intro w'
                go_simp
                with_reducible rfl
              rotate_left
              · simp only [Act.put, List.setIfInBounds_toArray, List.set_cons_zero, List.set_cons_succ, i64_w, i32_w]
                rfl
              refine take_ (i := 5) (N := some 133) (v := ?_) (a' := ?_) #[true, false, true, true, true, true, false] rfl rfl (take_of HT_.out (by kernel_rfl)) (fun _ _ _ h => h) (Or.inl ⟨by rfl, ?_⟩) hHeld ?_ ?_
              rotate_left
              · intro w' hS_
                obtain ⟨s0, s1⟩ := hS_
                go_simp
                with_reducible rfl
              rotate_left
              · simp only [Act.put, List.setIfInBounds_toArray, List.set_cons_zero, List.set_cons_succ, i64_w, i32_w]
                rfl
              refine one_ (i := 1) (N := some 129) #[true, true, true, true, true, true, false] rfl rfl (one_of HT_.out (by kernel_rfl)) (by decide) (fun K hK => ?_)
              refine goes_ Try.func34 (by kernel_rfl) rfl #[.pointer (some ⟨g, 0, none⟩)] (by rfl) rfl rfl (by (try simp only [List.map_toArray, List.map_cons, List.map_nil]); first | done | rfl) ?_
              refine (HMK.out _ (HId.out.below (below_drew1 HBJ.out))).mono ?_
              rintro e wp1 ⟨vp, rfl, hr, hb⟩
              obtain ⟨Ap, np, rfl⟩ := Kd.R_slice hr
              have HRp := Aside0.mk (Kd.R_reads' hr)
              have HBp1 := Aside0.mk (below_step (below_drew1 HBJ.out) hb)
              have hcp1 : wp1.cell? ⟨b, j, none⟩ = some (.int .i64 y) := (HBp1.out.cell (p := ⟨b, j, none⟩) hbl).trans hc0
              clear hr hb
              refine ⟨_, rfl, ?_⟩
              refine hK.out _ _ ⟨hcp1, trivial⟩ (fun hHeld => ?_)
              clear hK K
              refine norm_ (a' := ?_) ?_ ?_
              rotate_left
              · show Act.put _ (some 129) _ = _
                simp only [Act.put, List.setIfInBounds_toArray, List.set_cons_zero, List.set_cons_succ, i64_w, i32_w]
                rfl
              refine one_ (i := 6) (N := some 134) #[true, true, true, true, true, true, true] rfl rfl (one_of HT_.out (by kernel_rfl)) (by decide) (fun K hK => ?_)
              refine goes_ Try.func13 (by kernel_rfl) rfl #[.slice Ap mk.length np, .int .i64 y] (by rfl) rfl rfl (by (try simp only [List.map_toArray, List.map_cons, List.map_nil]); first | done | rfl) ?_
              refine (has16 y mk Ap np wp1 HRp.out.2.2 HRp.out.2.1 (by omega)).mono ?_
              rintro e wp2 ⟨rfl, hb⟩
              rw [K1.out]
              have HBp2 := Aside0.mk (below_step HBp1.out hb)
              have hcp2 : wp2.cell? ⟨b, j, none⟩ = some (.int .i64 y) := (HBp2.out.cell (p := ⟨b, j, none⟩) hbl).trans hc0
              clear hb
              refine ⟨_, rfl, ?_⟩
              refine hK.out _ _ ⟨hcp2, trivial⟩ (fun hHeld => ?_)
              clear hK K
              refine norm_ (a' := ?_) ?_ ?_
              rotate_left
              · show Act.put _ (some 134) _ = _
                simp only [Act.put, List.setIfInBounds_toArray, List.set_cons_zero, List.set_cons_succ, i64_w, i32_w]
                rfl
              refine done_ (done_of HT_.out (by kernel_rfl)) ?_
              clear hHeld
              go_wp2_with fail
              refine start_ (n := 7) (S := fun w' => w'.cell? ⟨b, j, none⟩ = some (.int .i64 y) ∧ True) (ds := []) #[false, false, false, false, false, false, false] (by kernel_rfl) rfl rfl ⟨hcp2, trivial⟩ (fun hHeld => ?_); refine with_tab one.tab36 (fun HT_ => ?_)
              refine pure_ (i := 0) (N := some 137) (v := ?_) (a' := ?_) #[true, false, false, false, false, false, false] rfl rfl (any_of HT_.out (by kernel_rfl)) (fun _ _ _ h => h) (Or.inl ⟨by rfl, ?_⟩) ?_ ?_
              rotate_left
              · intro w'
                go_simp
                with_reducible rfl
              rotate_left
              · simp only [Act.put, List.setIfInBounds_toArray, List.set_cons_zero, List.set_cons_succ, i64_w, i32_w]
                rfl
              refine pure_ (i := 2) (N := some 139) (v := ?_) (a' := ?_) #[true, false, true, false, false, false, false] rfl rfl (any_of HT_.out (by kernel_rfl)) (fun _ _ _ h => h) (Or.inl ⟨by rfl, ?_⟩) ?_ ?_
              rotate_left
              · intro w'
                go_simp
                with_reducible rfl
              rotate_left
              · simp only [Act.put, List.setIfInBounds_toArray, List.set_cons_zero, List.set_cons_succ, i64_w, i32_w]
                rfl
              refine pure_ (i := 3) (N := some 140) (v := ?_) (a' := ?_) #[true, false, true, true, false, false, false] rfl rfl (any_of HT_.out (by kernel_rfl)) (fun _ _ _ h => h) (Or.inl ⟨by rfl, ?_⟩) ?_ ?_
              rotate_left
              · intro w'
                go_simp
                with_reducible rfl
              rotate_left
              · simp only [Act.put, List.setIfInBounds_toArray, List.set_cons_zero, List.set_cons_succ, i64_w, i32_w]
                rfl
              refine pure_ (i := 4) (N := some 141) (v := ?_) (a' := ?_) #[true, false, true, true, true, false, false] rfl rfl (any_of HT_.out (by kernel_rfl)) (fun _ _ _ h => h) (Or.inl ⟨by rfl, ?_⟩) ?_ ?_
              rotate_left
              · intro w'
                go_simp
                with_reducible rfl
              rotate_left
              · simp only [Act.put, List.setIfInBounds_toArray, List.set_cons_zero, List.set_cons_succ, i64_w, i32_w]
                rfl
              refine take_ (i := 5) (N := some 142) (v := ?_) (a' := ?_) #[true, false, true, true, true, true, false] rfl rfl (take_of HT_.out (by kernel_rfl)) (fun _ _ _ h => h) (Or.inl ⟨by rfl, ?_⟩) hHeld ?_ ?_
              rotate_left
              · intro w' hS_
                obtain ⟨s0, s1⟩ := hS_
                go_simp
                with_reducible rfl
              rotate_left
              · simp only [Act.put, List.setIfInBounds_toArray, List.set_cons_zero, List.set_cons_succ, i64_w, i32_w]
                rfl
              refine one_ (i := 1) (N := some 138) #[true, true, true, true, true, true, false] rfl rfl (one_of HT_.out (by kernel_rfl)) (by decide) (fun K hK => ?_)
              refine goes_ Try.func19 (by kernel_rfl) rfl #[.pointer (some ⟨g, 0, none⟩)] (by rfl) rfl rfl (by (try simp only [List.map_toArray, List.map_cons, List.map_nil]); first | done | rfl) ?_
              refine (HIL.out _ (HId.out.below (below_drew1 HBp2.out))).mono ?_
              rintro e wq1 ⟨vq, rfl, hr, hb⟩
              obtain ⟨Aq, nq, rfl⟩ := Kd.R_slice hr
              have HRq := Aside0.mk (Kd.R_reads' hr)
              have HBq1 := Aside0.mk (below_step (below_drew1 HBp2.out) hb)
              have hcq1 : wq1.cell? ⟨b, j, none⟩ = some (.int .i64 y) := (HBq1.out.cell (p := ⟨b, j, none⟩) hbl).trans hc0
              clear hr hb
              refine ⟨_, rfl, ?_⟩
              refine hK.out _ _ ⟨hcq1, trivial⟩ (fun hHeld => ?_)
              clear hK K
              refine norm_ (a' := ?_) ?_ ?_
              rotate_left
              · show Act.put _ (some 138) _ = _
                simp only [Act.put, List.setIfInBounds_toArray, List.set_cons_zero, List.set_cons_succ, i64_w, i32_w]
                rfl
              refine one_ (i := 6) (N := some 143) #[true, true, true, true, true, true, true] rfl rfl (one_of HT_.out (by kernel_rfl)) (by decide) (fun K hK => ?_)
              refine goes_ Try.func13 (by kernel_rfl) rfl #[.slice Aq st.length nq, .int .i64 y] (by rfl) rfl rfl (by (try simp only [List.map_toArray, List.map_cons, List.map_nil]); first | done | rfl) ?_
              refine (has16 y st Aq nq wq1 HRq.out.2.2 HRq.out.2.1 (by omega)).mono ?_
              rintro e wq2 ⟨rfl, hb⟩
              rw [K2.out]
              have HBq2 := Aside0.mk (below_step HBq1.out hb)
              have hcq2 : wq2.cell? ⟨b, j, none⟩ = some (.int .i64 y) := (HBq2.out.cell (p := ⟨b, j, none⟩) hbl).trans hc0
              clear hb
              refine ⟨_, rfl, ?_⟩
              refine hK.out _ _ ⟨hcq2, trivial⟩ (fun hHeld => ?_)
              clear hK K
              refine norm_ (a' := ?_) ?_ ?_
              rotate_left
              · show Act.put _ (some 143) _ = _
                simp only [Act.put, List.setIfInBounds_toArray, List.set_cons_zero, List.set_cons_succ, i64_w, i32_w]
                rfl
              refine done_ (done_of HT_.out (by kernel_rfl)) ?_
              clear hHeld
              go_wp2_with fail
              refine start_ (n := 7) (S := fun w' => w'.cell? ⟨b, j, none⟩ = some (.int .i64 y) ∧ True) (ds := []) #[false, false, false, false, false, false, false] (by kernel_rfl) rfl rfl ⟨hcq2, trivial⟩ (fun hHeld => ?_); refine with_tab one.tab38 (fun HT_ => ?_)
              refine pure_ (i := 0) (N := some 146) (v := ?_) (a' := ?_) #[true, false, false, false, false, false, false] rfl rfl (any_of HT_.out (by kernel_rfl)) (fun _ _ _ h => h) (Or.inl ⟨by rfl, ?_⟩) ?_ ?_
              rotate_left
              · intro w'
                go_simp
                with_reducible rfl
              rotate_left
              · simp only [Act.put, List.setIfInBounds_toArray, List.set_cons_zero, List.set_cons_succ, i64_w, i32_w]
                rfl
              refine pure_ (i := 2) (N := some 148) (v := ?_) (a' := ?_) #[true, false, true, false, false, false, false] rfl rfl (any_of HT_.out (by kernel_rfl)) (fun _ _ _ h => h) (Or.inl ⟨by rfl, ?_⟩) ?_ ?_
              rotate_left
              · intro w'
                go_simp
                with_reducible rfl
              rotate_left
              · simp only [Act.put, List.setIfInBounds_toArray, List.set_cons_zero, List.set_cons_succ, i64_w, i32_w]
                rfl
              refine pure_ (i := 3) (N := some 149) (v := ?_) (a' := ?_) #[true, false, true, true, false, false, false] rfl rfl (any_of HT_.out (by kernel_rfl)) (fun _ _ _ h => h) (Or.inl ⟨by rfl, ?_⟩) ?_ ?_
              rotate_left
              · intro w'
                go_simp
                with_reducible rfl
              rotate_left
              · simp only [Act.put, List.setIfInBounds_toArray, List.set_cons_zero, List.set_cons_succ, i64_w, i32_w]
                rfl
              refine pure_ (i := 4) (N := some 150) (v := ?_) (a' := ?_) #[true, false, true, true, true, false, false] rfl rfl (any_of HT_.out (by kernel_rfl)) (fun _ _ _ h => h) (Or.inl ⟨by rfl, ?_⟩) ?_ ?_
              rotate_left
              · intro w'
                go_simp
                with_reducible rfl
              rotate_left
              · simp only [Act.put, List.setIfInBounds_toArray, List.set_cons_zero, List.set_cons_succ, i64_w, i32_w]
                rfl
              refine take_ (i := 5) (N := some 151) (v := ?_) (a' := ?_) #[true, false, true, true, true, true, false] rfl rfl (take_of HT_.out (by kernel_rfl)) (fun _ _ _ h => h) (Or.inl ⟨by rfl, ?_⟩) hHeld ?_ ?_
              rotate_left
              · intro w' hS_
                obtain ⟨s0, s1⟩ := hS_
                go_simp
                with_reducible rfl
              rotate_left
              · simp only [Act.put, List.setIfInBounds_toArray, List.set_cons_zero, List.set_cons_succ, i64_w, i32_w]
                rfl
              refine one_ (i := 1) (N := some 147) #[true, true, true, true, true, true, false] rfl rfl (one_of HT_.out (by kernel_rfl)) (by decide) (fun K hK => ?_)
              refine goes_ Try.func15 (by kernel_rfl) rfl #[.pointer (some ⟨g, 0, none⟩)] (by rfl) rfl rfl (by (try simp only [List.map_toArray, List.map_cons, List.map_nil]); first | done | rfl) ?_
              refine (HBZ.out _ (HId.out.below (below_drew1 HBq2.out))).mono ?_
              rintro e wr1 ⟨vr, rfl, hr, hb⟩
              obtain ⟨Ar, nr, rfl⟩ := Kd.R_slice hr
              have HRr := Aside0.mk (Kd.R_reads' hr)
              have HBr1 := Aside0.mk (below_step (below_drew1 HBq2.out) hb)
              have hcr1 : wr1.cell? ⟨b, j, none⟩ = some (.int .i64 y) := (HBr1.out.cell (p := ⟨b, j, none⟩) hbl).trans hc0
              clear hr hb
              refine ⟨_, rfl, ?_⟩
              refine hK.out _ _ ⟨hcr1, trivial⟩ (fun hHeld => ?_)
              clear hK K
              refine norm_ (a' := ?_) ?_ ?_
              rotate_left
              · show Act.put _ (some 147) _ = _
                simp only [Act.put, List.setIfInBounds_toArray, List.set_cons_zero, List.set_cons_succ, i64_w, i32_w]
                rfl
              refine one_ (i := 6) (N := some 152) #[true, true, true, true, true, true, true] rfl rfl (one_of HT_.out (by kernel_rfl)) (by decide) (fun K hK => ?_)
              refine goes_ Try.func13 (by kernel_rfl) rfl #[.slice Ar bz.length nr, .int .i64 y] (by rfl) rfl rfl (by (try simp only [List.map_toArray, List.map_cons, List.map_nil]); first | done | rfl) ?_
              refine (has16 y bz Ar nr wr1 HRr.out.2.2 HRr.out.2.1 (by omega)).mono ?_
              rintro e wr2 ⟨rfl, hb⟩
              rw [K3.out]
              have HBr2 := Aside0.mk (below_step HBr1.out hb)
              have hcr2 : wr2.cell? ⟨b, j, none⟩ = some (.int .i64 y) := (HBr2.out.cell (p := ⟨b, j, none⟩) hbl).trans hc0
              clear hb
              refine ⟨_, rfl, ?_⟩
              refine hK.out _ _ ⟨hcr2, trivial⟩ (fun hHeld => ?_)
              clear hK K
              refine norm_ (a' := ?_) ?_ ?_
              rotate_left
              · show Act.put _ (some 152) _ = _
                simp only [Act.put, List.setIfInBounds_toArray, List.set_cons_zero, List.set_cons_succ, i64_w, i32_w]
                rfl
              refine done_ (done_of HT_.out (by kernel_rfl)) ?_
              clear hHeld
              go_wp2_with (go_at_call 32; refine (HIS.out _ (HId.out.below HBr2.out)).mono ?_; rintro e wz ⟨rfl, rfl⟩)
              go_roundw
              case measure => simp [intOf, Go.RowKit.intOf]; omega
              case rel => exact ⟨j + 1, by omega, by rw [show ((j : Int) + 1) = ((j + 1 : Nat) : Int) by omega], HBr2⟩
            · have h1 : decide (y ∈ mk) = false := by rw [h46]; rfl
              have h2 : decide (y ∈ st) = false := by rw [hid]; rfl
              have h3 : decide (y ∈ bz) = true := by rw [h40]; rfl
              have K1 := Aside0.mk h1
              have K2 := Aside0.mk h2
              have K3 := Aside0.mk h3
              clear h1 h2 h3 h46 h40 hid
              go_wp2_with fail
              refine start_ (n := 7) (S := fun w' => w'.cell? ⟨b, j, none⟩ = some (.int .i64 y) ∧ True) (ds := []) #[false, false, false, false, false, false, false] (by kernel_rfl) rfl rfl ⟨hcj, trivial⟩ (fun hHeld => ?_); refine with_tab one.tab34 (fun HT_ => ?_)
              refine pure_ (i := 0) (N := some 128) (v := ?_) (a' := ?_) #[true, false, false, false, false, false, false] rfl rfl (any_of HT_.out (by kernel_rfl)) (fun _ _ _ h => h) (Or.inl ⟨by rfl, ?_⟩) ?_ ?_
              rotate_left
              · intro w'
                go_simp
                with_reducible rfl
              rotate_left
              · simp only [Act.put, List.setIfInBounds_toArray, List.set_cons_zero, List.set_cons_succ, i64_w, i32_w]
                rfl
              refine pure_ (i := 2) (N := some 130) (v := ?_) (a' := ?_) #[true, false, true, false, false, false, false] rfl rfl (any_of HT_.out (by kernel_rfl)) (fun _ _ _ h => h) (Or.inl ⟨by rfl, ?_⟩) ?_ ?_
              rotate_left
              · intro w'
                go_simp
                with_reducible rfl
              rotate_left
              · simp only [Act.put, List.setIfInBounds_toArray, List.set_cons_zero, List.set_cons_succ, i64_w, i32_w]
                rfl
              refine pure_ (i := 3) (N := some 131) (v := ?_) (a' := ?_) #[true, false, true, true, false, false, false] rfl rfl (any_of HT_.out (by kernel_rfl)) (fun _ _ _ h => h) (Or.inl ⟨by rfl, ?_⟩) ?_ ?_
              rotate_left
              · intro w'
                go_simp
                with_reducible rfl
              rotate_left
              · simp only [Act.put, List.setIfInBounds_toArray, List.set_cons_zero, List.set_cons_succ, i64_w, i32_w]
                rfl
              refine pure_ (i := 4) (N := some 132) (v := ?_) (a' := ?_) #[true, false, true, true, true, false, false] rfl rfl (any_of HT_.out (by kernel_rfl)) (fun _ _ _ h => h) (Or.inl ⟨by rfl, ?_⟩) ?_ ?_
              rotate_left
              · intro w'
                go_simp
                with_reducible rfl
              rotate_left
              · simp only [Act.put, List.setIfInBounds_toArray, List.set_cons_zero, List.set_cons_succ, i64_w, i32_w]
                rfl
              refine take_ (i := 5) (N := some 133) (v := ?_) (a' := ?_) #[true, false, true, true, true, true, false] rfl rfl (take_of HT_.out (by kernel_rfl)) (fun _ _ _ h => h) (Or.inl ⟨by rfl, ?_⟩) hHeld ?_ ?_
              rotate_left
              · intro w' hS_
                obtain ⟨s0, s1⟩ := hS_
                go_simp
                with_reducible rfl
              rotate_left
              · simp only [Act.put, List.setIfInBounds_toArray, List.set_cons_zero, List.set_cons_succ, i64_w, i32_w]
                rfl
              refine one_ (i := 1) (N := some 129) #[true, true, true, true, true, true, false] rfl rfl (one_of HT_.out (by kernel_rfl)) (by decide) (fun K hK => ?_)
              refine goes_ Try.func34 (by kernel_rfl) rfl #[.pointer (some ⟨g, 0, none⟩)] (by rfl) rfl rfl (by (try simp only [List.map_toArray, List.map_cons, List.map_nil]); first | done | rfl) ?_
              refine (HMK.out _ (HId.out.below (below_drew1 HBJ.out))).mono ?_
              rintro e wp1 ⟨vp, rfl, hr, hb⟩
              obtain ⟨Ap, np, rfl⟩ := Kd.R_slice hr
              have HRp := Aside0.mk (Kd.R_reads' hr)
              have HBp1 := Aside0.mk (below_step (below_drew1 HBJ.out) hb)
              have hcp1 : wp1.cell? ⟨b, j, none⟩ = some (.int .i64 y) := (HBp1.out.cell (p := ⟨b, j, none⟩) hbl).trans hc0
              clear hr hb
              refine ⟨_, rfl, ?_⟩
              refine hK.out _ _ ⟨hcp1, trivial⟩ (fun hHeld => ?_)
              clear hK K
              refine norm_ (a' := ?_) ?_ ?_
              rotate_left
              · show Act.put _ (some 129) _ = _
                simp only [Act.put, List.setIfInBounds_toArray, List.set_cons_zero, List.set_cons_succ, i64_w, i32_w]
                rfl
              refine one_ (i := 6) (N := some 134) #[true, true, true, true, true, true, true] rfl rfl (one_of HT_.out (by kernel_rfl)) (by decide) (fun K hK => ?_)
              refine goes_ Try.func13 (by kernel_rfl) rfl #[.slice Ap mk.length np, .int .i64 y] (by rfl) rfl rfl (by (try simp only [List.map_toArray, List.map_cons, List.map_nil]); first | done | rfl) ?_
              refine (has16 y mk Ap np wp1 HRp.out.2.2 HRp.out.2.1 (by omega)).mono ?_
              rintro e wp2 ⟨rfl, hb⟩
              rw [K1.out]
              have HBp2 := Aside0.mk (below_step HBp1.out hb)
              have hcp2 : wp2.cell? ⟨b, j, none⟩ = some (.int .i64 y) := (HBp2.out.cell (p := ⟨b, j, none⟩) hbl).trans hc0
              clear hb
              refine ⟨_, rfl, ?_⟩
              refine hK.out _ _ ⟨hcp2, trivial⟩ (fun hHeld => ?_)
              clear hK K
              refine norm_ (a' := ?_) ?_ ?_
              rotate_left
              · show Act.put _ (some 134) _ = _
                simp only [Act.put, List.setIfInBounds_toArray, List.set_cons_zero, List.set_cons_succ, i64_w, i32_w]
                rfl
              refine done_ (done_of HT_.out (by kernel_rfl)) ?_
              clear hHeld
              go_wp2_with fail
              refine start_ (n := 7) (S := fun w' => w'.cell? ⟨b, j, none⟩ = some (.int .i64 y) ∧ True) (ds := []) #[false, false, false, false, false, false, false] (by kernel_rfl) rfl rfl ⟨hcp2, trivial⟩ (fun hHeld => ?_); refine with_tab one.tab36 (fun HT_ => ?_)
              refine pure_ (i := 0) (N := some 137) (v := ?_) (a' := ?_) #[true, false, false, false, false, false, false] rfl rfl (any_of HT_.out (by kernel_rfl)) (fun _ _ _ h => h) (Or.inl ⟨by rfl, ?_⟩) ?_ ?_
              rotate_left
              · intro w'
                go_simp
                with_reducible rfl
              rotate_left
              · simp only [Act.put, List.setIfInBounds_toArray, List.set_cons_zero, List.set_cons_succ, i64_w, i32_w]
                rfl
              refine pure_ (i := 2) (N := some 139) (v := ?_) (a' := ?_) #[true, false, true, false, false, false, false] rfl rfl (any_of HT_.out (by kernel_rfl)) (fun _ _ _ h => h) (Or.inl ⟨by rfl, ?_⟩) ?_ ?_
              rotate_left
              · intro w'
                go_simp
                with_reducible rfl
              rotate_left
              · simp only [Act.put, List.setIfInBounds_toArray, List.set_cons_zero, List.set_cons_succ, i64_w, i32_w]
                rfl
              refine pure_ (i := 3) (N := some 140) (v := ?_) (a' := ?_) #[true, false, true, true, false, false, false] rfl rfl (any_of HT_.out (by kernel_rfl)) (fun _ _ _ h => h) (Or.inl ⟨by rfl, ?_⟩) ?_ ?_
              rotate_left
              · intro w'
                go_simp
                with_reducible rfl
              rotate_left
              · simp only [Act.put, List.setIfInBounds_toArray, List.set_cons_zero, List.set_cons_succ, i64_w, i32_w]
                rfl
              refine pure_ (i := 4) (N := some 141) (v := ?_) (a' := ?_) #[true, false, true, true, true, false, false] rfl rfl (any_of HT_.out (by kernel_rfl)) (fun _ _ _ h => h) (Or.inl ⟨by rfl, ?_⟩) ?_ ?_
              rotate_left
              · intro w'
                go_simp
                with_reducible rfl
              rotate_left
              · simp only [Act.put, List.setIfInBounds_toArray, List.set_cons_zero, List.set_cons_succ, i64_w, i32_w]
                rfl
              refine take_ (i := 5) (N := some 142) (v := ?_) (a' := ?_) #[true, false, true, true, true, true, false] rfl rfl (take_of HT_.out (by kernel_rfl)) (fun _ _ _ h => h) (Or.inl ⟨by rfl, ?_⟩) hHeld ?_ ?_
              rotate_left
              · intro w' hS_
                obtain ⟨s0, s1⟩ := hS_
                go_simp
                with_reducible rfl
              rotate_left
              · simp only [Act.put, List.setIfInBounds_toArray, List.set_cons_zero, List.set_cons_succ, i64_w, i32_w]
                rfl
              refine one_ (i := 1) (N := some 138) #[true, true, true, true, true, true, false] rfl rfl (one_of HT_.out (by kernel_rfl)) (by decide) (fun K hK => ?_)
              refine goes_ Try.func19 (by kernel_rfl) rfl #[.pointer (some ⟨g, 0, none⟩)] (by rfl) rfl rfl (by (try simp only [List.map_toArray, List.map_cons, List.map_nil]); first | done | rfl) ?_
              refine (HIL.out _ (HId.out.below (below_drew1 HBp2.out))).mono ?_
              rintro e wq1 ⟨vq, rfl, hr, hb⟩
              obtain ⟨Aq, nq, rfl⟩ := Kd.R_slice hr
              have HRq := Aside0.mk (Kd.R_reads' hr)
              have HBq1 := Aside0.mk (below_step (below_drew1 HBp2.out) hb)
              have hcq1 : wq1.cell? ⟨b, j, none⟩ = some (.int .i64 y) := (HBq1.out.cell (p := ⟨b, j, none⟩) hbl).trans hc0
              clear hr hb
              refine ⟨_, rfl, ?_⟩
              refine hK.out _ _ ⟨hcq1, trivial⟩ (fun hHeld => ?_)
              clear hK K
              refine norm_ (a' := ?_) ?_ ?_
              rotate_left
              · show Act.put _ (some 138) _ = _
                simp only [Act.put, List.setIfInBounds_toArray, List.set_cons_zero, List.set_cons_succ, i64_w, i32_w]
                rfl
              refine one_ (i := 6) (N := some 143) #[true, true, true, true, true, true, true] rfl rfl (one_of HT_.out (by kernel_rfl)) (by decide) (fun K hK => ?_)
              refine goes_ Try.func13 (by kernel_rfl) rfl #[.slice Aq st.length nq, .int .i64 y] (by rfl) rfl rfl (by (try simp only [List.map_toArray, List.map_cons, List.map_nil]); first | done | rfl) ?_
              refine (has16 y st Aq nq wq1 HRq.out.2.2 HRq.out.2.1 (by omega)).mono ?_
              rintro e wq2 ⟨rfl, hb⟩
              rw [K2.out]
              have HBq2 := Aside0.mk (below_step HBq1.out hb)
              have hcq2 : wq2.cell? ⟨b, j, none⟩ = some (.int .i64 y) := (HBq2.out.cell (p := ⟨b, j, none⟩) hbl).trans hc0
              clear hb
              refine ⟨_, rfl, ?_⟩
              refine hK.out _ _ ⟨hcq2, trivial⟩ (fun hHeld => ?_)
              clear hK K
              refine norm_ (a' := ?_) ?_ ?_
              rotate_left
              · show Act.put _ (some 143) _ = _
                simp only [Act.put, List.setIfInBounds_toArray, List.set_cons_zero, List.set_cons_succ, i64_w, i32_w]
                rfl
              refine done_ (done_of HT_.out (by kernel_rfl)) ?_
              clear hHeld
              go_wp2_with fail
              refine start_ (n := 7) (S := fun w' => w'.cell? ⟨b, j, none⟩ = some (.int .i64 y) ∧ True) (ds := []) #[false, false, false, false, false, false, false] (by kernel_rfl) rfl rfl ⟨hcq2, trivial⟩ (fun hHeld => ?_); refine with_tab one.tab38 (fun HT_ => ?_)
              refine pure_ (i := 0) (N := some 146) (v := ?_) (a' := ?_) #[true, false, false, false, false, false, false] rfl rfl (any_of HT_.out (by kernel_rfl)) (fun _ _ _ h => h) (Or.inl ⟨by rfl, ?_⟩) ?_ ?_
              rotate_left
              · intro w'
                go_simp
                with_reducible rfl
              rotate_left
              · simp only [Act.put, List.setIfInBounds_toArray, List.set_cons_zero, List.set_cons_succ, i64_w, i32_w]
                rfl
              refine pure_ (i := 2) (N := some 148) (v := ?_) (a' := ?_) #[true, false, true, false, false, false, false] rfl rfl (any_of HT_.out (by kernel_rfl)) (fun _ _ _ h => h) (Or.inl ⟨by rfl, ?_⟩) ?_ ?_
              rotate_left
              · intro w'
                go_simp
                with_reducible rfl
              rotate_left
              · simp only [Act.put, List.setIfInBounds_toArray, List.set_cons_zero, List.set_cons_succ, i64_w, i32_w]
                rfl
              refine pure_ (i := 3) (N := some 149) (v := ?_) (a' := ?_) #[true, false, true, true, false, false, false] rfl rfl (any_of HT_.out (by kernel_rfl)) (fun _ _ _ h => h) (Or.inl ⟨by rfl, ?_⟩) ?_ ?_
              rotate_left
              · intro w'
                go_simp
                with_reducible rfl
              rotate_left
              · simp only [Act.put, List.setIfInBounds_toArray, List.set_cons_zero, List.set_cons_succ, i64_w, i32_w]
                rfl
              refine pure_ (i := 4) (N := some 150) (v := ?_) (a' := ?_) #[true, false, true, true, true, false, false] rfl rfl (any_of HT_.out (by kernel_rfl)) (fun _ _ _ h => h) (Or.inl ⟨by rfl, ?_⟩) ?_ ?_
              rotate_left
              · intro w'
                go_simp
                with_reducible rfl
              rotate_left
              · simp only [Act.put, List.setIfInBounds_toArray, List.set_cons_zero, List.set_cons_succ, i64_w, i32_w]
                rfl
              refine take_ (i := 5) (N := some 151) (v := ?_) (a' := ?_) #[true, false, true, true, true, true, false] rfl rfl (take_of HT_.out (by kernel_rfl)) (fun _ _ _ h => h) (Or.inl ⟨by rfl, ?_⟩) hHeld ?_ ?_
              rotate_left
              · intro w' hS_
                obtain ⟨s0, s1⟩ := hS_
                go_simp
                with_reducible rfl
              rotate_left
              · simp only [Act.put, List.setIfInBounds_toArray, List.set_cons_zero, List.set_cons_succ, i64_w, i32_w]
                rfl
              refine one_ (i := 1) (N := some 147) #[true, true, true, true, true, true, false] rfl rfl (one_of HT_.out (by kernel_rfl)) (by decide) (fun K hK => ?_)
              refine goes_ Try.func15 (by kernel_rfl) rfl #[.pointer (some ⟨g, 0, none⟩)] (by rfl) rfl rfl (by (try simp only [List.map_toArray, List.map_cons, List.map_nil]); first | done | rfl) ?_
              refine (HBZ.out _ (HId.out.below (below_drew1 HBq2.out))).mono ?_
              rintro e wr1 ⟨vr, rfl, hr, hb⟩
              obtain ⟨Ar, nr, rfl⟩ := Kd.R_slice hr
              have HRr := Aside0.mk (Kd.R_reads' hr)
              have HBr1 := Aside0.mk (below_step (below_drew1 HBq2.out) hb)
              have hcr1 : wr1.cell? ⟨b, j, none⟩ = some (.int .i64 y) := (HBr1.out.cell (p := ⟨b, j, none⟩) hbl).trans hc0
              clear hr hb
              refine ⟨_, rfl, ?_⟩
              refine hK.out _ _ ⟨hcr1, trivial⟩ (fun hHeld => ?_)
              clear hK K
              refine norm_ (a' := ?_) ?_ ?_
              rotate_left
              · show Act.put _ (some 147) _ = _
                simp only [Act.put, List.setIfInBounds_toArray, List.set_cons_zero, List.set_cons_succ, i64_w, i32_w]
                rfl
              refine one_ (i := 6) (N := some 152) #[true, true, true, true, true, true, true] rfl rfl (one_of HT_.out (by kernel_rfl)) (by decide) (fun K hK => ?_)
              refine goes_ Try.func13 (by kernel_rfl) rfl #[.slice Ar bz.length nr, .int .i64 y] (by rfl) rfl rfl (by (try simp only [List.map_toArray, List.map_cons, List.map_nil]); first | done | rfl) ?_
              refine (has16 y bz Ar nr wr1 HRr.out.2.2 HRr.out.2.1 (by omega)).mono ?_
              rintro e wr2 ⟨rfl, hb⟩
              rw [K3.out]
              have HBr2 := Aside0.mk (below_step HBr1.out hb)
              have hcr2 : wr2.cell? ⟨b, j, none⟩ = some (.int .i64 y) := (HBr2.out.cell (p := ⟨b, j, none⟩) hbl).trans hc0
              clear hb
              refine ⟨_, rfl, ?_⟩
              refine hK.out _ _ ⟨hcr2, trivial⟩ (fun hHeld => ?_)
              clear hK K
              refine norm_ (a' := ?_) ?_ ?_
              rotate_left
              · show Act.put _ (some 152) _ = _
                simp only [Act.put, List.setIfInBounds_toArray, List.set_cons_zero, List.set_cons_succ, i64_w, i32_w]
                rfl
              refine done_ (done_of HT_.out (by kernel_rfl)) ?_
              clear hHeld
              go_wp2_with (go_at_call 32; refine (HIS.out _ (HId.out.below HBr2.out)).mono ?_; rintro e wz ⟨rfl, rfl⟩)
              go_roundw
              case measure => simp [intOf, Go.RowKit.intOf]; omega
              case rel => exact ⟨j + 1, by omega, by rw [show ((j : Int) + 1) = ((j + 1 : Nat) : Int) by omega], HBr2⟩
          · have hje : j = al.length := by omega
            subst hje
            have HIZ := Aside0.mk (HId.out.below HBJ.out)
            have HBZ := Aside0.mk (HBd.out.trans (HBJ.out.mono HBd.out.size))
            go_wp2
            go_roundw
            case measure => simp [intOf, Go.RowKit.intOf]; omega
            case rel => exact ⟨k + 1, s', by omega, by rw [show ((k : Int) + 1) = ((k + 1 : Nat) : Int) by omega], HV, HIZ, HBZ, HSZN⟩
    · have hke : k = ne := by omega
      subst hke
      have HBE := Aside0.mk HB.out
      clear hk hlt
      go_wp2
      go_ret
      exact ⟨rfl, HBE.out⟩
end Go.Proofs.Yteagjolmikbllaa.Ob
