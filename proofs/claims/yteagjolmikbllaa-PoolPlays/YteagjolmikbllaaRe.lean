/-
  Contracts of the pool's methods that only look. Conditions: none.
-/
import Derived.Test.YteagjolmikbllaaDf
import Derived.Test.YteagjolmikbllaaKt
import Derived.Conc.LoneSelectN
set_option linter.unusedVariables false
set_option linter.unusedSimpArgs false
namespace Go.Proofs.Yteagjolmikbllaa.Ob
open Go.RowKit Go.Proofs.YteagjolmikbllaaW.PrintWords Go.Proofs.YteagjolmikbllaaW.PrintLast Go.Proofs.YteagjolmikbllaaW.PrintMore Go.Proofs.Yteagjolmikbllaa.Hid Go.Proofs.Yteagjolmikbllaa.Mp
variable {w0 w : World} {g : Nat} {s : PS}
theorem bq (a b : Int) : (a == b) = decide (a = b) := by by_cases h : a = b <;> simp [h]
theorem bqn (a b : Int) : (a != b) = !decide (a = b) := by by_cases h : a = b <;> simp [h]
theorem is_raw (id what : Int) (hid : I64 id) (hI : IsP w0 w g s) :
    Calls Try.prog 37 #[.pointer (some ⟨g, 0, none⟩), .int .i64 id, .int .i64 what] w fun e w' => e = .returned (.bool (decide (code s.what id = what))) ∧ w = w' := by
  obtain ⟨mb, A, n, cb, buf, sn, rc, hb, _, hM, _⟩ := hI.open_
  have c0 : w.cell? ⟨g, 0, none⟩ = some (.map (some mb)) := (blk_cell hb 0).trans rfl
  have hlk := hM.lookup 56 Try.underlying56 hid
  generalize code s.what id = c at hlk ⊢
  clear hb hM hI
  go_enter Try.func37, Try.ntmps37
  go_wp2
  go_ret
  exact ⟨by simp [bq], rfl⟩
theorem isThere_raw (id : Int) (hid : I64 id) (hI : IsP w0 w g s) :
    Calls Try.prog 32 #[.pointer (some ⟨g, 0, none⟩), .int .i64 id] w fun e w' => e = .returned (.bool (!decide (code s.what id = 0))) ∧ w = w' := by
  obtain ⟨mb, A, n, cb, buf, sn, rc, hb, _, hM, _⟩ := hI.open_
  have c0 : w.cell? ⟨g, 0, none⟩ = some (.map (some mb)) := (blk_cell hb 0).trans rfl
  have hlk := hM.lookup 56 Try.underlying56 hid
  generalize code s.what id = c at hlk ⊢
  clear hb hM hI
  go_enter Try.func32, Try.ntmps32
  go_wp2
  go_ret
  exact ⟨by simp [bqn], rfl⟩
theorem room_raw (hI : IsP w0 w g s) :
    Calls Try.prog 16 #[.pointer (some ⟨g, 0, none⟩)] w fun e w' => e = .returned (.int .i64 ((s.size : Int) - (s.what.length : Int))) ∧ w = w' := by
  obtain ⟨mb, A, n, cb, buf, sn, rc, hb, _, hM, _, _, hc, _, hl, h8⟩ := hI.open_
  have c2 : w.cell? ⟨g, 2, none⟩ = some (.chan (some cb)) := (blk_cell hb 2).trans rfl
  have hlen := fun ty => Go.Conc.run_len_chan (P := Try.prog) 57 ty Try.underlying57 hc
  have e : (s.size : Int) - (s.what.length : Int) = (buf.size : Int) := by omega
  rw [e]
  clear hb hM hI hc e
  go_enter Try.func16, Try.ntmps16
  go_wp2
  go_ret
  exact ⟨rfl, rfl⟩
/-- What the pool's question asks: 40 busy, 42 anything, 46 being made. -/
def asks (q : Nat) (c : Int) : Bool := if q = 40 then decide (c = 3) else if q = 46 then decide (c = 1) else true
/-- Those that are so, rising. -/
def those (s : PS) (q : Nat) : List Int := (keys s.what).filter (fun k => asks q (code s.what k))
theorem q40_raw (c : Int) (w : World) : Calls Try.prog 40 #[.int .i64 c] w fun e w' => e = .returned (.bool (asks 40 c)) ∧ w = w' := by
  go_enter Try.func40, Try.ntmps40
  go_wp2
  go_ret
  exact ⟨by simp [asks, bq], rfl⟩
theorem q46_raw (c : Int) (w : World) : Calls Try.prog 46 #[.int .i64 c] w fun e w' => e = .returned (.bool (asks 46 c)) ∧ w = w' := by
  go_enter Try.func46, Try.ntmps46
  go_wp2
  go_ret
  exact ⟨by simp [asks, bq], rfl⟩
theorem q42_raw (c : Int) (w : World) : Calls Try.prog 42 #[.int .i64 c] w fun e w' => e = .returned (.bool (asks 42 c)) ∧ w = w' := by
  go_enter Try.func42, Try.ntmps42
  go_wp2
  go_ret
  exact ⟨by simp [asks, bq], rfl⟩
/-- The closure's two variables, and the pool. -/
def Caps (w0 W : World) (g S P q : Nat) (s : PS) : Prop := W.heap[S]? = some (.cells #[.func (.func q) #[] #[]] 29 (0, 0)) ∧ W.heap[P]? = some (.cells #[.pointer (some ⟨g, 0, none⟩)] 25 (0, 0)) ∧ IsP w0 W g s
theorem Caps.grown {W W' : World} {S P q : Nat} {row : Option Nat} (h : Caps w0 W g S P q s) (hg : W.grownBy W' row) (h1 : some S ≠ row) (h2 : some P ≠ row) (h3 : ∀ k, Own W g k → some k ≠ row) : Caps w0 W' g S P q s :=
  ⟨(hg.block S (blk_lt h.1) h1).trans h.1, (hg.block P (blk_lt h.2.1) h2).trans h.2.1, h.2.2.grown hg h3⟩
/-- What maps.Keys leaves: its iterator's block. -/
def KeyIt (W w1 : World) (B mb : Nat) : Prop := B = W.heap.size ∧ w1 = W.alloc (.cells #[.map (some mb)] 56)
theorem keysIt (mb : Nat) (W : World) : Calls Try.prog 48 #[.map (some mb)] W fun e w' => ∃ B : Nat, e = .returned (.func (.func 53) #[] #[.pointer (some ⟨B, 0, none⟩)]) ∧ KeyIt W w' B mb :=
  (keys_call (some mb) W).mono (by
    rintro e w' ⟨rfl, rfl⟩
    exact ⟨_, rfl, rfl, rfl⟩)
theorem sortedIt {W w1 : World} {B mb : Nat} {l : PL} (h : KeyIt W w1 B mb) (hM : MapI W mb l) (hl : l.length ≤ 1000000) :
    Calls Try.prog 47 #[.func (.func 53) #[] #[.pointer (some ⟨B, 0, none⟩)]] w1 fun e w' => ∃ v : Value, e = .returned v ∧ kI.R 3 w' W.heap.size (fun _ => True) v (keys l) ∧ Below W.heap.size W w' := by
  obtain ⟨rfl, rfl⟩ := h
  refine (sorted_call mb l W hM hl).mono ?_
  rintro e w' ⟨v, rfl, hR, hb⟩
  exact ⟨v, rfl, Kd.R_lower hR (Nat.le_succ _), (below_alloc (Below.refl _ W) _).trans (hb.mono (Nat.le_succ _))⟩
/-- Growth behind, that turns just what is new. -/
theorem Below.of_grown_new {W W1 W2 : World} {row : Option Nat} (hb : Below W.heap.size W W1) (hg : W1.grownBy W2 row) (hn : ∀ k, some k = row → W.heap.size ≤ k) : Below W.heap.size W W2 :=
  ⟨hb.os ▸ hg.os ▸ rfl, hb.tape ▸ hg.tape ▸ rfl, hb.output ▸ hg.output ▸ rfl, Nat.le_trans hb.size hg.size, fun k hk => (hg.block k (Nat.lt_of_lt_of_le hk hb.size) (fun e => by have := hn k e; omega)).trans (hb.block k hk)⟩
theorem grown_of_below {W W' : World} {row : Option Nat} (hb : Below W.heap.size W W') : W.grownBy W' row := ⟨hb.os, hb.tape, hb.output, hb.size, fun k hk _ => hb.block k hk⟩
theorem Caps.below {W W' : World} {S P q : Nat} (h : Caps w0 W g S P q s) (hb : Below W.heap.size W W') : Caps w0 W' g S P q s :=
  ⟨(hb.block S (blk_lt h.1)).trans h.1, (hb.block P (blk_lt h.2.1)).trans h.2.1, h.2.2.below hb⟩
set_option maxHeartbeats 1000000 in
theorem ask_40 {S P : Nat} (x : Int) (hx : I64 x) (h : Caps w0 w g S P 40 s) :
    Calls Try.prog 49 #[.int .i64 x, .pointer (some ⟨S, 0, none⟩), .pointer (some ⟨P, 0, none⟩)] w fun e w' => e = .returned (.bool (!asks 40 (code s.what x))) ∧ Below w.heap.size w w' := by
  obtain ⟨hS, hP, hI⟩ := h
  obtain ⟨mb, A, n, cb, buf, sn, rc, hb, _, hM, _⟩ := hI.open_
  have c0 : w.cell? ⟨g, 0, none⟩ = some (.map (some mb)) := (blk_cell hb 0).trans rfl
  have cS : w.cell? ⟨S, 0, none⟩ = some (.func (.func 40) #[] #[]) := (blk_cell hS 0).trans rfl
  have cP : w.cell? ⟨P, 0, none⟩ = some (.pointer (some ⟨g, 0, none⟩)) := (blk_cell hP 0).trans rfl
  have hlk : (Instr.lookup 56 (.map (some mb)) (.int .i64 x) false).run Try.prog w.drew = .ok (.int .i64 (code s.what x)) w.drew := MapI.lookup (W := w.drew) 56 Try.underlying56 (MapI.step (W1 := w.drew) hM rfl) hx
  generalize code s.what x = c at hlk ⊢
  have HQ := Aside0.mk (fun W => q40_raw c W)
  generalize asks 40 c = ans at HQ ⊢
  clear hb hM hI hS hP
  go_enter Try.func49, Try.ntmps49
  go_wp2_with fail
  go_region_with (first
    | (go_at_call 40; refine (HQ.out _).mono ?_; rintro e w2 ⟨rfl, rfl⟩))
  all_goals
    go_wp2
    go_ret
    exact ⟨rfl, by first | exact below_drew1 (Below.refl _ _) | exact Below.refl _ _⟩
set_option maxHeartbeats 1000000 in
theorem ask_42 {S P : Nat} (x : Int) (hx : I64 x) (h : Caps w0 w g S P 42 s) :
    Calls Try.prog 49 #[.int .i64 x, .pointer (some ⟨S, 0, none⟩), .pointer (some ⟨P, 0, none⟩)] w fun e w' => e = .returned (.bool (!asks 42 (code s.what x))) ∧ Below w.heap.size w w' := by
  obtain ⟨hS, hP, hI⟩ := h
  obtain ⟨mb, A, n, cb, buf, sn, rc, hb, _, hM, _⟩ := hI.open_
  have c0 : w.cell? ⟨g, 0, none⟩ = some (.map (some mb)) := (blk_cell hb 0).trans rfl
  have cS : w.cell? ⟨S, 0, none⟩ = some (.func (.func 42) #[] #[]) := (blk_cell hS 0).trans rfl
  have cP : w.cell? ⟨P, 0, none⟩ = some (.pointer (some ⟨g, 0, none⟩)) := (blk_cell hP 0).trans rfl
  have hlk : (Instr.lookup 56 (.map (some mb)) (.int .i64 x) false).run Try.prog w.drew = .ok (.int .i64 (code s.what x)) w.drew := MapI.lookup (W := w.drew) 56 Try.underlying56 (MapI.step (W1 := w.drew) hM rfl) hx
  generalize code s.what x = c at hlk ⊢
  have HQ := Aside0.mk (fun W => q42_raw c W)
  generalize asks 42 c = ans at HQ ⊢
  clear hb hM hI hS hP
  go_enter Try.func49, Try.ntmps49
  go_wp2_with fail
  go_region_with (first
    | (go_at_call 42; refine (HQ.out _).mono ?_; rintro e w2 ⟨rfl, rfl⟩))
  all_goals
    go_wp2
    go_ret
    exact ⟨rfl, by first | exact below_drew1 (Below.refl _ _) | exact Below.refl _ _⟩
set_option maxHeartbeats 1000000 in
theorem ask_46 {S P : Nat} (x : Int) (hx : I64 x) (h : Caps w0 w g S P 46 s) :
    Calls Try.prog 49 #[.int .i64 x, .pointer (some ⟨S, 0, none⟩), .pointer (some ⟨P, 0, none⟩)] w fun e w' => e = .returned (.bool (!asks 46 (code s.what x))) ∧ Below w.heap.size w w' := by
  obtain ⟨hS, hP, hI⟩ := h
  obtain ⟨mb, A, n, cb, buf, sn, rc, hb, _, hM, _⟩ := hI.open_
  have c0 : w.cell? ⟨g, 0, none⟩ = some (.map (some mb)) := (blk_cell hb 0).trans rfl
  have cS : w.cell? ⟨S, 0, none⟩ = some (.func (.func 46) #[] #[]) := (blk_cell hS 0).trans rfl
  have cP : w.cell? ⟨P, 0, none⟩ = some (.pointer (some ⟨g, 0, none⟩)) := (blk_cell hP 0).trans rfl
  have hlk : (Instr.lookup 56 (.map (some mb)) (.int .i64 x) false).run Try.prog w.drew = .ok (.int .i64 (code s.what x)) w.drew := MapI.lookup (W := w.drew) 56 Try.underlying56 (MapI.step (W1 := w.drew) hM rfl) hx
  generalize code s.what x = c at hlk ⊢
  have HQ := Aside0.mk (fun W => q46_raw c W)
  generalize asks 46 c = ans at HQ ⊢
  clear hb hM hI hS hP
  go_enter Try.func49, Try.ntmps49
  go_wp2_with fail
  go_region_with (first
    | (go_at_call 46; refine (HQ.out _).mono ?_; rintro e w2 ⟨rfl, rfl⟩))
  all_goals
    go_wp2
    go_ret
    exact ⟨rfl, by first | exact below_drew1 (Below.refl _ _) | exact Below.refl _ _⟩
set_option maxHeartbeats 1000000 in
theorem of_40 (hI : IsP w0 w g s) (hK : ∀ p ∈ s.what, I64 p.1) :
    Calls Try.prog 39 #[.pointer (some ⟨g, 0, none⟩), .func (.func 40) #[] #[]] w fun e w' => ∃ v : Value, e = .returned v ∧ kI.R 3 w' w.heap.size (fun _ => True) v (those s 40) ∧ Below w.heap.size w w' := by
  obtain ⟨wa, hwa⟩ : ∃ wa, wa = (w.alloc (.cells #[.pointer (some ⟨g, 0, none⟩)] 25)).alloc (.cells #[.func (.func 40) #[] #[]] 29) := ⟨_, rfl⟩
  have hba : Below w.heap.size w wa := by rw [hwa]; exact below_alloc (below_alloc (Below.refl _ w) _) _
  have hcap : Caps w0 wa g (w.heap.size + 1) w.heap.size 40 s := by
    rw [hwa]
    refine ⟨?_, ?_, (hI.alloc _).alloc _⟩
    · have := heap_alloc_new (w.alloc (.cells #[.pointer (some ⟨g, 0, none⟩)] 25)) (.cells #[.func (.func 40) #[] #[]] 29)
      simpa using this
    · exact (Below.heap_alloc _ _ _ (by simp)).trans (heap_alloc_new w _)
  have hsz : wa.heap.size = w.heap.size + 2 := by rw [hwa]; simp
  obtain ⟨mb, A, n, cb, buf, sn, rc, hb, _, hM, _, hR, hc, _, hl, h8⟩ := hcap.2.2.open_
  have hcg : wa.cell? ⟨g, 0, none⟩ = some (.map (some mb)) := (blk_cell hb 0).trans rfl
  have c0 : w.cell? ⟨g, 0, none⟩ = some (.map (some mb)) := by
    have := hba.cell (p := ⟨g, 0, none⟩) hI.lt
    rw [hcg] at this
    exact this.symm
  have HM := Aside0.mk hM
  have HC := Aside0.mk hcap
  have HBA := Aside0.mk hba
  have HSZ := Aside0.mk hsz
  have HWA := Aside0.mk hwa
  have HKK := Aside0.mk hK
  have hlen : s.what.length ≤ 1000000 := by omega
  have hgl : g < w.heap.size := hI.lt
  have hne1 : g ≠ w.heap.size := by omega
  have hne2 : g ≠ w.heap.size + 1 := by omega
  clear hI hK hb hM hR hc hcap hba hsz hwa
  go_enter Try.func39, Try.ntmps39
  go_wp2_with (first
    | (go_at_call 48; rw [← HWA.out]; refine (keysIt mb wa).mono ?_; rintro e w2 ⟨B, rfl, hk2⟩; have HK2 := Aside0.mk hk2; clear hk2)
    | (go_at_call 47; refine (sortedIt HK2.out HM.out hlen).mono ?_; rintro e w3 ⟨v, rfl, hr3, hb3⟩; have HR3 := Aside0.mk hr3; have HB3 := Aside0.mk hb3; clear hr3 hb3)
    | (go_at_call 43; refine (delFunc_any_of (fun x => !asks 40 (code s.what x)) (w.heap.size + 1) w.heap.size (keys s.what) v _ HR3.out (fun W hg x hx => (ask_40 x (by obtain ⟨p, hp, rfl⟩ := List.mem_map.1 hx; exact HKK.out p hp) ((HC.out.below HB3.out).grown hg (fun e => by have := Kd.R_base HR3.out _ e.symm; have := HSZ.out; omega) (fun e => by have := Kd.R_base HR3.out _ e.symm; have := HSZ.out; omega) (fun k hk e => by have h1 := Kd.R_base HR3.out _ e.symm; have h2 := ((own_step HC.out.2.2 (fun k hk => HB3.out.block k (hk.lt HC.out.2.2))).1 hk).lt HC.out.2.2; omega)))
)).mono ?_; rintro e w4 ⟨v4, rfl, hr4, hg4, _⟩))
  go_ret
  have he : keptOf (fun x => !asks 40 (code s.what x)) (keys s.what) = those s 40 := by
    unfold keptOf those
    refine List.filter_congr (fun x _ => ?_)
    simp
  rw [he] at hr4
  refine ⟨v4, rfl, Kd.R_lower hr4 HBA.out.size, ?_⟩
  refine HBA.out.trans (Below.of_grown_new (HB3.out) hg4 (fun k hk => ?_) |>.mono HBA.out.size)
  exact Kd.R_base HR3.out k hk.symm
set_option maxHeartbeats 1000000 in
theorem of_42 (hI : IsP w0 w g s) (hK : ∀ p ∈ s.what, I64 p.1) :
    Calls Try.prog 39 #[.pointer (some ⟨g, 0, none⟩), .func (.func 42) #[] #[]] w fun e w' => ∃ v : Value, e = .returned v ∧ kI.R 3 w' w.heap.size (fun _ => True) v (those s 42) ∧ Below w.heap.size w w' := by
  obtain ⟨wa, hwa⟩ : ∃ wa, wa = (w.alloc (.cells #[.pointer (some ⟨g, 0, none⟩)] 25)).alloc (.cells #[.func (.func 42) #[] #[]] 29) := ⟨_, rfl⟩
  have hba : Below w.heap.size w wa := by rw [hwa]; exact below_alloc (below_alloc (Below.refl _ w) _) _
  have hcap : Caps w0 wa g (w.heap.size + 1) w.heap.size 42 s := by
    rw [hwa]
    refine ⟨?_, ?_, (hI.alloc _).alloc _⟩
    · have := heap_alloc_new (w.alloc (.cells #[.pointer (some ⟨g, 0, none⟩)] 25)) (.cells #[.func (.func 42) #[] #[]] 29)
      simpa using this
    · exact (Below.heap_alloc _ _ _ (by simp)).trans (heap_alloc_new w _)
  have hsz : wa.heap.size = w.heap.size + 2 := by rw [hwa]; simp
  obtain ⟨mb, A, n, cb, buf, sn, rc, hb, _, hM, _, hR, hc, _, hl, h8⟩ := hcap.2.2.open_
  have hcg : wa.cell? ⟨g, 0, none⟩ = some (.map (some mb)) := (blk_cell hb 0).trans rfl
  have c0 : w.cell? ⟨g, 0, none⟩ = some (.map (some mb)) := by
    have := hba.cell (p := ⟨g, 0, none⟩) hI.lt
    rw [hcg] at this
    exact this.symm
  have HM := Aside0.mk hM
  have HC := Aside0.mk hcap
  have HBA := Aside0.mk hba
  have HSZ := Aside0.mk hsz
  have HWA := Aside0.mk hwa
  have HKK := Aside0.mk hK
  have hlen : s.what.length ≤ 1000000 := by omega
  have hgl : g < w.heap.size := hI.lt
  have hne1 : g ≠ w.heap.size := by omega
  have hne2 : g ≠ w.heap.size + 1 := by omega
  clear hI hK hb hM hR hc hcap hba hsz hwa
  go_enter Try.func39, Try.ntmps39
  go_wp2_with (first
    | (go_at_call 48; rw [← HWA.out]; refine (keysIt mb wa).mono ?_; rintro e w2 ⟨B, rfl, hk2⟩; have HK2 := Aside0.mk hk2; clear hk2)
    | (go_at_call 47; refine (sortedIt HK2.out HM.out hlen).mono ?_; rintro e w3 ⟨v, rfl, hr3, hb3⟩; have HR3 := Aside0.mk hr3; have HB3 := Aside0.mk hb3; clear hr3 hb3)
    | (go_at_call 43; refine (delFunc_any_of (fun x => !asks 42 (code s.what x)) (w.heap.size + 1) w.heap.size (keys s.what) v _ HR3.out (fun W hg x hx => (ask_42 x (by obtain ⟨p, hp, rfl⟩ := List.mem_map.1 hx; exact HKK.out p hp) ((HC.out.below HB3.out).grown hg (fun e => by have := Kd.R_base HR3.out _ e.symm; have := HSZ.out; omega) (fun e => by have := Kd.R_base HR3.out _ e.symm; have := HSZ.out; omega) (fun k hk e => by have h1 := Kd.R_base HR3.out _ e.symm; have h2 := ((own_step HC.out.2.2 (fun k hk => HB3.out.block k (hk.lt HC.out.2.2))).1 hk).lt HC.out.2.2; omega)))
)).mono ?_; rintro e w4 ⟨v4, rfl, hr4, hg4, _⟩))
  go_ret
  have he : keptOf (fun x => !asks 42 (code s.what x)) (keys s.what) = those s 42 := by
    unfold keptOf those
    refine List.filter_congr (fun x _ => ?_)
    simp
  rw [he] at hr4
  refine ⟨v4, rfl, Kd.R_lower hr4 HBA.out.size, ?_⟩
  refine HBA.out.trans (Below.of_grown_new (HB3.out) hg4 (fun k hk => ?_) |>.mono HBA.out.size)
  exact Kd.R_base HR3.out k hk.symm
set_option maxHeartbeats 1000000 in
theorem of_46 (hI : IsP w0 w g s) (hK : ∀ p ∈ s.what, I64 p.1) :
    Calls Try.prog 39 #[.pointer (some ⟨g, 0, none⟩), .func (.func 46) #[] #[]] w fun e w' => ∃ v : Value, e = .returned v ∧ kI.R 3 w' w.heap.size (fun _ => True) v (those s 46) ∧ Below w.heap.size w w' := by
  obtain ⟨wa, hwa⟩ : ∃ wa, wa = (w.alloc (.cells #[.pointer (some ⟨g, 0, none⟩)] 25)).alloc (.cells #[.func (.func 46) #[] #[]] 29) := ⟨_, rfl⟩
  have hba : Below w.heap.size w wa := by rw [hwa]; exact below_alloc (below_alloc (Below.refl _ w) _) _
  have hcap : Caps w0 wa g (w.heap.size + 1) w.heap.size 46 s := by
    rw [hwa]
    refine ⟨?_, ?_, (hI.alloc _).alloc _⟩
    · have := heap_alloc_new (w.alloc (.cells #[.pointer (some ⟨g, 0, none⟩)] 25)) (.cells #[.func (.func 46) #[] #[]] 29)
      simpa using this
    · exact (Below.heap_alloc _ _ _ (by simp)).trans (heap_alloc_new w _)
  have hsz : wa.heap.size = w.heap.size + 2 := by rw [hwa]; simp
  obtain ⟨mb, A, n, cb, buf, sn, rc, hb, _, hM, _, hR, hc, _, hl, h8⟩ := hcap.2.2.open_
  have hcg : wa.cell? ⟨g, 0, none⟩ = some (.map (some mb)) := (blk_cell hb 0).trans rfl
  have c0 : w.cell? ⟨g, 0, none⟩ = some (.map (some mb)) := by
    have := hba.cell (p := ⟨g, 0, none⟩) hI.lt
    rw [hcg] at this
    exact this.symm
  have HM := Aside0.mk hM
  have HC := Aside0.mk hcap
  have HBA := Aside0.mk hba
  have HSZ := Aside0.mk hsz
  have HWA := Aside0.mk hwa
  have HKK := Aside0.mk hK
  have hlen : s.what.length ≤ 1000000 := by omega
  have hgl : g < w.heap.size := hI.lt
  have hne1 : g ≠ w.heap.size := by omega
  have hne2 : g ≠ w.heap.size + 1 := by omega
  clear hI hK hb hM hR hc hcap hba hsz hwa
  go_enter Try.func39, Try.ntmps39
  go_wp2_with (first
    | (go_at_call 48; rw [← HWA.out]; refine (keysIt mb wa).mono ?_; rintro e w2 ⟨B, rfl, hk2⟩; have HK2 := Aside0.mk hk2; clear hk2)
    | (go_at_call 47; refine (sortedIt HK2.out HM.out hlen).mono ?_; rintro e w3 ⟨v, rfl, hr3, hb3⟩; have HR3 := Aside0.mk hr3; have HB3 := Aside0.mk hb3; clear hr3 hb3)
    | (go_at_call 43; refine (delFunc_any_of (fun x => !asks 46 (code s.what x)) (w.heap.size + 1) w.heap.size (keys s.what) v _ HR3.out (fun W hg x hx => (ask_46 x (by obtain ⟨p, hp, rfl⟩ := List.mem_map.1 hx; exact HKK.out p hp) ((HC.out.below HB3.out).grown hg (fun e => by have := Kd.R_base HR3.out _ e.symm; have := HSZ.out; omega) (fun e => by have := Kd.R_base HR3.out _ e.symm; have := HSZ.out; omega) (fun k hk e => by have h1 := Kd.R_base HR3.out _ e.symm; have h2 := ((own_step HC.out.2.2 (fun k hk => HB3.out.block k (hk.lt HC.out.2.2))).1 hk).lt HC.out.2.2; omega)))
)).mono ?_; rintro e w4 ⟨v4, rfl, hr4, hg4, _⟩))
  go_ret
  have he : keptOf (fun x => !asks 46 (code s.what x)) (keys s.what) = those s 46 := by
    unfold keptOf those
    refine List.filter_congr (fun x _ => ?_)
    simp
  rw [he] at hr4
  refine ⟨v4, rfl, Kd.R_lower hr4 HBA.out.size, ?_⟩
  refine HBA.out.trans (Below.of_grown_new (HB3.out) hg4 (fun k hk => ?_) |>.mono HBA.out.size)
  exact Kd.R_base HR3.out k hk.symm
end Go.Proofs.Yteagjolmikbllaa.Ob
