/-
  Contracts of functions, proved by walking them, and plain facts, several texts in one. Conditions: none.
-/
import Derived.Test.YtmlmiocomlehgaaGreatV1
import Derived.Test.YtmlmiocomlehgaaGreatProg
import Derived.WalkKit
import Derived.WalkSpells
import Derived.WalkLawsBesides
import Derived.Handy
import Derived.Deep.WholeRow
import Derived.Below
import Derived.Deep.Draws
import Derived.Deep.AppendLies
import Derived.Maps.AppendAt
import Derived.OwnWalk
import Derived.Laws.BytesArg
import Derived.Laws.MakeOwn
import Derived.Laws.OwnMore
import Derived.Deep.OwnRows
import Derived.Tactics
import Derived.Lib.ConvBytes
import Derived.Laws.Slices
import Derived.KernelRfl
import Derived.RowKit3
import Derived.Deep.LoopGhost
import Derived.Deep.QuietTactic
import Derived.BigQuiet
import Derived.WideLaws
import Derived.Deep.DeepCutAuto
import Derived.Deep.CutBlock
import Derived.Deep.RegionHeld3
import Derived.Laws.Rows
import Derived.Lib.AppendStr
import Derived.ArgAppend
import Derived.Laws.IdiomCopy
import Derived.OrdersHeld
import Derived.Laws.BitsLemmas
import Derived.RowKit
set_option linter.unusedVariables false
set_option linter.unusedSimpArgs false
set_option linter.unusedSectionVars false
set_option maxHeartbeats 16000000
set_option maxRecDepth 100000
section
namespace Go.Proofs.YtmlmiocomlehgaaGreat.Man
open Go.RowKit Go.Proofs.YtmlmiocomlehgaaGreatW.PrintWords Go.Proofs.YtmlmiocomlehgaaGreatW.PrintLast Go.Proofs.YtmlmiocomlehgaaGreatW.PrintMore Go.Proofs.YtmlmiocomlehgaaGreat.PA Go.Proofs.YtmlmiocomlehgaaGreat.PF Go.Proofs.YtmlmiocomlehgaaGreat.Hid Go.Proofs.YtmlmiocomlehgaaGreat.Na
section
variable {w0 w : World} {g : Nat} {s : DS}
def drains_DNew.f : Option DS := some ⟨[]⟩
theorem new_raw (w : World) : Calls Tryz.prog 16 #[] w fun e w' => e = .returned (.pointer (some ⟨w.heap.size, 0, none⟩)) ∧ w' = w.alloc (.cells #[.slice none 0 0] 94) := by
 go_enter Tryz.func16, Tryz.ntmps16
 go_wp2
 go_ret
 exact ⟨rfl, rfl⟩
theorem drains_DNew.calls (r : DS) (w0 w : World) (hB : Below w0.heap.size w0 w) (h : drains_DNew.f = some r) :
  Calls Tryz.prog 16 #[] w fun e w' => ∃ g_ : Nat, e = .returned (.pointer (some ⟨g_, 0, none⟩)) ∧ IsD w0 w' g_ r ∧ Below w0.heap.size w0 w' ∧ Below w.heap.size w w' := by
 obtain rfl := Option.some.inj h
 refine (new_raw w).mono ?_
 rintro e w' ⟨rfl, rfl⟩
 refine ⟨_, rfl, ⟨.slice none 0 0, heap_alloc_new w _, hB.size, Kd.R_nil _ _ _ _ _⟩, z80 hB _, z80 (Below.refl _ w) _⟩
def idxOf : List ByteArray → ByteArray → Int → Int
 | [], _, _ => -1
 | x :: l, nm, j => if nm.toList = x.toList then j else idxOf l nm (j + 1)
theorem idx_loop (nm : ByteArray) (xs : List ByteArray) (hm : xs.length ≤ 9223372036854775807) (d : Nat) : ∀ (k j : Nat), j ≤ xs.length → xs.length - j = d → d < k → slices_Index_string_string.l0 k xs nm (xs.length : Int) (j : Int) = some (idxOf (xs.drop j) nm j) := by
 induction d with
 | zero =>
  intro k j hj hd hk
  obtain ⟨k, rfl⟩ : ∃ m, k = m + 1 := ⟨k - 1, by omega⟩
  simp only [slices_Index_string_string.l0]
  rw [if_neg (by omega), List.drop_eq_nil_of_le (by omega)]
  rfl
 | succ d ih =>
  intro k j hj hd hk
  obtain ⟨k, rfl⟩ : ∃ m, k = m + 1 := ⟨k - 1, by omega⟩
  have hlt : j < xs.length := by omega
  simp only [slices_Index_string_string.l0]
  rw [if_pos (by omega), if_pos (by omega), if_pos (by omega), List.drop_eq_getElem_cons hlt]
  have e : rdOf ByteArray.empty xs (j : Int) = xs[j] := by simp [rdOf, List.getD, hlt]
  rw [e]
  have ih' := ih k (j + 1) (by omega) (by omega) (by omega)
  rw [show ((j + 1 : Nat) : Int) = (j : Int) + 1 by omega] at ih'
  have hw : wrap64 ((j : Int) + 1) = (j : Int) + 1 := by unfold wrap64; omega
  simp only [idxOf]
  rw [hw]
  by_cases c : nm.toList = xs[j].toList
  ·rw [if_pos c, if_pos c]
  ·rw [if_neg c, if_neg c]
   exact ih'
theorem zj8 (nm : ByteArray) (xs : List ByteArray) (hm : xs.length ≤ 9223372036854775807) : slices_Index_string_string.f (xs.length + 1) xs nm = some (idxOf xs nm 0) := by
 have := idx_loop nm xs hm xs.length (xs.length + 1) 0 (by omega) (by omega) (by omega)
 simpa [slices_Index_string_string.f] using this
def drains_Drains_Ahead.f (s : DS) (nm : ByteArray) : Option (Int × DS) := if s.row.length < 1099511627776 then some (idxOf (namesOf s.row false) nm 0, s) else none
theorem zh6 (nm : ByteArray) (hlb : s.row.length < 1099511627776) (hI : IsD w0 w g s) :
  Calls Tryz.prog 55 #[.pointer (some ⟨g, 0, none⟩), .string nm] w fun e w' => e = .returned (.int .i64 (idxOf (namesOf s.row false) nm 0)) ∧ Below w.heap.size w w' := by
 have HW := as0 (zy4 hlb hI)
 clear hI
 generalize namesOf s.row false = xs at HW
 go_enter Tryz.func55, Tryz.ntmps55
 go_wp2_with (first
  | (go_at_call 81; refine HW.out.mono ?_; rintro e w1 ⟨v1, rfl, hR, hb1⟩; have HB1 := as0 hb1; clear hb1; obtain ⟨A, n, rfl⟩ := Kd.R_slice hR; obtain ⟨_, hn, hC⟩ := Kd.R_reads' hR; have HI := as0 (slices_Index_string_string.calls (xs.length + 1) A n xs nm _ w1 hC hn (zj8 nm xs hC.2.1)); clear hR hC)
  | (go_at_call 75; refine HI.out.mono ?_; rintro e w2 ⟨rfl, hb2⟩))
 go_ret
 exact ⟨rfl, z10 HB1.out (Drawn0.below hb2)⟩
def cutT (x : Int) : Int := mn (mx x 0) 1099511627776
def pastB (now at_ : Int) : Bool := decide (cutT at_ ≤ cutT now)
theorem zgb (now at_ : Int) : sat_Past.f now at_ = some (pastB now at_) := by
 unfold sat_Past.f sat_Sub.f sat_Cut.f pastB cutT
 simp only [Option.bind_some, Option.some.injEq]
 have h1 : 0 ≤ mn (mx at_ 0) 1099511627776 ∧ mn (mx at_ 0) 1099511627776 ≤ 1099511627776 := by unfold mn mx; constructor <;> (repeat' split) <;> omega
 have h2 : 0 ≤ mn (mx now 0) 1099511627776 ∧ mn (mx now 0) 1099511627776 ≤ 1099511627776 := by unfold mn mx; constructor <;> (repeat' split) <;> omega
 generalize mn (mx at_ 0) 1099511627776 = x at h1 ⊢
 generalize mn (mx now 0) 1099511627776 = y at h2 ⊢
 have hw : wrap64 (x - y) = x - y := by unfold wrap64; omega
 rw [hw]
 unfold mx
 by_cases c : x ≤ y
 ·rw [decide_eq_true c]
  split
  ·rfl
  ·simp; omega
 ·rw [decide_eq_false c]
  split
  ·omega
  ·simp; omega
def delB (s : DS) (now : Int) (nm : ByteArray) : Bool := !pastB now (deadOf s nm).1
def Caps (w0 W : World) (g D M : Nat) (s : DS) (now : Int) : Prop := W.heap[D]? = some (.cells #[.pointer (some ⟨g, 0, none⟩)] 52 (0, 0)) ∧ W.heap[M]? = some (.cells #[.int .i64 now] 3 (0, 0)) ∧ IsD w0 W g s
theorem Caps.move {W W' : World} {D M : Nat} {now : Int} (h : Caps w0 W g D M s now) (hb : ∀ k : Nat, (∃ (cs : Array Value) (t : TypeId), W.heap[k]? = some (Obj.cells cs t (0, 0)) ∧ t ≠ 9) → W'.heap[k]? = W.heap[k]?) : Caps w0 W' g D M s now := by
 obtain ⟨h1, h2, h3⟩ := h
 refine ⟨(hb D ⟨_, _, h1, by decide⟩).trans h1, (hb M ⟨_, _, h2, by decide⟩).trans h2, ?_⟩
 obtain ⟨v, hv, hg, hR⟩ := h3
 refine ⟨v, (hb g ⟨_, _, hv, by decide⟩).trans hv, hg, ?_⟩
 refine Kd.R_mono (Kd.R_move (Kd.R_bound hR) (fun k hk => ?_)) (fun _ _ => trivial)
 obtain ⟨_, _, _, q, hq, cells, hq2⟩ := hk
 have : q = 110 := by simpa [k110, Kd.iso, Kd.pair, Kd.int, Kd.scalar, Kd.string, Kd.bool] using hq
 subst this
 exact hb k ⟨_, _, hq2, by decide⟩
theorem Caps.below {W W' : World} {D M : Nat} {now : Int} (h : Caps w0 W g D M s now) (hb : Below W.heap.size W W') : Caps w0 W' g D M s now := h.move (fun k hk => by obtain ⟨_, _, hk, _⟩ := hk; exact hb.block k (z70 hk))
theorem Caps.grown {W W' : World} {D M : Nat} {now : Int} {b : Nat} (h : Caps w0 W g D M s now) (hg : W.grownBy W' (some b)) {cs : Array Value} (hb : W.heap[b]? = some (.cells cs 9 (0, 0))) : Caps w0 W' g D M s now := h.move (fun k hk => by
 obtain ⟨cs', t, hk, ht⟩ := hk
 refine hg.block k (z70 hk) ?_
 intro e
 injection e with e
 subst e
 rw [hb] at hk
 injection hk with hk
 injection hk with _ hk
 exact ht hk.symm)
theorem due1_raw {W : World} {D M : Nat} {now : Int} (nm : ByteArray) (h : Caps w0 W g D M s now) :
  Calls Tryz.prog 94 #[.string nm, .pointer (some ⟨D, 0, none⟩), .pointer (some ⟨M, 0, none⟩)] W fun e w' => e = .returned (.bool (delB s now nm)) ∧ Below W.heap.size W w' := by
 have hD : W.cell? ⟨D, 0, none⟩ = some (.pointer (some ⟨g, 0, none⟩)) := (z60 h.1 0).trans rfl
 have hM : W.cell? ⟨M, 0, none⟩ = some (.int .i64 now) := (z60 h.2.1 0).trans rfl
 have HDL := as0 (zv6 nm h.2.2)
 have hMl : M < W.heap.size := z70 h.2.1
 have HP := as0 (fun W' => sat_Past.calls now (deadOf s nm).1 _ W' (zgb now (deadOf s nm).1))
 unfold delB
 generalize deadOf s nm = d at HDL HP
 obtain ⟨at_, is⟩ := d
 clear h
 go_enter Tryz.func94, Tryz.ntmps94
 go_wp2_with (first
  | (go_at_call 95; refine HDL.out.mono ?_; rintro e w1 ⟨rfl, hb1⟩; have HB1 := as0 hb1; have hM1 : w1.cell? ⟨M, 0, none⟩ = some (.int .i64 now) := (hb1.cell (p := ⟨M, 0, none⟩) hMl).trans hM; clear hb1)
  | (go_at_call 96; refine (HP.out _).mono ?_; rintro e w2 ⟨rfl, hb2⟩))
 go_ret
 exact ⟨rfl, z10 HB1.out hb2⟩
def fstOf (dl : ByteArray → Bool) : List ByteArray → Int → Int
 | [], _ => -1
 | x :: l, j => if dl x = true then j else fstOf dl l (j + 1)
theorem zb6 (dl : ByteArray → Bool) : ∀ (xs : List ByteArray) (j : Int), 0 ≤ j → fstOf dl xs j = -1 → ∀ x ∈ xs, dl x = false
 | [], _, _, _ => fun x hx => by simp at hx
 | y :: l, j, hj, h => fun x hx => by
  unfold fstOf at h
  by_cases c : dl y = true
  ·rw [if_pos c] at h; omega
  ·rw [if_neg c] at h
   rcases List.mem_cons.1 hx with rfl | hx
   ·simpa using c
   ·exact zb6 dl l (j + 1) (by omega) h x hx
theorem zwa (dl : ByteArray → Bool) : ∀ (xs : List ByteArray) (j : Int), fstOf dl xs j = -1 ∨ ∃ i : Nat, fstOf dl xs j = j + i ∧ i < xs.length ∧ (∀ k (h : k < xs.length), k < i → dl xs[k] = false) ∧ ∀ h : i < xs.length, dl xs[i] = true
 | [], _ => .inl rfl
 | y :: l, j => by
  unfold fstOf
  by_cases c : dl y = true
  ·rw [if_pos c]
   exact .inr ⟨0, by simp, by simp, fun k _ h => by omega, fun _ => c⟩
  ·rw [if_neg c]
   rcases zwa dl l (j + 1) with h | ⟨i, h1, h2, h3, h4⟩
   ·exact .inl h
   ·refine .inr ⟨i + 1, by rw [h1]; omega, by simpa using h2, fun k hk hki => ?_, fun h => by simpa using h4 h2⟩
    cases k with
    | zero => simpa using c
    | succ k => simpa using h3 k (by simpa using hk) (by omega)
theorem z77 (dl : ByteArray → Bool) (D M : Nat) (xs : List ByteArray) (A : Option Addr) (n : Nat) (hC : Kd.C Kd.string w A xs.length xs) (hn : xs.length ≤ n)
  (HD : ∀ W, Below w.heap.size w W → ∀ x, Calls Tryz.prog 94 #[.string x, .pointer (some ⟨D, 0, none⟩), .pointer (some ⟨M, 0, none⟩)] W fun e w' => e = .returned (.bool (dl x)) ∧ Below W.heap.size W w') :
  Calls Tryz.prog 98 #[.slice A xs.length n, .func (.func 94) #[] #[.pointer (some ⟨D, 0, none⟩), .pointer (some ⟨M, 0, none⟩)]] w fun e w' => e = .returned (.int .i64 (fstOf dl xs 0)) ∧ Below w.heap.size w w' := by
 have HC := as0 hC
 have HDD := as0 HD
 have hlen : xs.length ≤ 9223372036854775807 := hC.2.1
 obtain ⟨RES, hres⟩ : ∃ R, R = fstOf dl xs 0 := ⟨_, rfl⟩
 rw [← hres]
 have HRES := as0 hres.symm
 clear hC HD hres
 go_enter Tryz.func98, Tryz.ntmps98
 go_wp2
 go_loopw [8] (fun v8 wr => ∃ k : Nat, k ≤ xs.length ∧ v8 = .int .i64 k ∧ Aside0 (fstOf dl (xs.drop k) k = RES) ∧ Aside0 (Below w.heap.size w wr)) (fun v8 _ => xs.length - (intOf v8).toNat)
 case atStart => exact ⟨0, Nat.zero_le _, rfl, HRES, ⟨Below.refl _ _⟩⟩
 case round =>
  obtain ⟨k, hk, rfl, HF, HB⟩ := hrel
  by_cases hlt : k < xs.length
  ·obtain ⟨ad, rfl, hx0⟩ := Kd.at_string (Kd.C_below HC.out HB.out) (k : Int) (by omega) (by omega)
   obtain ⟨x, hxe⟩ : ∃ x, x = rdOf ByteArray.empty xs (k : Int) := ⟨_, rfl⟩
   rw [← hxe, Int.toNat_natCast] at hx0
   have hxg : xs[k] = x := by rw [hxe]; simp [rdOf, List.getD, hlt]
   have hF := HF.out
   rw [List.drop_eq_getElem_cons hlt, hxg, fstOf] at hF
   have h0k : (0 : Int) ≤ (k : Int) := by omega
   have hkl : (k : Int) < (xs.length : Int) := by omega
   clear hxe hxg HF
   cases hd : dl x with
   | true =>
    rw [hd, if_pos rfl] at hF
    subst hF
    go_wp2_with (go_at_call 94; refine (HDD.out _ HB.out x).mono ?_; rintro e w2 ⟨rfl, hb2⟩; rw [hd])
    go_ret
    exact ⟨rfl, z10 HB.out hb2⟩
   | false =>
    rw [hd, if_neg (by decide)] at hF
    have HF := as0 hF
    clear hF
    go_wp2_with (go_at_call 94; refine (HDD.out _ HB.out x).mono ?_; rintro e w2 ⟨rfl, hb2⟩; rw [hd])
    exact ⟨⟨k + 1, by omega, by rw [show ((k : Int) + 1) = ((k + 1 : Nat) : Int) by omega], ⟨by rw [← HF.out]; rfl⟩, ⟨z10 HB.out hb2⟩⟩, by simp [intOf]; omega⟩
  ·have hke : k = xs.length := by omega
   subst hke
   have hF := HF.out
   rw [List.drop_length] at hF
   have hF2 : -1 = RES := hF
   subst hF2
   clear hk HF hF
   go_wp2
   go_ret
   exact ⟨rfl, HB.out⟩
theorem zu5 (v : Value) (m : Nat) : Builtin.zeroCells #[v] m = Array.replicate m v := by
 apply Array.ext
 ·simp [Builtin.zeroCells]
 ·intro i h1 h2
  simp [Builtin.zeroCells, Nat.mod_one]
theorem zv3 {P : Program} (w : World) (t e ty : TypeId) (z : Value) (hz : z.cells = #[z]) (ht : P.underlying t = some (.slice e)) (hv : ∀ w, (zeroValue e).run P w = .ok z w) (h1 : z.oneCell' = true) (b o m c : Nat)
  (hc : ∀ j, j < m → (w.cell? ⟨b, o + j, none⟩).isSome = true) (hf : ∀ j, j < m → w.frozen? ⟨b, o + j, none⟩ = false) :
  (Builtin.clear_ #[t] ty #[.slice (some ⟨b, o, none⟩) m c]).run P w = .ok (.tuple #[]) (w.setCells b o (List.replicate m z)) := by
 have hst := run_storeCells_cells (P := P) b o (List.replicate m z) 0 w (by simpa using hc) (by simpa using hf) (by intro u hu; rw [List.eq_of_mem_replicate hu]; exact h1)
 simp only [Nat.add_zero] at hst
 cases m with
 | zero => simp [Builtin.clear_, run_underlying ht]; rfl
 | succ m => simp [Builtin.clear_, run_underlying ht, hv, hz, zu5, hst]
def keptOf (dl : ByteArray → Bool) (xs : List ByteArray) : List ByteArray := xs.filter (fun x => !dl x)
theorem zd6 (dl : ByteArray → Bool) (D M : Nat) (xs : List ByteArray) (A : Option Addr) (n base : Nat) (hR : Kd.R Kd.string 9 w base (fun _ => True) (.slice A xs.length n) xs)
  (HD : ∀ W, Below w.heap.size w W → ∀ x, Calls Tryz.prog 94 #[.string x, .pointer (some ⟨D, 0, none⟩), .pointer (some ⟨M, 0, none⟩)] W fun e w' => e = .returned (.bool (dl x)) ∧ Below W.heap.size W w') (h : fstOf dl xs 0 = -1) :
  Calls Tryz.prog 92 #[.slice A xs.length n, .func (.func 94) #[] #[.pointer (some ⟨D, 0, none⟩), .pointer (some ⟨M, 0, none⟩)]] w fun e w' => e = .returned (.slice A xs.length n) ∧
   Kd.R Kd.string 9 w' base (fun _ => True) (.slice A xs.length n) (keptOf dl xs) ∧ Below w.heap.size w w' := by
 have hnC := Kd.R_reads' hR
 have HX := as0 (z77 (w := w) dl D M xs A n hnC.2.2 hnC.2.1 HD)
 have HR0 := as0 hR
 clear hnC hR HD
 have hall := zb6 dl xs 0 (by omega) h
 have hk : keptOf dl xs = xs := by
  unfold keptOf
  rw [List.filter_eq_self]
  intro x hx
  simp [hall x hx]
 rw [hk]
 rw [h] at HX
 clear h hall hk
 go_enter Tryz.func92, Tryz.ntmps92
 go_wp2_with (go_at_call 98; refine HX.out.mono ?_; rintro e w' ⟨rfl, hb⟩)
 go_ret
 exact ⟨rfl, Kd.R_below HR0.out hb, hb⟩
theorem zd8 (dl : ByteArray → Bool) (D M : Nat) (xs : List ByteArray) (b n base : Nat) (hR : Kd.R Kd.string 9 w base (fun _ => True) (.slice (some ⟨b, 0, none⟩) xs.length n) xs)
  (HD : ∀ W, w.grownBy W (some b) → ∀ x, Calls Tryz.prog 94 #[.string x, .pointer (some ⟨D, 0, none⟩), .pointer (some ⟨M, 0, none⟩)] W fun e w' => e = .returned (.bool (dl x)) ∧ Below W.heap.size W w') :
  Calls Tryz.prog 92 #[.slice (some ⟨b, 0, none⟩) xs.length n, .func (.func 94) #[] #[.pointer (some ⟨D, 0, none⟩), .pointer (some ⟨M, 0, none⟩)]] w fun e w' => ∃ m : Nat, e = .returned (.slice (some ⟨b, 0, none⟩) m n) ∧
   Kd.R Kd.string 9 w' base (fun _ => True) (.slice (some ⟨b, 0, none⟩) m n) (keptOf dl xs) ∧ w.grownBy w' (some b) := by
 have hnC := Kd.R_reads' hR
 have hn : xs.length ≤ n := hnC.2.1
 have hlen : xs.length ≤ 9223372036854775807 := hnC.2.2.2.1
 have HX := as0 (z77 (w := w) dl D M xs (some ⟨b, 0, none⟩) n hnC.2.2 hn (fun W hb => HD W ⟨hb.os, hb.tape, hb.output, hb.size, fun k hk _ => hb.block k hk⟩))
 have HR0 := as0 hR
 have HDD := as0 HD
 clear hnC hR HD
 rcases zwa dl xs 0 with h | ⟨i0, h1, h2, h3, h4⟩
 ·have hall := zb6 dl xs 0 (by omega) h
  have hk : keptOf dl xs = xs := by
   unfold keptOf
   rw [List.filter_eq_self]
   intro x hx
   simp [hall x hx]
  rw [hk]
  rw [h] at HX
  clear h hall hk
  go_enter Tryz.func92, Tryz.ntmps92
  go_wp2_with (go_at_call 98; refine HX.out.mono ?_; rintro e w' ⟨rfl, hb⟩)
  go_ret
  exact ⟨_, rfl, Kd.R_below HR0.out hb, ⟨hb.os, hb.tape, hb.output, hb.size, fun k hk _ => hb.block k hk⟩⟩
 ·rw [h1] at HX
  have HPRE : Aside0 (keptOf dl (xs.take (i0 + 1)) = xs.take i0) := ⟨by
   rw [List.take_succ_eq_append_getElem h2]
   unfold keptOf
   rw [List.filter_append, List.filter_eq_self.2 (fun x hx => ?_)]
   ·simp [h4 h2]
   ·obtain ⟨k, hk, rfl⟩ := List.mem_take_iff_getElem.1 hx
    have := h3 k (by omega) (by omega)
    simp [this]⟩
  have hi0 : ((0 : Int) + (i0 : Int)) = ((i0 : Nat) : Int) := by omega
  rw [hi0] at HX
  clear h1 h3 h4 hi0
  have hne : ((i0 : Int) = -1) = False := eq_false (by omega)
  have hne2 : decide ((i0 : Int) = -1) = false := decide_eq_false (by omega)
  have hne3 : ((i0 : Int) == -1) = false := by rw [beq_eq_false_iff_ne]; omega
  go_enter Tryz.func92, Tryz.ntmps92
  go_wp2_with (go_at_call 98; refine HX.out.mono ?_; rintro e w1 ⟨rfl, hb1⟩; have HB1 := as0 hb1; clear hb1)
  have HG1 : Aside0 (w.grownBy w1 (some b)) := ⟨⟨HB1.out.os, HB1.out.tape, HB1.out.output, HB1.out.size, fun k hk _ => HB1.out.block k hk⟩⟩
  have HR1 := as0 (Kd.R_below HR0.out HB1.out)
  go_loopw [5, 6] (fun v5 v6 wr => ∃ (i k : Nat) (cur : List ByteArray), i < k ∧ k ≤ xs.length ∧ v5 = .int .i64 i ∧ v6 = .int .i64 k ∧ cur.length = xs.length ∧ Aside0 (cur.take i = keptOf dl (xs.take k)) ∧ Aside0 (cur.drop k = xs.drop k) ∧ Aside0 (Kd.R Kd.string 9 wr base (fun _ => True) (.slice (some ⟨b, 0, none⟩) cur.length n) cur) ∧ Aside0 (w.grownBy wr (some b))) (fun _ v6 _ => xs.length - (intOf v6).toNat)
  case atStart => exact ⟨i0, i0 + 1, xs, by omega, by omega, rfl, by simp, rfl, ⟨HPRE.out.symm⟩, ⟨rfl⟩, HR1, HG1⟩
  case round =>
   obtain ⟨i, k, cur, hik, hk, rfl, rfl, hcl, HT, HDR, HR, HG⟩ := hrel
   obtain ⟨cs9, hb9⟩ := Kd.R_typed HR.out b rfl
   by_cases hlt : k < xs.length
   ·obtain ⟨hx0, hxf⟩ := Kd.R_cell ByteArray.empty HR.out (k : Int) (by omega) (by omega)
    obtain ⟨hy0, hyf⟩ := Kd.R_cell ByteArray.empty HR.out (i : Int) (by omega) (by omega)
    have hxg : rdOf ByteArray.empty cur (k : Int) = xs[k] := by
     have h5 := congrArg (fun l : List ByteArray => l[0]?) HDR.out
     simp only [List.getElem?_drop, Nat.add_zero] at h5
     rw [List.getElem?_eq_getElem (by omega), List.getElem?_eq_getElem hlt] at h5
     simp only [rdOf, Int.toNat_natCast, List.getD, List.getElem?_eq_getElem (show k < cur.length by omega)]
     exact Option.some.inj h5
    obtain ⟨x, hxe⟩ : ∃ x, x = xs[k] := ⟨_, rfl⟩
    rw [hxg, ← hxe, Int.toNat_natCast] at hx0
    rw [Int.toNat_natCast] at hxf hy0 hyf
    have HST := as0 (Kd.R_put HR.out (i : Int) x)
    rw [Int.toNat_natCast] at HST
    have HTK : Aside0 (keptOf dl (xs.take (k + 1)) = keptOf dl (xs.take k) ++ (if dl x = true then [] else [x])) := ⟨by
     rw [List.take_succ_eq_append_getElem hlt, ← hxe]
     unfold keptOf
     rw [List.filter_append]
     cases hd : dl x <;> simp [hd]⟩
    have HDR1 : Aside0 (cur.drop (k + 1) = xs.drop (k + 1)) := ⟨by
     have := congrArg (List.drop 1) HDR.out
     simpa [List.drop_drop, Nat.add_comm] using this⟩
    have h0k : (0 : Int) ≤ (k : Int) := by omega
    have hkl : (k : Int) < (xs.length : Int) := by omega
    have h0i : (0 : Int) ≤ (i : Int) := by omega
    have hil : (i : Int) < (xs.length : Int) := by omega
    have hbl : b < wr.heap.size := z70 hb9
    have HB9 := as0 hb9
    clear hxe hxg hb9 HDR
    cases hd : dl x with
    | true =>
     rw [hd, if_pos rfl, List.append_nil] at HTK
     go_wp2_with (go_at_call 94; refine (HDD.out _ HG.out x).mono ?_; rintro e w2 ⟨rfl, hb2⟩; rw [hd])
     go_roundw
     case measure => simp [intOf]; omega
     case rel => exact ⟨i, k + 1, cur, by omega, by omega, rfl, by rw [show ((k : Int) + 1) = ((k + 1 : Nat) : Int) by omega], hcl, ⟨by rw [HTK.out]; exact HT.out⟩, HDR1, ⟨Kd.R_below HR.out hb2⟩, ⟨Ko.grown_trans HG.out ⟨hb2.os, hb2.tape, hb2.output, hb2.size, fun k hk _ => hb2.block k hk⟩⟩⟩
    | false =>
     rw [hd, if_neg (by decide)] at HTK
     go_wp2_with (go_at_call 94; refine (HDD.out _ HG.out x).mono ?_; rintro e w2 ⟨rfl, hb2⟩; rw [hd]; have hy2 : w2.cell? ⟨b, i, none⟩ = _ := (hb2.cell (p := ⟨b, i, none⟩) hbl).trans hy0; have hyf2 : w2.frozen? ⟨b, i, none⟩ = false := (hb2.frozen (p := ⟨b, i, none⟩) hbl).trans hyf; have HB2 := as0 hb2; clear hb2)
     have hst2 := Kd.R_put (Kd.R_below HR.out HB2.out) (i : Int) x
     rw [Int.toNat_natCast] at hst2
     have hg2 : w.grownBy w2 (some b) := Ko.grown_trans HG.out ⟨HB2.out.os, HB2.out.tape, HB2.out.output, HB2.out.size, fun k hk _ => HB2.out.block k hk⟩
     go_roundw
     case measure => simp [intOf]; omega
     case rel => exact ⟨i + 1, k + 1, cur.set i x, by omega, by omega, by rw [show ((i : Int) + 1) = ((i + 1 : Nat) : Int) by omega], by rw [show ((k : Int) + 1) = ((k + 1 : Nat) : Int) by omega], by rw [List.length_set]; exact hcl, ⟨by
       rw [HTK.out, List.take_succ_eq_append_getElem (by rw [List.length_set]; omega), List.take_set_of_le (Nat.le_refl _), HT.out]
       simp⟩, ⟨by rw [List.drop_set_of_lt (by omega)]; exact HDR1.out⟩, ⟨by rw [List.length_set]; exact hst2.1⟩, ⟨Ko.grown_trans hg2 hst2.2⟩⟩
   ·have hke : k = xs.length := by omega
    subst hke
    have hT := HT.out
    rw [List.take_length] at hT
    have hR2 := Kd.R_take HR.out (m := i) (by omega)
    rw [hT] at hR2
    have hblk : ∃ cs : Array Value, wr.heap[b]? = some (.cells cs 9 (0, 0)) ∧ cs.size = n := by
     obtain ⟨_, inner, hown, _⟩ := HR.out
     rcases hown.2 with ⟨hv, _⟩ | ⟨g', cap', cur', hv, hb, hh, _, hcm, hcs, htake⟩
     ·cases hv
     injection hv with ha _ hc
     injection ha with ha
     injection ha with hg
     subst hg; subst hc
     exact ⟨cur', hh, by rw [hcs]; simp [Kd.string, Kd.scalar]⟩
    obtain ⟨cs, hcs, hcsz⟩ := hblk
    have hcz : (n = i) = False := eq_false (by omega)
    have hcz2 : decide (n = i) = false := decide_eq_false (by omega)
    have h0i : (0 : Int) ≤ (i : Int) := by omega
    have hil : (i : Int) ≤ (xs.length : Int) := by omega
    have hin : i ≤ n := by omega
    have hii : i ≤ xs.length := by omega
    have hcl2 : ∀ ty, (Builtin.clear_ #[27] ty #[.slice (some ⟨b, i, none⟩) (xs.length - i) (n - i)]).run Tryz.prog wr = .ok (.tuple #[]) (wr.setCells b i (List.replicate (xs.length - i) (.string ⟨#[]⟩))) := fun ty =>
     zv3 (P := Tryz.prog) wr 27 9 ty (.string ⟨#[]⟩) rfl Tryz.underlying27 (fun w => by kernel_rfl) rfl b i (xs.length - i) (n - i) (fun j hj => by rw [z60 hcs]; simp [hcsz]; omega) (fun j hj => z40 hcs _)
    have hK := Ko.R_tail hR2 (List.replicate (xs.length - i) (.string ⟨#[]⟩)) (o := i) (by simp [Kd.string, Kd.scalar]) (by simp [Kd.string, Kd.scalar]; omega)
    have HK := as0 hK
    clear hK hR2 hT hcs hcsz HDR HT HR hcl hik hb9
    go_wp2
    go_ret
    exact ⟨_, rfl, HK.out.1, Ko.grown_trans HG.out HK.out.2⟩
theorem zt7 (dl : ByteArray → Bool) (D M : Nat) (xs : List ByteArray) (v : Value) (base : Nat) (hR : Kd.R Kd.string 9 w base (fun _ => True) v xs)
  (HD : ∀ W, w.grownBy W v.ownBlock → ∀ x, Calls Tryz.prog 94 #[.string x, .pointer (some ⟨D, 0, none⟩), .pointer (some ⟨M, 0, none⟩)] W fun e w' => e = .returned (.bool (dl x)) ∧ Below W.heap.size W w') :
  Calls Tryz.prog 92 #[v, .func (.func 94) #[] #[.pointer (some ⟨D, 0, none⟩), .pointer (some ⟨M, 0, none⟩)]] w fun e w' => ∃ v' : Value, e = .returned v' ∧
   Kd.R Kd.string 9 w' base (fun _ => True) v' (keptOf dl xs) ∧ w.grownBy w' v.ownBlock := by
 rcases zwa dl xs 0 with h | ⟨i, h1, h2, _⟩
 ·obtain ⟨A, n, rfl⟩ := Kd.R_slice hR
  refine (zd6 dl D M xs A n base hR (fun W hb => HD W ⟨hb.os, hb.tape, hb.output, hb.size, fun k hk _ => hb.block k hk⟩) h).mono ?_
  rintro e w' ⟨rfl, h1, hb⟩
  exact ⟨_, rfl, h1, ⟨hb.os, hb.tape, hb.output, hb.size, fun k hk _ => hb.block k hk⟩⟩
 ·obtain ⟨b, n, rfl, _⟩ := Kd.R_form hR (by omega)
  refine (zd8 dl D M xs b n base hR (fun W hg => HD W hg)).mono ?_
  rintro e w' ⟨m, rfl, h1, hb⟩
  exact ⟨_, rfl, h1, hb⟩
def dueOf (s : DS) (now : Int) : List ByteArray := (namesOf s.row true).filter (fun nm => pastB now (deadOf s nm).1)
theorem kept_due (s : DS) (now : Int) : keptOf (delB s now) (namesOf s.row true) = dueOf s now := by
 unfold keptOf dueOf delB
 simp
def drains_Drains_Due.f (s : DS) (now : Int) : Option (List ByteArray × DS) := if s.row.length < 1099511627776 then some (dueOf s now, s) else none
theorem due_raw (now : Int) (hlb : s.row.length < 1099511627776) (hI : IsD w0 w g s) :
  Calls Tryz.prog 70 #[.pointer (some ⟨g, 0, none⟩), .int .i64 now] w fun e w' => ∃ v1_ : Value, e = .returned v1_ ∧ Kd.R Kd.string 9 w' w.heap.size (fun _ => True) v1_ (dueOf s now) ∧ Below w.heap.size w w' := by
 rw [← kept_due]
 have HI := as0 hI
 have HU := as0 (fun W (h : IsD w0 W g s) => z5c hlb h)
 generalize namesOf s.row true = xs at HU
 clear hI
 obtain ⟨W2, hW2⟩ : ∃ W2, W2 = (w.alloc (.cells #[.pointer (some ⟨g, 0, none⟩)] 52)).alloc (.cells #[.int .i64 now] 3) := ⟨_, rfl⟩
 have HB2 : Aside0 (Below w.heap.size w W2) := ⟨by rw [hW2]; exact z80 (z80 (Below.refl _ w) _) _⟩
 have HC2 : Aside0 (Caps w0 W2 g w.heap.size (w.heap.size + 1) s now) := ⟨by
  refine ⟨?_, ?_, HI.out.below HB2.out⟩
  ·rw [hW2, Below.heap_alloc _ _ _ (by simp)]
   exact heap_alloc_new w _
  ·rw [hW2]
   have := heap_alloc_new (w.alloc (.cells #[.pointer (some ⟨g, 0, none⟩)] 52)) (.cells #[.int .i64 now] 3)
   simpa using this⟩
 have HSZ : Aside0 (W2.heap.size = w.heap.size + 2) := ⟨by rw [hW2]; simp⟩
 have hD2 : W2.cell? ⟨w.heap.size, 0, none⟩ = some (.pointer (some ⟨g, 0, none⟩)) := (z60 HC2.out.1 0).trans rfl
 go_enter Tryz.func70, Tryz.ntmps70
 go_wp2_with (first
  | (go_at_call 93; rw [← hW2]; refine (HU.out _ (HI.out.below HB2.out)).mono ?_; rintro e w3 ⟨v3, rfl, hR3, hb3⟩; have HR3 := as0 hR3; have HB3 := as0 hb3; have HC3 := as0 (HC2.out.below hb3); clear hR3 hb3)
  | (go_at_call 92; refine (zt7 (delB s now) w.heap.size (w.heap.size + 1) xs v3 W2.heap.size HR3.out (fun W hg x => due1_raw x (by
    rcases Nat.eq_zero_or_pos xs.length with h0 | hp
    ·rcases HR3.out.2 with ⟨inner, hown, _⟩
     rcases hown.2 with ⟨hv, _⟩ | ⟨b, cap, cur, hv, _, hh, _⟩
     ·subst hv
      exact HC3.out.move (fun k hk => by obtain ⟨_, _, hk, _⟩ := hk; exact hg.block k (z70 hk) (by simp [Value.ownBlock]))
     ·subst hv
      exact HC3.out.grown hg hh
    ·obtain ⟨b, cap, rfl, _, _, cs, hh⟩ := Kd.R_form HR3.out hp
     exact HC3.out.grown hg hh))).mono ?_; rintro e w4 ⟨v4, rfl, hR4, hg4⟩))
 have hB4 : Below w.heap.size w w4 := (HB2.out.trans (HB3.out.mono HB2.out.size)).grown hg4 (Nat.le_trans HB2.out.size HB3.out.size) (fun k hk => Nat.le_trans HB2.out.size (Kd.R_base HR3.out k hk))
 go_ret
 exact ⟨_, rfl, Kd.R_lower hR4 HB2.out.size, hB4⟩
end
section
variable {w0 w : World} {g : Nat} {s : DS}
def headOf : List S110 → Option S110
 | [] => none
 | x :: l => if x.f2 = true then headOf l else some x
def headName (row : List S110) (m : Bool) : ByteArray := match headOf row with
 | some x => if m = true then x.f0 else ⟨#[]⟩
 | none => ⟨#[]⟩
theorem z67 (G : Nat) (m : Bool) (hI : IsD w0 w g s) (hB : Below w0.heap.size w0 w) (hl : s.row.length ≤ 1000000000)
  (HM : ∀ x, headOf s.row = some x → ∀ W, Below w.heap.size w W → Calls Tryz.prog 52 #[.pointer (some ⟨G, 0, none⟩), .string x.f0] W fun e W' => e = .returned (.bool m) ∧ Below W.heap.size W W') :
  Calls Tryz.prog 51 #[.pointer (some ⟨g, 0, none⟩), .func (.func 52) #[.pointer (some ⟨G, 0, none⟩)] #[]] w fun e w' =>
   e = .returned (.tuple #[.string (headName s.row m), .bool (decide (0 ≤ placeOf s.row (headName s.row m) 0))]) ∧ IsD w0 w' g ⟨endRow s.row (headName s.row m)⟩ ∧ Below w0.heap.size w0 w' ∧ KeptH TD w w' := by
 have HE := as0 (fun (nm : ByteArray) W (h : IsD w0 W g s) (hb : Below w0.heap.size w0 W) => drains_Drains_End.calls g s nm _ ⟨endRow s.row nm⟩ w0 W h hb (if_pos hl))
 have HI := as0 hI
 have HB0 := as0 hB
 have HMM := as0 HM
 obtain ⟨A, n, hbk, hn, hC, hR, hg⟩ := hI.open_
 have h1 : w.cell? ⟨g, 0, none⟩ = some (.slice A s.row.length n) := (z60 hbk 0).trans rfl
 have hgl : g < w.heap.size := z70 hbk
 have HC := as0 hC
 have hlen : s.row.length ≤ 9223372036854775807 := hC.2.1
 have HH : Aside0 (headOf (s.row.drop 0) = headOf s.row) := ⟨rfl⟩
 clear hI hB HM hbk hn hC hR
 go_enter Tryz.func51, Tryz.ntmps51
 go_wp2
 go_step3
 go_wp2
 go_step3
 go_wp2
 go_loopw [6, 17] (fun v6 v17 wr => ∃ k : Nat, k ≤ s.row.length ∧ v6 = .string ⟨#[]⟩ ∧ v17 = .int .i64 k ∧ Aside0 (headOf (s.row.drop k) = headOf s.row) ∧ Aside0 (Below w.heap.size w wr)) (fun _ v17 _ => s.row.length - (intOf v17).toNat)
 case atStart => exact ⟨0, Nat.zero_le _, rfl, rfl, HH, ⟨Below.refl _ _⟩⟩
 case round =>
  obtain ⟨k, hk, rfl, rfl, HF, HB⟩ := hrel
  by_cases hlt : k < s.row.length
  ·obtain ⟨ad, rfl, hx0, hx1, hx2⟩ := z44 (Kd.C_below HC.out HB.out) (k : Int) (by omega) (by omega)
   obtain ⟨x, hxe⟩ : ∃ x : S110, x = rd_T110 s.row (k : Int) := ⟨_, rfl⟩
   rw [← hxe, Int.toNat_natCast] at hx0 hx1 hx2
   have hxg : s.row[k] = x := by rw [hxe]; simp [rd_T110, List.getD, hlt]
   have hF := HF.out
   rw [List.drop_eq_getElem_cons hlt, hxg, headOf] at hF
   have h0k : (0 : Int) ≤ (k : Int) := by omega
   have hkl : (k : Int) < (s.row.length : Int) := by omega
   have HBA := as0 (z80 HB.out (.cells #[.string x.f0, .int .i64 x.f1, .bool x.f2] 110))
   clear hxe hxg HF
   cases hu : x.f2 with
   | true =>
    rw [if_pos hu] at hF
    have HF := as0 hF
    rw [hu] at hx2 HBA
    clear hF
    go_wp2
    go_roundw
    case measure => simp [intOf]; omega
    case rel => exact ⟨k + 1, by omega, rfl, by rw [show ((k : Int) + 1) = ((k + 1 : Nat) : Int) by omega], HF, HBA⟩
   | false =>
    rw [if_neg (by rw [hu]; decide)] at hF
    rw [hu] at hx2 HBA
    have HF := as0 hF.symm
    clear hF
    cases m with
    | true =>
     have HN : Aside0 (headName s.row true = x.f0) := ⟨by unfold headName; rw [HF.out]; rfl⟩
     go_wp2_with (first
      | (go_at_call 52; refine (HMM.out x HF.out _ HBA.out).mono ?_; rintro e w2 ⟨rfl, hm2⟩; have HM2 := as0 (z10 HBA.out hm2); have HK2 := as0 (And.intro (HI.out.below HM2.out) (HB0.out.trans (HM2.out.mono HB0.out.size))); have hc2 : w2.cell? ⟨wr.heap.size, 0, none⟩ = some (.string x.f0) := (World.cell?_of_block (hm2.block wr.heap.size (by simp))).trans (by simp [go_sem]); clear hm2)
      | (go_at_call 48; refine (HE.out x.f0 _ HK2.out.1 HK2.out.2).mono ?_; rintro e w3 ⟨rfl, hi3⟩))
     rw [Exit.noGoto_ret]
     go_ret2
     rw [HN.out]
     exact ⟨rfl, hi3.1, hi3.2.1, (KeptH.of_below HM2.out).trans hi3.2.2⟩
    | false =>
     have HN : Aside0 (headName s.row false = ⟨#[]⟩) := ⟨by unfold headName; rw [HF.out]; rfl⟩
     go_wp2_with (first
      | (go_at_call 52; refine (HMM.out x HF.out _ HBA.out).mono ?_; rintro e w2 ⟨rfl, hm2⟩; have HM2 := as0 (z10 HBA.out hm2); have HK2 := as0 (And.intro (HI.out.below HM2.out) (HB0.out.trans (HM2.out.mono HB0.out.size))); have hc2 : w2.cell? ⟨wr.heap.size, 0, none⟩ = some (.string x.f0) := (World.cell?_of_block (hm2.block wr.heap.size (by simp))).trans (by simp [go_sem]); clear hm2)
      | (go_at_call 48; refine (HE.out ⟨#[]⟩ _ HK2.out.1 HK2.out.2).mono ?_; rintro e w3 ⟨rfl, hi3⟩))
     rw [Exit.noGoto_ret]
     go_ret2
     rw [HN.out]
     exact ⟨rfl, hi3.1, hi3.2.1, (KeptH.of_below HM2.out).trans hi3.2.2⟩
  ·have hke : k = s.row.length := by omega
   subst hke
   have hF := HF.out
   rw [List.drop_length] at hF
   have HF2 : Aside0 (headOf s.row = none) := ⟨hF.symm⟩
   have HN : Aside0 (headName s.row m = ⟨#[]⟩) := ⟨by unfold headName; rw [HF2.out]⟩
   clear hF HF
   go_wp2_with (go_at_call 48; refine (HE.out ⟨#[]⟩ _ (HI.out.below HB.out) (HB0.out.trans (HB.out.mono HB0.out.size))).mono ?_; rintro e w3 ⟨rfl, hi3⟩)
   rw [Exit.noGoto_ret]
   go_ret2
   rw [HN.out]
   exact ⟨rfl, hi3.1, hi3.2.1, (KeptH.of_below HB.out).trans hi3.2.2⟩
end
end Go.Proofs.YtmlmiocomlehgaaGreat.Man
end
section
namespace Go.Proofs.YtmlmiocomlehgaaGreat.Man
open Go.RowKit Go.Proofs.YtmlmiocomlehgaaGreatW.PrintWords Go.Proofs.YtmlmiocomlehgaaGreatW.PrintLast Go.Proofs.YtmlmiocomlehgaaGreatW.PrintMore Go.Proofs.YtmlmiocomlehgaaGreat.PA Go.Proofs.YtmlmiocomlehgaaGreat.PF Go.Proofs.YtmlmiocomlehgaaGreat.Hid
section
abbrev ptr (b : Nat) : Value := .pointer (some ⟨b, 0, none⟩)
def kP : Kd Nat := Kd.scalar ptr (fun _ => rfl)
structure HV where
 nm : ByteArray
 st : Int
 lv : Bool
structure FS where
 each : Int
 guard : Int
 hs : List HV
 ds : DS
abbrev hcell (h : HV) : Obj := .cells #[.string h.nm, .int .i64 h.st, .bool h.lv] 82 (0, 0)
abbrev TF : List Nat := [56, 82, 80, 94, 110]
abbrev TG : List Nat := [56, 82, 94, 110]
structure IsX (w0 W : World) (g gd : Nat) (v : Value) (ps : List Nat) (s : FS) : Prop where
 blk : W.heap[g]? = some (.cells #[ptr gd, .int .i64 s.each, .int .i64 s.guard, v] 56 (0, 0))
 ge : w0.heap.size ≤ g
 dr : IsD w0 W gd s.ds
 row : kP.R 80 W w0.heap.size (fun _ => True) v ps
 nd : ps.Nodup
 len : ps.length = s.hs.length
 hb : ∀ (i p : Nat) (h : HV), ps[i]? = some p → s.hs[i]? = some h → w0.heap.size ≤ p ∧ W.heap[p]? = some (hcell h)
 names : (s.hs.map (·.nm)).Nodup
def IsF (w0 W : World) (g : Nat) (s : FS) : Prop := ∃ gd v ps, IsX w0 W g gd v ps s
def St (w0 w w' : World) (g : Nat) (s : FS) : Prop := IsF w0 w' g s ∧ Below w0.heap.size w0 w' ∧ KeptH TF w w'
def SX (w0 w w' : World) (g gd : Nat) (v : Value) (ps : List Nat) (s : FS) : Prop := IsX w0 w' g gd v ps s ∧ Below w0.heap.size w0 w' ∧ KeptH TG w w'
section
variable {T T' : List Nat} {W W1 W2 : World} {k : Nat}
theorem Hidn.mono (hT : ∀ t, t ∈ T → t ∈ T') (h : Hidn T W k) : Hidn T' W k := by
 rcases h with ⟨cs, t, fr, h, ht⟩ | h | h
 ·exact .inl ⟨cs, t, fr, h, hT t ht⟩
 ·exact .inr (.inl h)
 ·exact .inr (.inr h)
theorem KeptH.mono (hT : ∀ t, t ∈ T → t ∈ T') (h : KeptH T W W1) : KeptH T' W W1 := by
 refine ⟨⟨h.1.1, fun i hi hn => h.1.2 i hi (fun hk => hn (Hidn.mono hT hk))⟩, fun k hk h2 => ?_⟩
 by_cases c : Hidn T W k
 ·exact Hidn.mono hT c
 ·exact h2.of_eq (h.1.2 k hk c)
theorem tg_tf : ∀ t, t ∈ TG → t ∈ TF := by decide
theorem td_tg : ∀ t, t ∈ TD → t ∈ TG := by decide
theorem td_tf : ∀ t, t ∈ TD → t ∈ TF := by decide
end
section
variable {w0 w w' W W1 W2 : World} {g gd : Nat} {v : Value} {ps : List Nat} {s : FS}
theorem IsX.step (h : IsX w0 W g gd v ps s) (hm : ∀ k, Hidn TF W k → W1.heap[k]? = W.heap[k]?) : IsX w0 W1 g gd v ps s := by
 refine ⟨(hm g (.cells h.blk (by decide))).trans h.blk, h.ge, h.dr.step (fun k hk => hm k (Hidn.mono td_tf hk)), ?_, h.nd, h.len, fun i p x hp hx => ?_, h.names⟩
 ·refine Kd.R_mono (Kd.R_move (Kd.R_bound h.row) (fun k hk => ?_)) (fun _ _ => trivial)
  obtain ⟨_, _, _, q, hq, cells, hq2⟩ := hk
  have : q = 80 := by simpa [kP, Kd.scalar] using hq
  subst this
  exact hm k (.cells hq2 (by decide))
 ·obtain ⟨h1, h2⟩ := h.hb i p x hp hx
  exact ⟨h1, (hm p (.cells h2 (by decide))).trans h2⟩
theorem IsX.below (h : IsX w0 W g gd v ps s) (hw : Below W.heap.size W W1) : IsX w0 W1 g gd v ps s := h.step (fun k hk => hw.block k hk.lt)
theorem IsF.step (h : IsF w0 W g s) (hm : ∀ k, Hidn TF W k → W1.heap[k]? = W.heap[k]?) : IsF w0 W1 g s := by
 obtain ⟨gd, v, ps, h⟩ := h
 exact ⟨gd, v, ps, h.step hm⟩
theorem IsF.below (h : IsF w0 W g s) (hw : Below W.heap.size W W1) : IsF w0 W1 g s := h.step (fun k hk => hw.block k hk.lt)
theorem St.of_below (h : IsF w0 w g s) (hB : Below w0.heap.size w0 w) (hb : Below w.heap.size w w') : St w0 w w' g s := ⟨h.below hb, z10 hB hb, KeptH.of_below hb⟩
theorem SX.st (h : SX w0 w w' g gd v ps s) : St w0 w w' g s := ⟨⟨gd, v, ps, h.1⟩, h.2.1, KeptH.mono tg_tf h.2.2⟩
theorem SX.trans {gd' : Nat} {v' : Value} {ps' : List Nat} {s' : FS} (h : KeptH TG w W) (k : SX w0 W w' g gd' v' ps' s') : SX w0 w w' g gd' v' ps' s' := ⟨k.1, k.2.1, h.trans k.2.2⟩
theorem zf4 {α : Type} {l : List α} {i : Nat} {a : α} (h : l[i]? = some a) : l.set i a = l := by
 apply List.ext_getElem?
 intro j
 by_cases e : i = j
 ·subst e
  rw [List.getElem?_set_self (List.getElem?_eq_some_iff.1 h).1, h]
 ·rw [List.getElem?_set_ne e]
theorem IsX.drains {d : DS} (h : IsX w0 w g gd v ps s) (hd : IsD w0 w' gd d) (hB : Below w0.heap.size w0 w') (hk : KeptH TD w w') : SX w0 w w' g gd v ps { s with ds := d } := by
 have hm : ∀ k, k < w.heap.size → ¬ Hidn TD w k → w'.heap[k]? = w.heap[k]? := fun k hk2 hn => hk.1.2 k hk2 hn
 have hg : ∀ {k : Nat} {cs : Array Value} {t : TypeId} {fr : Nat × Nat}, w.heap[k]? = some (.cells cs t fr) → t ∉ TD → w'.heap[k]? = some (.cells cs t fr) := fun hb ht => (hm _ (z70 hb) (z01 hb ht)).trans hb
 refine ⟨⟨hg h.blk (by decide), h.ge, hd, ?_, h.nd, h.len, fun i p x hp hx => ?_, h.names⟩, hB, KeptH.mono td_tg hk⟩
 ·refine Kd.R_mono (Kd.R_move (Kd.R_bound h.row) (fun k hk => ?_)) (fun _ _ => trivial)
  obtain ⟨_, _, hlt, q, hq, cells, hq2⟩ := hk
  have : q = 80 := by simpa [kP, Kd.scalar] using hq
  subst this
  exact hm k hlt (z01 hq2 (by decide))
 ·obtain ⟨h1, h2⟩ := h.hb i p x hp hx
  exact ⟨h1, hg h2 (by decide)⟩
theorem IsX.turn {i p j : Nat} {x y : HV} {u : Value} (h : IsX w0 w g gd v ps s) (hB : Below w0.heap.size w0 w) (hp : ps[i]? = some p) (hx : s.hs[i]? = some x) (hn : y.nm = x.nm)
  (hc : (w.setCell ⟨p, j, none⟩ u).heap[p]? = some (hcell y)) : SX w0 w (w.setCell ⟨p, j, none⟩ u) g gd v ps { s with hs := s.hs.set i y } := by
 obtain ⟨h1, h2⟩ := h.hb i p x hp hx
 have hfar : ∀ k, k ≠ p → (w.setCell ⟨p, j, none⟩ u).heap[k]? = w.heap[k]? := fun k hk => Below.heap_setCell w ⟨p, j, none⟩ u k hk
 have ht : ∀ {k : Nat} {cs : Array Value} {t : TypeId} {fr : Nat × Nat}, w.heap[k]? = some (.cells cs t fr) → t ≠ 82 → k ≠ p := by
  rintro k cs t fr hk ht rfl
  rw [h2] at hk
  injection hk with hk
  injection hk with _ hk
  exact ht hk.symm
 refine ⟨⟨(hfar g (ht h.blk (by decide))).trans h.blk, h.ge, ?_, ?_, h.nd, by simp [h.len], fun i' p' x' hp' hx' => ?_, ?_⟩, zc0 hB h1, (KeptH.refl _ _).setCell (p := ⟨p, j, none⟩) (.cells h2 (by decide)) u⟩
 ·exact h.dr.step (fun k hk => hfar k (by rintro rfl; exact z01 h2 (by decide) hk))
 ·exact Kd.R_set h.row h2 (by simp [kP, Kd.scalar]) j u
 ·by_cases e : i' = i
  ·subst e
   rw [hp] at hp'
   injection hp' with hp'
   subst hp'
   have hlt : i' < s.hs.length := (List.getElem?_eq_some_iff.1 hx).1
   simp only [List.getElem?_set_self hlt] at hx'
   injection hx' with hx'
   subst hx'
   exact ⟨h1, hc⟩
  ·simp only [List.getElem?_set_ne (Ne.symm e)] at hx'
   obtain ⟨h3, h4⟩ := h.hb i' p' x' hp' hx'
   refine ⟨h3, (hfar p' ?_).trans h4⟩
   rintro rfl
   exact e ((List.getElem?_inj (List.getElem?_eq_some_iff.1 hp').1 h.nd).1 (hp'.trans hp.symm))
 ·simp only [List.map_set, hn]
  have hlt : i < s.hs.length := (List.getElem?_eq_some_iff.1 hx).1
  have e2 : (s.hs.map (·.nm))[i]? = some x.nm := by simp [hx]
  rw [zf4 e2]
  exact h.names
end
end
end Go.Proofs.YtmlmiocomlehgaaGreat.Man
end
section
namespace Go.Proofs.YtmlmiocomlehgaaGreat.Man
open Go.RowKit
section
def tabA : Array Value := #[.int .i64 1, .int .i64 (-1), .int .i64 2, .int .i64 (-1), .int .i64 (-1), .int .i64 1, .int .i64 (-1), .int .i64 (-1), .int .i64 0, .int .i64 (-1), .int .i64 (-1), .int .i64 3, .int .i64 (-1), .int .i64 0, .int .i64 1, .int .i64 (-1), .int .i64 (-1), .int .i64 0, .int .i64 (-1), .int .i64 1, .int .i64 (-1), .int .i64 (-1), .int .i64 0, .int .i64 (-1), .int .i64 (-1), .int .i64 (-1), .int .i64 (-1), .int .i64 0]
def row0 : Array Value := #[.int .i64 1, .int .i64 (-1), .int .i64 2, .int .i64 (-1), .int .i64 (-1), .int .i64 1, .int .i64 (-1)]
def row1 : Array Value := #[.int .i64 (-1), .int .i64 0, .int .i64 (-1), .int .i64 (-1), .int .i64 3, .int .i64 (-1), .int .i64 0]
def row2 : Array Value := #[.int .i64 1, .int .i64 (-1), .int .i64 (-1), .int .i64 0, .int .i64 (-1), .int .i64 1, .int .i64 (-1)]
def row3 : Array Value := #[.int .i64 (-1), .int .i64 0, .int .i64 (-1), .int .i64 (-1), .int .i64 (-1), .int .i64 (-1), .int .i64 0]
theorem zcb : (Tryz.prog.info? 128).map (·.size) = some 28 := by kernel_rfl
theorem one_all : (tabA.all fun x => x.oneCell') = true := by kernel_rfl
theorem zo0 (w : World) : Calls Tryz.prog 104 #[] w fun e w' => e = .returned (.agg tabA) ∧ ∃ bs, w' = w.alloc (.cells bs 128) := by
 go_enter Tryz.func104, Tryz.ntmps104
 go_wp2_with (refine wpList_store_row rfl 128 _ _ rfl w.heap.size tabA rfl rfl 128 _ (heap_alloc_new w _) zcb rfl one_all ?_; rw [World.setRow_alloc_new])
 refine bodyPost_ret (results_cell_row rfl _ _ w.heap.size 128 tabA (0, 0) _ rfl (heap_alloc_new w _) Tryz.underlying128 rfl zcb) rfl ?_
 exact ⟨rfl, _, rfl⟩
def toS (s e : Int) : Int :=
 if s = 0 then (if e = 0 then 1 else if e = 2 then 2 else if e = 5 then 1 else -1)
 else if s = 1 then (if e = 1 then 0 else if e = 4 then 3 else if e = 6 then 0 else -1)
 else if s = 2 then (if e = 0 then 1 else if e = 3 then 0 else if e = 5 then 1 else -1)
 else if s = 3 then (if e = 1 then 0 else if e = 6 then 0 else -1)
 else -1
theorem ix0 (w : World) : (Instr.index 128 (.agg tabA) (.int .i64 0)).run Tryz.prog w = .ok (.agg row0) w := by kernel_rfl
theorem ix1 (w : World) : (Instr.index 128 (.agg tabA) (.int .i64 1)).run Tryz.prog w = .ok (.agg row1) w := by kernel_rfl
theorem ix2 (w : World) : (Instr.index 128 (.agg tabA) (.int .i64 2)).run Tryz.prog w = .ok (.agg row2) w := by kernel_rfl
theorem ix3 (w : World) : (Instr.index 128 (.agg tabA) (.int .i64 3)).run Tryz.prog w = .ok (.agg row3) w := by kernel_rfl
theorem iy00 (w : World) : (Instr.index 127 (.agg row0) (.int .i64 0)).run Tryz.prog w = .ok (.int .i64 1) w := by kernel_rfl
theorem iy01 (w : World) : (Instr.index 127 (.agg row0) (.int .i64 1)).run Tryz.prog w = .ok (.int .i64 (-1)) w := by kernel_rfl
theorem iy02 (w : World) : (Instr.index 127 (.agg row0) (.int .i64 2)).run Tryz.prog w = .ok (.int .i64 2) w := by kernel_rfl
theorem iy03 (w : World) : (Instr.index 127 (.agg row0) (.int .i64 3)).run Tryz.prog w = .ok (.int .i64 (-1)) w := by kernel_rfl
theorem iy04 (w : World) : (Instr.index 127 (.agg row0) (.int .i64 4)).run Tryz.prog w = .ok (.int .i64 (-1)) w := by kernel_rfl
theorem iy05 (w : World) : (Instr.index 127 (.agg row0) (.int .i64 5)).run Tryz.prog w = .ok (.int .i64 1) w := by kernel_rfl
theorem iy06 (w : World) : (Instr.index 127 (.agg row0) (.int .i64 6)).run Tryz.prog w = .ok (.int .i64 (-1)) w := by kernel_rfl
theorem iy10 (w : World) : (Instr.index 127 (.agg row1) (.int .i64 0)).run Tryz.prog w = .ok (.int .i64 (-1)) w := by kernel_rfl
theorem iy11 (w : World) : (Instr.index 127 (.agg row1) (.int .i64 1)).run Tryz.prog w = .ok (.int .i64 0) w := by kernel_rfl
theorem iy12 (w : World) : (Instr.index 127 (.agg row1) (.int .i64 2)).run Tryz.prog w = .ok (.int .i64 (-1)) w := by kernel_rfl
theorem iy13 (w : World) : (Instr.index 127 (.agg row1) (.int .i64 3)).run Tryz.prog w = .ok (.int .i64 (-1)) w := by kernel_rfl
theorem iy14 (w : World) : (Instr.index 127 (.agg row1) (.int .i64 4)).run Tryz.prog w = .ok (.int .i64 3) w := by kernel_rfl
theorem iy15 (w : World) : (Instr.index 127 (.agg row1) (.int .i64 5)).run Tryz.prog w = .ok (.int .i64 (-1)) w := by kernel_rfl
theorem iy16 (w : World) : (Instr.index 127 (.agg row1) (.int .i64 6)).run Tryz.prog w = .ok (.int .i64 0) w := by kernel_rfl
theorem iy20 (w : World) : (Instr.index 127 (.agg row2) (.int .i64 0)).run Tryz.prog w = .ok (.int .i64 1) w := by kernel_rfl
theorem iy21 (w : World) : (Instr.index 127 (.agg row2) (.int .i64 1)).run Tryz.prog w = .ok (.int .i64 (-1)) w := by kernel_rfl
theorem iy22 (w : World) : (Instr.index 127 (.agg row2) (.int .i64 2)).run Tryz.prog w = .ok (.int .i64 (-1)) w := by kernel_rfl
theorem iy23 (w : World) : (Instr.index 127 (.agg row2) (.int .i64 3)).run Tryz.prog w = .ok (.int .i64 0) w := by kernel_rfl
theorem iy24 (w : World) : (Instr.index 127 (.agg row2) (.int .i64 4)).run Tryz.prog w = .ok (.int .i64 (-1)) w := by kernel_rfl
theorem iy25 (w : World) : (Instr.index 127 (.agg row2) (.int .i64 5)).run Tryz.prog w = .ok (.int .i64 1) w := by kernel_rfl
theorem iy26 (w : World) : (Instr.index 127 (.agg row2) (.int .i64 6)).run Tryz.prog w = .ok (.int .i64 (-1)) w := by kernel_rfl
theorem iy30 (w : World) : (Instr.index 127 (.agg row3) (.int .i64 0)).run Tryz.prog w = .ok (.int .i64 (-1)) w := by kernel_rfl
theorem iy31 (w : World) : (Instr.index 127 (.agg row3) (.int .i64 1)).run Tryz.prog w = .ok (.int .i64 0) w := by kernel_rfl
theorem iy32 (w : World) : (Instr.index 127 (.agg row3) (.int .i64 2)).run Tryz.prog w = .ok (.int .i64 (-1)) w := by kernel_rfl
theorem iy33 (w : World) : (Instr.index 127 (.agg row3) (.int .i64 3)).run Tryz.prog w = .ok (.int .i64 (-1)) w := by kernel_rfl
theorem iy34 (w : World) : (Instr.index 127 (.agg row3) (.int .i64 4)).run Tryz.prog w = .ok (.int .i64 (-1)) w := by kernel_rfl
theorem iy35 (w : World) : (Instr.index 127 (.agg row3) (.int .i64 5)).run Tryz.prog w = .ok (.int .i64 (-1)) w := by kernel_rfl
theorem iy36 (w : World) : (Instr.index 127 (.agg row3) (.int .i64 6)).run Tryz.prog w = .ok (.int .i64 0) w := by kernel_rfl
theorem next00 (w : World) : Calls Tryz.prog 77 #[.int .i64 0, .int .i64 0] w fun x w' => x = .returned (.tuple #[.int .i64 1, .bool true]) ∧ Below w.heap.size w w' := by
 have i1 := ix0
 have i2 := iy00
 go_enter Tryz.func77, Tryz.ntmps77
 go_wp2_with (go_at_call 104; refine (zo0 _).mono ?_; rintro e w' ⟨rfl, bs, rfl⟩)
 go_ret2
 exact ⟨rfl, by go_grown⟩
theorem next01 (w : World) : Calls Tryz.prog 77 #[.int .i64 0, .int .i64 1] w fun x w' => x = .returned (.tuple #[.int .i64 0, .bool false]) ∧ Below w.heap.size w w' := by
 have i1 := ix0
 have i2 := iy01
 go_enter Tryz.func77, Tryz.ntmps77
 go_wp2_with (go_at_call 104; refine (zo0 _).mono ?_; rintro e w' ⟨rfl, bs, rfl⟩)
 go_ret2
 exact ⟨rfl, by go_grown⟩
theorem next02 (w : World) : Calls Tryz.prog 77 #[.int .i64 0, .int .i64 2] w fun x w' => x = .returned (.tuple #[.int .i64 2, .bool true]) ∧ Below w.heap.size w w' := by
 have i1 := ix0
 have i2 := iy02
 go_enter Tryz.func77, Tryz.ntmps77
 go_wp2_with (go_at_call 104; refine (zo0 _).mono ?_; rintro e w' ⟨rfl, bs, rfl⟩)
 go_ret2
 exact ⟨rfl, by go_grown⟩
theorem next03 (w : World) : Calls Tryz.prog 77 #[.int .i64 0, .int .i64 3] w fun x w' => x = .returned (.tuple #[.int .i64 0, .bool false]) ∧ Below w.heap.size w w' := by
 have i1 := ix0
 have i2 := iy03
 go_enter Tryz.func77, Tryz.ntmps77
 go_wp2_with (go_at_call 104; refine (zo0 _).mono ?_; rintro e w' ⟨rfl, bs, rfl⟩)
 go_ret2
 exact ⟨rfl, by go_grown⟩
theorem next04 (w : World) : Calls Tryz.prog 77 #[.int .i64 0, .int .i64 4] w fun x w' => x = .returned (.tuple #[.int .i64 0, .bool false]) ∧ Below w.heap.size w w' := by
 have i1 := ix0
 have i2 := iy04
 go_enter Tryz.func77, Tryz.ntmps77
 go_wp2_with (go_at_call 104; refine (zo0 _).mono ?_; rintro e w' ⟨rfl, bs, rfl⟩)
 go_ret2
 exact ⟨rfl, by go_grown⟩
theorem next05 (w : World) : Calls Tryz.prog 77 #[.int .i64 0, .int .i64 5] w fun x w' => x = .returned (.tuple #[.int .i64 1, .bool true]) ∧ Below w.heap.size w w' := by
 have i1 := ix0
 have i2 := iy05
 go_enter Tryz.func77, Tryz.ntmps77
 go_wp2_with (go_at_call 104; refine (zo0 _).mono ?_; rintro e w' ⟨rfl, bs, rfl⟩)
 go_ret2
 exact ⟨rfl, by go_grown⟩
theorem next06 (w : World) : Calls Tryz.prog 77 #[.int .i64 0, .int .i64 6] w fun x w' => x = .returned (.tuple #[.int .i64 0, .bool false]) ∧ Below w.heap.size w w' := by
 have i1 := ix0
 have i2 := iy06
 go_enter Tryz.func77, Tryz.ntmps77
 go_wp2_with (go_at_call 104; refine (zo0 _).mono ?_; rintro e w' ⟨rfl, bs, rfl⟩)
 go_ret2
 exact ⟨rfl, by go_grown⟩
theorem next10 (w : World) : Calls Tryz.prog 77 #[.int .i64 1, .int .i64 0] w fun x w' => x = .returned (.tuple #[.int .i64 1, .bool false]) ∧ Below w.heap.size w w' := by
 have i1 := ix1
 have i2 := iy10
 go_enter Tryz.func77, Tryz.ntmps77
 go_wp2_with (go_at_call 104; refine (zo0 _).mono ?_; rintro e w' ⟨rfl, bs, rfl⟩)
 go_ret2
 exact ⟨rfl, by go_grown⟩
theorem next11 (w : World) : Calls Tryz.prog 77 #[.int .i64 1, .int .i64 1] w fun x w' => x = .returned (.tuple #[.int .i64 0, .bool true]) ∧ Below w.heap.size w w' := by
 have i1 := ix1
 have i2 := iy11
 go_enter Tryz.func77, Tryz.ntmps77
 go_wp2_with (go_at_call 104; refine (zo0 _).mono ?_; rintro e w' ⟨rfl, bs, rfl⟩)
 go_ret2
 exact ⟨rfl, by go_grown⟩
theorem next12 (w : World) : Calls Tryz.prog 77 #[.int .i64 1, .int .i64 2] w fun x w' => x = .returned (.tuple #[.int .i64 1, .bool false]) ∧ Below w.heap.size w w' := by
 have i1 := ix1
 have i2 := iy12
 go_enter Tryz.func77, Tryz.ntmps77
 go_wp2_with (go_at_call 104; refine (zo0 _).mono ?_; rintro e w' ⟨rfl, bs, rfl⟩)
 go_ret2
 exact ⟨rfl, by go_grown⟩
theorem next13 (w : World) : Calls Tryz.prog 77 #[.int .i64 1, .int .i64 3] w fun x w' => x = .returned (.tuple #[.int .i64 1, .bool false]) ∧ Below w.heap.size w w' := by
 have i1 := ix1
 have i2 := iy13
 go_enter Tryz.func77, Tryz.ntmps77
 go_wp2_with (go_at_call 104; refine (zo0 _).mono ?_; rintro e w' ⟨rfl, bs, rfl⟩)
 go_ret2
 exact ⟨rfl, by go_grown⟩
theorem next14 (w : World) : Calls Tryz.prog 77 #[.int .i64 1, .int .i64 4] w fun x w' => x = .returned (.tuple #[.int .i64 3, .bool true]) ∧ Below w.heap.size w w' := by
 have i1 := ix1
 have i2 := iy14
 go_enter Tryz.func77, Tryz.ntmps77
 go_wp2_with (go_at_call 104; refine (zo0 _).mono ?_; rintro e w' ⟨rfl, bs, rfl⟩)
 go_ret2
 exact ⟨rfl, by go_grown⟩
theorem next15 (w : World) : Calls Tryz.prog 77 #[.int .i64 1, .int .i64 5] w fun x w' => x = .returned (.tuple #[.int .i64 1, .bool false]) ∧ Below w.heap.size w w' := by
 have i1 := ix1
 have i2 := iy15
 go_enter Tryz.func77, Tryz.ntmps77
 go_wp2_with (go_at_call 104; refine (zo0 _).mono ?_; rintro e w' ⟨rfl, bs, rfl⟩)
 go_ret2
 exact ⟨rfl, by go_grown⟩
theorem next16 (w : World) : Calls Tryz.prog 77 #[.int .i64 1, .int .i64 6] w fun x w' => x = .returned (.tuple #[.int .i64 0, .bool true]) ∧ Below w.heap.size w w' := by
 have i1 := ix1
 have i2 := iy16
 go_enter Tryz.func77, Tryz.ntmps77
 go_wp2_with (go_at_call 104; refine (zo0 _).mono ?_; rintro e w' ⟨rfl, bs, rfl⟩)
 go_ret2
 exact ⟨rfl, by go_grown⟩
theorem next20 (w : World) : Calls Tryz.prog 77 #[.int .i64 2, .int .i64 0] w fun x w' => x = .returned (.tuple #[.int .i64 1, .bool true]) ∧ Below w.heap.size w w' := by
 have i1 := ix2
 have i2 := iy20
 go_enter Tryz.func77, Tryz.ntmps77
 go_wp2_with (go_at_call 104; refine (zo0 _).mono ?_; rintro e w' ⟨rfl, bs, rfl⟩)
 go_ret2
 exact ⟨rfl, by go_grown⟩
theorem next21 (w : World) : Calls Tryz.prog 77 #[.int .i64 2, .int .i64 1] w fun x w' => x = .returned (.tuple #[.int .i64 2, .bool false]) ∧ Below w.heap.size w w' := by
 have i1 := ix2
 have i2 := iy21
 go_enter Tryz.func77, Tryz.ntmps77
 go_wp2_with (go_at_call 104; refine (zo0 _).mono ?_; rintro e w' ⟨rfl, bs, rfl⟩)
 go_ret2
 exact ⟨rfl, by go_grown⟩
theorem next22 (w : World) : Calls Tryz.prog 77 #[.int .i64 2, .int .i64 2] w fun x w' => x = .returned (.tuple #[.int .i64 2, .bool false]) ∧ Below w.heap.size w w' := by
 have i1 := ix2
 have i2 := iy22
 go_enter Tryz.func77, Tryz.ntmps77
 go_wp2_with (go_at_call 104; refine (zo0 _).mono ?_; rintro e w' ⟨rfl, bs, rfl⟩)
 go_ret2
 exact ⟨rfl, by go_grown⟩
theorem next23 (w : World) : Calls Tryz.prog 77 #[.int .i64 2, .int .i64 3] w fun x w' => x = .returned (.tuple #[.int .i64 0, .bool true]) ∧ Below w.heap.size w w' := by
 have i1 := ix2
 have i2 := iy23
 go_enter Tryz.func77, Tryz.ntmps77
 go_wp2_with (go_at_call 104; refine (zo0 _).mono ?_; rintro e w' ⟨rfl, bs, rfl⟩)
 go_ret2
 exact ⟨rfl, by go_grown⟩
theorem next24 (w : World) : Calls Tryz.prog 77 #[.int .i64 2, .int .i64 4] w fun x w' => x = .returned (.tuple #[.int .i64 2, .bool false]) ∧ Below w.heap.size w w' := by
 have i1 := ix2
 have i2 := iy24
 go_enter Tryz.func77, Tryz.ntmps77
 go_wp2_with (go_at_call 104; refine (zo0 _).mono ?_; rintro e w' ⟨rfl, bs, rfl⟩)
 go_ret2
 exact ⟨rfl, by go_grown⟩
theorem next25 (w : World) : Calls Tryz.prog 77 #[.int .i64 2, .int .i64 5] w fun x w' => x = .returned (.tuple #[.int .i64 1, .bool true]) ∧ Below w.heap.size w w' := by
 have i1 := ix2
 have i2 := iy25
 go_enter Tryz.func77, Tryz.ntmps77
 go_wp2_with (go_at_call 104; refine (zo0 _).mono ?_; rintro e w' ⟨rfl, bs, rfl⟩)
 go_ret2
 exact ⟨rfl, by go_grown⟩
theorem next26 (w : World) : Calls Tryz.prog 77 #[.int .i64 2, .int .i64 6] w fun x w' => x = .returned (.tuple #[.int .i64 2, .bool false]) ∧ Below w.heap.size w w' := by
 have i1 := ix2
 have i2 := iy26
 go_enter Tryz.func77, Tryz.ntmps77
 go_wp2_with (go_at_call 104; refine (zo0 _).mono ?_; rintro e w' ⟨rfl, bs, rfl⟩)
 go_ret2
 exact ⟨rfl, by go_grown⟩
theorem next30 (w : World) : Calls Tryz.prog 77 #[.int .i64 3, .int .i64 0] w fun x w' => x = .returned (.tuple #[.int .i64 3, .bool false]) ∧ Below w.heap.size w w' := by
 have i1 := ix3
 have i2 := iy30
 go_enter Tryz.func77, Tryz.ntmps77
 go_wp2_with (go_at_call 104; refine (zo0 _).mono ?_; rintro e w' ⟨rfl, bs, rfl⟩)
 go_ret2
 exact ⟨rfl, by go_grown⟩
theorem next31 (w : World) : Calls Tryz.prog 77 #[.int .i64 3, .int .i64 1] w fun x w' => x = .returned (.tuple #[.int .i64 0, .bool true]) ∧ Below w.heap.size w w' := by
 have i1 := ix3
 have i2 := iy31
 go_enter Tryz.func77, Tryz.ntmps77
 go_wp2_with (go_at_call 104; refine (zo0 _).mono ?_; rintro e w' ⟨rfl, bs, rfl⟩)
 go_ret2
 exact ⟨rfl, by go_grown⟩
theorem next32 (w : World) : Calls Tryz.prog 77 #[.int .i64 3, .int .i64 2] w fun x w' => x = .returned (.tuple #[.int .i64 3, .bool false]) ∧ Below w.heap.size w w' := by
 have i1 := ix3
 have i2 := iy32
 go_enter Tryz.func77, Tryz.ntmps77
 go_wp2_with (go_at_call 104; refine (zo0 _).mono ?_; rintro e w' ⟨rfl, bs, rfl⟩)
 go_ret2
 exact ⟨rfl, by go_grown⟩
theorem next33 (w : World) : Calls Tryz.prog 77 #[.int .i64 3, .int .i64 3] w fun x w' => x = .returned (.tuple #[.int .i64 3, .bool false]) ∧ Below w.heap.size w w' := by
 have i1 := ix3
 have i2 := iy33
 go_enter Tryz.func77, Tryz.ntmps77
 go_wp2_with (go_at_call 104; refine (zo0 _).mono ?_; rintro e w' ⟨rfl, bs, rfl⟩)
 go_ret2
 exact ⟨rfl, by go_grown⟩
theorem next34 (w : World) : Calls Tryz.prog 77 #[.int .i64 3, .int .i64 4] w fun x w' => x = .returned (.tuple #[.int .i64 3, .bool false]) ∧ Below w.heap.size w w' := by
 have i1 := ix3
 have i2 := iy34
 go_enter Tryz.func77, Tryz.ntmps77
 go_wp2_with (go_at_call 104; refine (zo0 _).mono ?_; rintro e w' ⟨rfl, bs, rfl⟩)
 go_ret2
 exact ⟨rfl, by go_grown⟩
theorem next35 (w : World) : Calls Tryz.prog 77 #[.int .i64 3, .int .i64 5] w fun x w' => x = .returned (.tuple #[.int .i64 3, .bool false]) ∧ Below w.heap.size w w' := by
 have i1 := ix3
 have i2 := iy35
 go_enter Tryz.func77, Tryz.ntmps77
 go_wp2_with (go_at_call 104; refine (zo0 _).mono ?_; rintro e w' ⟨rfl, bs, rfl⟩)
 go_ret2
 exact ⟨rfl, by go_grown⟩
theorem next36 (w : World) : Calls Tryz.prog 77 #[.int .i64 3, .int .i64 6] w fun x w' => x = .returned (.tuple #[.int .i64 0, .bool true]) ∧ Below w.heap.size w w' := by
 have i1 := ix3
 have i2 := iy36
 go_enter Tryz.func77, Tryz.ntmps77
 go_wp2_with (go_at_call 104; refine (zo0 _).mono ?_; rintro e w' ⟨rfl, bs, rfl⟩)
 go_ret2
 exact ⟨rfl, by go_grown⟩
theorem next_s0 (s e : Int) (h : s < 0) (w : World) : Calls Tryz.prog 77 #[.int .i64 s, .int .i64 e] w fun x w' => x = .returned (.tuple #[.int .i64 s, .bool false]) ∧ w' = w := by
 go_enter Tryz.func77, Tryz.ntmps77
 go_wp2
 go_ret2
 exact ⟨rfl, rfl⟩
theorem next_s1 (s e : Int) (h0 : 0 ≤ s) (h : 4 ≤ s) (w : World) : Calls Tryz.prog 77 #[.int .i64 s, .int .i64 e] w fun x w' => x = .returned (.tuple #[.int .i64 s, .bool false]) ∧ w' = w := by
 go_enter Tryz.func77, Tryz.ntmps77
 go_wp2
 go_ret2
 exact ⟨rfl, rfl⟩
theorem next_e0 (s e : Int) (h0 : 0 ≤ s) (h : s < 4) (h1 : e < 0) (w : World) : Calls Tryz.prog 77 #[.int .i64 s, .int .i64 e] w fun x w' => x = .returned (.tuple #[.int .i64 s, .bool false]) ∧ w' = w := by
 go_enter Tryz.func77, Tryz.ntmps77
 go_wp2
 go_ret2
 exact ⟨rfl, rfl⟩
theorem next_e1 (s e : Int) (h0 : 0 ≤ s) (h : s < 4) (h1 : 0 ≤ e) (h2 : 7 ≤ e) (w : World) : Calls Tryz.prog 77 #[.int .i64 s, .int .i64 e] w fun x w' => x = .returned (.tuple #[.int .i64 s, .bool false]) ∧ w' = w := by
 go_enter Tryz.func77, Tryz.ntmps77
 go_wp2
 go_ret2
 exact ⟨rfl, rfl⟩
theorem range4 {s : Int} (h0 : 0 ≤ s) (h1 : s < 4) : s = 0 ∨ s = 1 ∨ s = 2 ∨ s = 3 := by omega
theorem range7 {s : Int} (h0 : 0 ≤ s) (h1 : s < 7) : s = 0 ∨ s = 1 ∨ s = 2 ∨ s = 3 ∨ s = 4 ∨ s = 5 ∨ s = 6 := by omega
def state_Next.f (s e : Int) : Option (Int × Bool) := some (if toS s e = -1 then (s, false) else (toS s e, true))
theorem to_out (s e : Int) (h : s < 0 ∨ 4 ≤ s ∨ e < 0 ∨ 7 ≤ e) : toS s e = -1 := by
 unfold toS
 repeat' split
 all_goals first | rfl | omega
theorem state_Next.calls (a0 a1 : Int) (r1 : Int) (r2 : Bool) (w : World) (h : state_Next.f a0 a1 = some (r1, r2)) :
  Calls Tryz.prog 77 #[.int .i64 a0, .int .i64 a1] w fun e w' => e = .returned (.tuple #[.int .i64 r1, .bool r2]) ∧ Below w.heap.size w w' := by
 have out : (a0 < 0 ∨ 4 ≤ a0 ∨ a1 < 0 ∨ 7 ≤ a1) → r1 = a0 ∧ r2 = false := fun ho => by
  unfold state_Next.f at h
  rw [if_pos (to_out a0 a1 ho)] at h
  injection h with h
  injection h with h1 h2
  exact ⟨h1.symm, h2.symm⟩
 by_cases c1 : a0 < 0
 ·obtain ⟨rfl, rfl⟩ := out (by omega)
  exact (next_s0 _ a1 c1 w).mono fun _ _ ⟨he, hw⟩ => ⟨he, by rw [hw]; exact Below.refl _ _⟩
 by_cases c2 : 4 ≤ a0
 ·obtain ⟨rfl, rfl⟩ := out (by omega)
  exact (next_s1 _ a1 (by omega) c2 w).mono fun _ _ ⟨he, hw⟩ => ⟨he, by rw [hw]; exact Below.refl _ _⟩
 by_cases c3 : a1 < 0
 ·obtain ⟨rfl, rfl⟩ := out (by omega)
  exact (next_e0 _ a1 (by omega) (by omega) c3 w).mono fun _ _ ⟨he, hw⟩ => ⟨he, by rw [hw]; exact Below.refl _ _⟩
 by_cases c4 : 7 ≤ a1
 ·obtain ⟨rfl, rfl⟩ := out (by omega)
  exact (next_e1 _ a1 (by omega) (by omega) (by omega) c4 w).mono fun _ _ ⟨he, hw⟩ => ⟨he, by rw [hw]; exact Below.refl _ _⟩
 clear out
 rcases range4 (s := a0) (by omega) (by omega) with rfl | rfl | rfl | rfl <;> rcases range7 (s := a1) (by omega) (by omega) with rfl | rfl | rfl | rfl | rfl | rfl | rfl
 ·(obtain ⟨rfl, rfl⟩ : 1 = r1 ∧ true = r2 := by simpa [state_Next.f, toS] using h); exact next00 w
 ·(obtain ⟨rfl, rfl⟩ : 0 = r1 ∧ false = r2 := by simpa [state_Next.f, toS] using h); exact next01 w
 ·(obtain ⟨rfl, rfl⟩ : 2 = r1 ∧ true = r2 := by simpa [state_Next.f, toS] using h); exact next02 w
 ·(obtain ⟨rfl, rfl⟩ : 0 = r1 ∧ false = r2 := by simpa [state_Next.f, toS] using h); exact next03 w
 ·(obtain ⟨rfl, rfl⟩ : 0 = r1 ∧ false = r2 := by simpa [state_Next.f, toS] using h); exact next04 w
 ·(obtain ⟨rfl, rfl⟩ : 1 = r1 ∧ true = r2 := by simpa [state_Next.f, toS] using h); exact next05 w
 ·(obtain ⟨rfl, rfl⟩ : 0 = r1 ∧ false = r2 := by simpa [state_Next.f, toS] using h); exact next06 w
 ·(obtain ⟨rfl, rfl⟩ : 1 = r1 ∧ false = r2 := by simpa [state_Next.f, toS] using h); exact next10 w
 ·(obtain ⟨rfl, rfl⟩ : 0 = r1 ∧ true = r2 := by simpa [state_Next.f, toS] using h); exact next11 w
 ·(obtain ⟨rfl, rfl⟩ : 1 = r1 ∧ false = r2 := by simpa [state_Next.f, toS] using h); exact next12 w
 ·(obtain ⟨rfl, rfl⟩ : 1 = r1 ∧ false = r2 := by simpa [state_Next.f, toS] using h); exact next13 w
 ·(obtain ⟨rfl, rfl⟩ : 3 = r1 ∧ true = r2 := by simpa [state_Next.f, toS] using h); exact next14 w
 ·(obtain ⟨rfl, rfl⟩ : 1 = r1 ∧ false = r2 := by simpa [state_Next.f, toS] using h); exact next15 w
 ·(obtain ⟨rfl, rfl⟩ : 0 = r1 ∧ true = r2 := by simpa [state_Next.f, toS] using h); exact next16 w
 ·(obtain ⟨rfl, rfl⟩ : 1 = r1 ∧ true = r2 := by simpa [state_Next.f, toS] using h); exact next20 w
 ·(obtain ⟨rfl, rfl⟩ : 2 = r1 ∧ false = r2 := by simpa [state_Next.f, toS] using h); exact next21 w
 ·(obtain ⟨rfl, rfl⟩ : 2 = r1 ∧ false = r2 := by simpa [state_Next.f, toS] using h); exact next22 w
 ·(obtain ⟨rfl, rfl⟩ : 0 = r1 ∧ true = r2 := by simpa [state_Next.f, toS] using h); exact next23 w
 ·(obtain ⟨rfl, rfl⟩ : 2 = r1 ∧ false = r2 := by simpa [state_Next.f, toS] using h); exact next24 w
 ·(obtain ⟨rfl, rfl⟩ : 1 = r1 ∧ true = r2 := by simpa [state_Next.f, toS] using h); exact next25 w
 ·(obtain ⟨rfl, rfl⟩ : 2 = r1 ∧ false = r2 := by simpa [state_Next.f, toS] using h); exact next26 w
 ·(obtain ⟨rfl, rfl⟩ : 3 = r1 ∧ false = r2 := by simpa [state_Next.f, toS] using h); exact next30 w
 ·(obtain ⟨rfl, rfl⟩ : 0 = r1 ∧ true = r2 := by simpa [state_Next.f, toS] using h); exact next31 w
 ·(obtain ⟨rfl, rfl⟩ : 3 = r1 ∧ false = r2 := by simpa [state_Next.f, toS] using h); exact next32 w
 ·(obtain ⟨rfl, rfl⟩ : 3 = r1 ∧ false = r2 := by simpa [state_Next.f, toS] using h); exact next33 w
 ·(obtain ⟨rfl, rfl⟩ : 3 = r1 ∧ false = r2 := by simpa [state_Next.f, toS] using h); exact next34 w
 ·(obtain ⟨rfl, rfl⟩ : 3 = r1 ∧ false = r2 := by simpa [state_Next.f, toS] using h); exact next35 w
 ·(obtain ⟨rfl, rfl⟩ : 0 = r1 ∧ true = r2 := by simpa [state_Next.f, toS] using h); exact next36 w
end
end Go.Proofs.YtmlmiocomlehgaaGreat.Man
end
section
namespace Go.Proofs.YtmlmiocomlehgaaGreat.Man
open Go.RowKit Go.Proofs.YtmlmiocomlehgaaGreatW.PrintWords Go.Proofs.YtmlmiocomlehgaaGreatW.PrintLast Go.Proofs.YtmlmiocomlehgaaGreatW.PrintMore Go.Proofs.YtmlmiocomlehgaaGreat.PA Go.Proofs.YtmlmiocomlehgaaGreat.PF Go.Proofs.YtmlmiocomlehgaaGreat.Hid
section
variable {w0 w : World} {g : Nat}
def fstP (p : Nat → Bool) : Nat → Nat → Int
 | 0, _ => -1
 | n + 1, j => if p j = true then (j : Int) else fstP p n (j + 1)
theorem rdP {W : World} {A : Option Addr} {xs : List Nat} (h : kP.C W A xs.length xs) (k : Nat) (x : Nat) (hx : xs[k]? = some x) : ∃ ad, A = some ad ∧ W.cell? (ad.add k) = some (ptr x) := by
 have hlt : k < xs.length := (List.getElem?_eq_some_iff.1 hx).1
 obtain ⟨ad, c, e, _, hK, hc0⟩ := Kd.C_get h (0 : Nat) (k : Int) (by omega) (by omega)
 refine ⟨ad, e, ?_⟩
 have h1 : c = [ptr (xs.getD (k : Int).toNat 0)] := hK
 have := hc0 0 (ptr x) (by rw [h1]; simp [List.getD, hx])
 simpa [kP, Kd.scalar] using this
theorem idx_at1 (p : Nat → Bool) (D : Nat) (xs : List Nat) (A : Option Addr) (n : Nat) (hC : kP.C w A xs.length xs) (hn : xs.length ≤ n)
  (HD : ∀ W, Below w.heap.size w W → ∀ k x, xs[k]? = some x → Calls Tryz.prog 103 #[ptr x, ptr D] W fun e w' => e = .returned (.bool (p k)) ∧ Below W.heap.size W w') :
  Calls Tryz.prog 102 #[.slice A xs.length n, .func (.func 103) #[] #[ptr D]] w fun e w' => e = .returned (.int .i64 (fstP p xs.length 0)) ∧ Below w.heap.size w w' := by
 have HC := as0 hC
 have HDD := as0 HD
 have hlen : xs.length ≤ 9223372036854775807 := hC.2.1
 obtain ⟨RES, hres⟩ : ∃ R, R = fstP p xs.length 0 := ⟨_, rfl⟩
 rw [← hres]
 have HRES := as0 hres.symm
 clear hC HD hres
 go_enter Tryz.func102, Tryz.ntmps102
 go_wp2
 go_loopw [8] (fun v8 wr => ∃ k : Nat, k ≤ xs.length ∧ v8 = .int .i64 k ∧ Aside0 (fstP p (xs.length - k) k = RES) ∧ Aside0 (Below w.heap.size w wr)) (fun v8 _ => xs.length - (intOf v8).toNat)
 case atStart => exact ⟨0, Nat.zero_le _, rfl, HRES, ⟨Below.refl _ _⟩⟩
 case round =>
  obtain ⟨k, hk, rfl, HF, HB⟩ := hrel
  by_cases hlt : k < xs.length
  ·obtain ⟨x, hx⟩ : ∃ x, xs[k]? = some x := ⟨_, List.getElem?_eq_getElem hlt⟩
   obtain ⟨ad, rfl, hx0⟩ := rdP (Kd.C_below HC.out HB.out) k x hx
   have hF := HF.out
   rw [show xs.length - k = (xs.length - (k + 1)) + 1 by omega, fstP] at hF
   have h0k : (0 : Int) ≤ (k : Int) := by omega
   have hkl : (k : Int) < (xs.length : Int) := by omega
   have HX := as0 hx
   clear hx HF
   cases hd : p k with
   | true =>
    rw [hd, if_pos rfl] at hF
    subst hF
    go_wp2_with (go_at_call 103; refine (HDD.out _ HB.out k x HX.out).mono ?_; rintro e w2 ⟨rfl, hb2⟩; rw [hd])
    go_ret
    exact ⟨rfl, z10 HB.out hb2⟩
   | false =>
    rw [hd, if_neg (by decide)] at hF
    have HF := as0 hF
    clear hF
    go_wp2_with (go_at_call 103; refine (HDD.out _ HB.out k x HX.out).mono ?_; rintro e w2 ⟨rfl, hb2⟩; rw [hd])
    exact ⟨⟨k + 1, by omega, by rw [show ((k : Int) + 1) = ((k + 1 : Nat) : Int) by omega], HF, ⟨z10 HB.out hb2⟩⟩, by simp [intOf]; omega⟩
  ·have hke : k = xs.length := by omega
   subst hke
   have hF := HF.out
   rw [Nat.sub_self] at hF
   have hF2 : -1 = RES := hF
   subst hF2
   clear hk HF hF
   go_wp2
   go_ret
   exact ⟨rfl, HB.out⟩
theorem zfb (p : Nat → Bool) (D : Nat) (xs : List Nat) (A : Option Addr) (n : Nat) (hC : kP.C w A xs.length xs) (hn : xs.length ≤ n)
  (HD : ∀ W, Below w.heap.size w W → ∀ k x, xs[k]? = some x → Calls Tryz.prog 86 #[ptr x, ptr D] W fun e w' => e = .returned (.bool (p k)) ∧ Below W.heap.size W w') :
  Calls Tryz.prog 102 #[.slice A xs.length n, .func (.func 86) #[] #[ptr D]] w fun e w' => e = .returned (.int .i64 (fstP p xs.length 0)) ∧ Below w.heap.size w w' := by
 have HC := as0 hC
 have HDD := as0 HD
 have hlen : xs.length ≤ 9223372036854775807 := hC.2.1
 obtain ⟨RES, hres⟩ : ∃ R, R = fstP p xs.length 0 := ⟨_, rfl⟩
 rw [← hres]
 have HRES := as0 hres.symm
 clear hC HD hres
 go_enter Tryz.func102, Tryz.ntmps102
 go_wp2
 go_loopw [8] (fun v8 wr => ∃ k : Nat, k ≤ xs.length ∧ v8 = .int .i64 k ∧ Aside0 (fstP p (xs.length - k) k = RES) ∧ Aside0 (Below w.heap.size w wr)) (fun v8 _ => xs.length - (intOf v8).toNat)
 case atStart => exact ⟨0, Nat.zero_le _, rfl, HRES, ⟨Below.refl _ _⟩⟩
 case round =>
  obtain ⟨k, hk, rfl, HF, HB⟩ := hrel
  by_cases hlt : k < xs.length
  ·obtain ⟨x, hx⟩ : ∃ x, xs[k]? = some x := ⟨_, List.getElem?_eq_getElem hlt⟩
   obtain ⟨ad, rfl, hx0⟩ := rdP (Kd.C_below HC.out HB.out) k x hx
   have hF := HF.out
   rw [show xs.length - k = (xs.length - (k + 1)) + 1 by omega, fstP] at hF
   have h0k : (0 : Int) ≤ (k : Int) := by omega
   have hkl : (k : Int) < (xs.length : Int) := by omega
   have HX := as0 hx
   clear hx HF
   cases hd : p k with
   | true =>
    rw [hd, if_pos rfl] at hF
    subst hF
    go_wp2_with (go_at_call 86; refine (HDD.out _ HB.out k x HX.out).mono ?_; rintro e w2 ⟨rfl, hb2⟩; rw [hd])
    go_ret
    exact ⟨rfl, z10 HB.out hb2⟩
   | false =>
    rw [hd, if_neg (by decide)] at hF
    have HF := as0 hF
    clear hF
    go_wp2_with (go_at_call 86; refine (HDD.out _ HB.out k x HX.out).mono ?_; rintro e w2 ⟨rfl, hb2⟩; rw [hd])
    exact ⟨⟨k + 1, by omega, by rw [show ((k : Int) + 1) = ((k + 1 : Nat) : Int) by omega], HF, ⟨z10 HB.out hb2⟩⟩, by simp [intOf]; omega⟩
  ·have hke : k = xs.length := by omega
   subst hke
   have hF := HF.out
   rw [Nat.sub_self] at hF
   have hF2 : -1 = RES := hF
   subst hF2
   clear hk HF hF
   go_wp2
   go_ret
   exact ⟨rfl, HB.out⟩
def fstO (dl : Nat → Bool) : List Nat → Int → Int
 | [], _ => -1
 | x :: l, j => if dl x = true then j else fstO dl l (j + 1)
theorem z55 (dl : Nat → Bool) : ∀ (xs : List Nat) (j : Int), 0 ≤ j → fstO dl xs j = -1 → ∀ x ∈ xs, dl x = false
 | [], _, _, _ => fun x hx => by simp at hx
 | y :: l, j, hj, h => fun x hx => by
  unfold fstO at h
  by_cases c : dl y = true
  ·rw [if_pos c] at h; omega
  ·rw [if_neg c] at h
   rcases List.mem_cons.1 hx with rfl | hx
   ·simpa using c
   ·exact z55 dl l (j + 1) (by omega) h x hx
theorem ze8 (dl : Nat → Bool) : ∀ (xs : List Nat) (j : Int), fstO dl xs j = -1 ∨ ∃ i : Nat, fstO dl xs j = j + i ∧ i < xs.length ∧ (∀ k (h : k < xs.length), k < i → dl xs[k] = false) ∧ ∀ h : i < xs.length, dl xs[i] = true
 | [], _ => .inl rfl
 | y :: l, j => by
  unfold fstO
  by_cases c : dl y = true
  ·rw [if_pos c]
   exact .inr ⟨0, by simp, by simp, fun k _ h => by omega, fun _ => c⟩
  ·rw [if_neg c]
   rcases ze8 dl l (j + 1) with h | ⟨i, h1, h2, h3, h4⟩
   ·exact .inl h
   ·refine .inr ⟨i + 1, by rw [h1]; omega, by simpa using h2, fun k hk hki => ?_, fun h => by simpa using h4 h2⟩
    cases k with
    | zero => simpa using c
    | succ k => simpa using h3 k (by simpa using hk) (by omega)
theorem fstO_P (dl : Nat → Bool) : ∀ (xs : List Nat) (p : Nat → Bool) (j : Nat), (∀ i x, xs[i]? = some x → p (j + i) = dl x) → fstP p xs.length j = fstO dl xs j
 | [], _, _, _ => rfl
 | x :: l, p, j, h => by
  have h0 := h 0 x rfl
  rw [Nat.add_zero] at h0
  have ih := fstO_P dl l p (j + 1) (fun i y hy => by
   have := h (i + 1) y (by simpa using hy)
   rwa [show j + 1 + i = j + (i + 1) by omega])
  rw [List.length_cons, fstP, fstO, h0, ih]
  rfl
theorem zx8 (dl : Nat → Bool) (D : Nat) (xs : List Nat) (A : Option Addr) (n : Nat) (hC : Kd.C kP w A xs.length xs) (hn : xs.length ≤ n)
  (HD : ∀ W, Below w.heap.size w W → ∀ x, x ∈ xs → Calls Tryz.prog 86 #[ptr x, ptr D] W fun e w' => e = .returned (.bool (dl x)) ∧ Below W.heap.size W w') :
  Calls Tryz.prog 102 #[.slice A xs.length n, .func (.func 86) #[] #[ptr D]] w fun e w' => e = .returned (.int .i64 (fstO dl xs 0)) ∧ Below w.heap.size w w' := by
 have := zfb (fun k => dl (xs.getD k 0)) D xs A n hC hn (fun W hb k x hx => by
  have e : dl (xs.getD k 0) = dl x := by simp [List.getD, hx]
  show Calls Tryz.prog 86 #[ptr x, ptr D] W fun e w' => e = .returned (.bool (dl (xs.getD k 0))) ∧ Below W.heap.size W w'
  rw [e]
  exact HD W hb x (List.mem_of_getElem? hx))
 rwa [fstO_P dl xs _ 0 (fun i x hx => by simp [List.getD, hx])] at this
def keptP (dl : Nat → Bool) (xs : List Nat) : List Nat := xs.filter (fun x => !dl x)
theorem zua (dl : Nat → Bool) (D : Nat) (xs : List Nat) (A : Option Addr) (n base : Nat) (hR : Kd.R kP 80 w base (fun _ => True) (.slice A xs.length n) xs)
  (HD : ∀ W, Below w.heap.size w W → ∀ x, x ∈ xs → Calls Tryz.prog 86 #[ptr x, ptr D] W fun e w' => e = .returned (.bool (dl x)) ∧ Below W.heap.size W w') (h : fstO dl xs 0 = -1) :
  Calls Tryz.prog 85 #[.slice A xs.length n, .func (.func 86) #[] #[ptr D]] w fun e w' => e = .returned (.slice A xs.length n) ∧
   Kd.R kP 80 w' base (fun _ => True) (.slice A xs.length n) (keptP dl xs) ∧ Below w.heap.size w w' := by
 have hnC := Kd.R_reads' hR
 have HX := as0 (zx8 (w := w) dl D xs A n hnC.2.2 hnC.2.1 HD)
 have HR0 := as0 hR
 clear hnC hR HD
 have hall := z55 dl xs 0 (by omega) h
 have hk : keptP dl xs = xs := by
  unfold keptP
  rw [List.filter_eq_self]
  intro x hx
  simp [hall x hx]
 rw [hk]
 rw [h] at HX
 clear h hall hk
 go_enter Tryz.func85, Tryz.ntmps85
 go_wp2_with (go_at_call 102; refine HX.out.mono ?_; rintro e w' ⟨rfl, hb⟩)
 go_ret
 exact ⟨rfl, Kd.R_below HR0.out hb, hb⟩
theorem delP_raw (dl : Nat → Bool) (D : Nat) (xs : List Nat) (b n base : Nat) (hR : Kd.R kP 80 w base (fun _ => True) (.slice (some ⟨b, 0, none⟩) xs.length n) xs)
  (HD : ∀ W, w.grownBy W (some b) → ∀ x, x ∈ xs → Calls Tryz.prog 86 #[ptr x, ptr D] W fun e w' => e = .returned (.bool (dl x)) ∧ Below W.heap.size W w') :
  Calls Tryz.prog 85 #[.slice (some ⟨b, 0, none⟩) xs.length n, .func (.func 86) #[] #[ptr D]] w fun e w' => ∃ m : Nat, e = .returned (.slice (some ⟨b, 0, none⟩) m n) ∧
   Kd.R kP 80 w' base (fun _ => True) (.slice (some ⟨b, 0, none⟩) m n) (keptP dl xs) ∧ w.grownBy w' (some b) := by
 have hnC := Kd.R_reads' hR
 have hn : xs.length ≤ n := hnC.2.1
 have hlen : xs.length ≤ 9223372036854775807 := hnC.2.2.2.1
 have HX := as0 (zx8 (w := w) dl D xs (some ⟨b, 0, none⟩) n hnC.2.2 hn (fun W hb => HD W ⟨hb.os, hb.tape, hb.output, hb.size, fun k hk _ => hb.block k hk⟩))
 have HR0 := as0 hR
 have HDD := as0 HD
 clear hnC hR HD
 rcases ze8 dl xs 0 with h | ⟨i0, h1, h2, h3, h4⟩
 ·have hall := z55 dl xs 0 (by omega) h
  have hk : keptP dl xs = xs := by
   unfold keptP
   rw [List.filter_eq_self]
   intro x hx
   simp [hall x hx]
  rw [hk]
  rw [h] at HX
  clear h hall hk
  go_enter Tryz.func85, Tryz.ntmps85
  go_wp2_with (go_at_call 102; refine HX.out.mono ?_; rintro e w' ⟨rfl, hb⟩)
  go_ret
  exact ⟨_, rfl, Kd.R_below HR0.out hb, ⟨hb.os, hb.tape, hb.output, hb.size, fun k hk _ => hb.block k hk⟩⟩
 ·rw [h1] at HX
  have HPRE : Aside0 (keptP dl (xs.take (i0 + 1)) = xs.take i0) := ⟨by
   rw [List.take_succ_eq_append_getElem h2]
   unfold keptP
   rw [List.filter_append, List.filter_eq_self.2 (fun x hx => ?_)]
   ·simp [h4 h2]
   ·obtain ⟨k, hk, rfl⟩ := List.mem_take_iff_getElem.1 hx
    have := h3 k (by omega) (by omega)
    simp [this]⟩
  have hi0 : ((0 : Int) + (i0 : Int)) = ((i0 : Nat) : Int) := by omega
  rw [hi0] at HX
  clear h1 h3 h4 hi0
  have hne : ((i0 : Int) = -1) = False := eq_false (by omega)
  have hne2 : decide ((i0 : Int) = -1) = false := decide_eq_false (by omega)
  have hne3 : ((i0 : Int) == -1) = false := by rw [beq_eq_false_iff_ne]; omega
  go_enter Tryz.func85, Tryz.ntmps85
  go_wp2_with (go_at_call 102; refine HX.out.mono ?_; rintro e w1 ⟨rfl, hb1⟩; have HB1 := as0 hb1; clear hb1)
  have HG1 : Aside0 (w.grownBy w1 (some b)) := ⟨⟨HB1.out.os, HB1.out.tape, HB1.out.output, HB1.out.size, fun k hk _ => HB1.out.block k hk⟩⟩
  have HR1 := as0 (Kd.R_below HR0.out HB1.out)
  go_loopw [5, 6] (fun v5 v6 wr => ∃ (i k : Nat) (cur : List Nat), i < k ∧ k ≤ xs.length ∧ v5 = .int .i64 i ∧ v6 = .int .i64 k ∧ cur.length = xs.length ∧ Aside0 (cur.take i = keptP dl (xs.take k)) ∧ Aside0 (cur.drop k = xs.drop k) ∧ Aside0 (Kd.R kP 80 wr base (fun _ => True) (.slice (some ⟨b, 0, none⟩) cur.length n) cur) ∧ Aside0 (w.grownBy wr (some b))) (fun _ v6 _ => xs.length - (intOf v6).toNat)
  case atStart => exact ⟨i0, i0 + 1, xs, by omega, by omega, rfl, by simp, rfl, ⟨HPRE.out.symm⟩, ⟨rfl⟩, HR1, HG1⟩
  case round =>
   obtain ⟨i, k, cur, hik, hk, rfl, rfl, hcl, HT, HDR, HR, HG⟩ := hrel
   obtain ⟨cs9, hb9⟩ := Kd.R_typed HR.out b rfl
   by_cases hlt : k < xs.length
   ·obtain ⟨hx0, hxf⟩ := Kd.R_cell (0 : Nat) HR.out (k : Int) (by omega) (by omega)
    obtain ⟨hy0, hyf⟩ := Kd.R_cell (0 : Nat) HR.out (i : Int) (by omega) (by omega)
    have hxg : rdOf (0 : Nat) cur (k : Int) = xs[k] := by
     have h5 := congrArg (fun l : List Nat => l[0]?) HDR.out
     simp only [List.getElem?_drop, Nat.add_zero] at h5
     rw [List.getElem?_eq_getElem (by omega), List.getElem?_eq_getElem hlt] at h5
     simp only [rdOf, Int.toNat_natCast, List.getD, List.getElem?_eq_getElem (show k < cur.length by omega)]
     exact Option.some.inj h5
    obtain ⟨x, hxe⟩ : ∃ x, x = xs[k] := ⟨_, rfl⟩
    have HXM : Aside0 (x ∈ xs) := ⟨by rw [hxe]; exact List.getElem_mem hlt⟩
    rw [hxg, ← hxe, Int.toNat_natCast] at hx0
    rw [Int.toNat_natCast] at hxf hy0 hyf
    have HST := as0 (Kd.R_put HR.out (i : Int) x)
    rw [Int.toNat_natCast] at HST
    have HTK : Aside0 (keptP dl (xs.take (k + 1)) = keptP dl (xs.take k) ++ (if dl x = true then [] else [x])) := ⟨by
     rw [List.take_succ_eq_append_getElem hlt, ← hxe]
     unfold keptP
     rw [List.filter_append]
     cases hd : dl x <;> simp [hd]⟩
    have HDR1 : Aside0 (cur.drop (k + 1) = xs.drop (k + 1)) := ⟨by
     have := congrArg (List.drop 1) HDR.out
     simpa [List.drop_drop, Nat.add_comm] using this⟩
    have h0k : (0 : Int) ≤ (k : Int) := by omega
    have hkl : (k : Int) < (xs.length : Int) := by omega
    have h0i : (0 : Int) ≤ (i : Int) := by omega
    have hil : (i : Int) < (xs.length : Int) := by omega
    have hbl : b < wr.heap.size := z70 hb9
    have HB9 := as0 hb9
    clear hxe hxg hb9 HDR
    cases hd : dl x with
    | true =>
     rw [hd, if_pos rfl, List.append_nil] at HTK
     go_wp2_with (go_at_call 86; refine (HDD.out _ HG.out x HXM.out).mono ?_; rintro e w2 ⟨rfl, hb2⟩; rw [hd])
     go_roundw
     case measure => simp [intOf]; omega
     case rel => exact ⟨i, k + 1, cur, by omega, by omega, rfl, by rw [show ((k : Int) + 1) = ((k + 1 : Nat) : Int) by omega], hcl, ⟨by rw [HTK.out]; exact HT.out⟩, HDR1, ⟨Kd.R_below HR.out hb2⟩, ⟨Ko.grown_trans HG.out ⟨hb2.os, hb2.tape, hb2.output, hb2.size, fun k hk _ => hb2.block k hk⟩⟩⟩
    | false =>
     rw [hd, if_neg (by decide)] at HTK
     go_wp2_with (go_at_call 86; refine (HDD.out _ HG.out x HXM.out).mono ?_; rintro e w2 ⟨rfl, hb2⟩; rw [hd]; have hy2 : w2.cell? ⟨b, i, none⟩ = _ := (hb2.cell (p := ⟨b, i, none⟩) hbl).trans hy0; have hyf2 : w2.frozen? ⟨b, i, none⟩ = false := (hb2.frozen (p := ⟨b, i, none⟩) hbl).trans hyf; have HB2 := as0 hb2; clear hb2)
     have hst2 := Kd.R_put (Kd.R_below HR.out HB2.out) (i : Int) x
     rw [Int.toNat_natCast] at hst2
     have hg2 : w.grownBy w2 (some b) := Ko.grown_trans HG.out ⟨HB2.out.os, HB2.out.tape, HB2.out.output, HB2.out.size, fun k hk _ => HB2.out.block k hk⟩
     go_roundw
     case measure => simp [intOf]; omega
     case rel => exact ⟨i + 1, k + 1, cur.set i x, by omega, by omega, by rw [show ((i : Int) + 1) = ((i + 1 : Nat) : Int) by omega], by rw [show ((k : Int) + 1) = ((k + 1 : Nat) : Int) by omega], by rw [List.length_set]; exact hcl, ⟨by
       rw [HTK.out, List.take_succ_eq_append_getElem (by rw [List.length_set]; omega), List.take_set_of_le (Nat.le_refl _), HT.out]
       simp⟩, ⟨by rw [List.drop_set_of_lt (by omega)]; exact HDR1.out⟩, ⟨by rw [List.length_set]; exact hst2.1⟩, ⟨Ko.grown_trans hg2 hst2.2⟩⟩
   ·have hke : k = xs.length := by omega
    subst hke
    have hT := HT.out
    rw [List.take_length] at hT
    have hR2 := Kd.R_take HR.out (m := i) (by omega)
    rw [hT] at hR2
    have hblk : ∃ cs : Array Value, wr.heap[b]? = some (.cells cs 80 (0, 0)) ∧ cs.size = n := by
     obtain ⟨_, inner, hown, _⟩ := HR.out
     rcases hown.2 with ⟨hv, _⟩ | ⟨g', cap', cur', hv, hb, hh, _, hcm, hcs, htake⟩
     ·cases hv
     injection hv with ha _ hc
     injection ha with ha
     injection ha with hg
     subst hg; subst hc
     exact ⟨cur', hh, by rw [hcs]; simp [kP, Kd.scalar]⟩
    obtain ⟨cs, hcs, hcsz⟩ := hblk
    have hcz : (n = i) = False := eq_false (by omega)
    have hcz2 : decide (n = i) = false := decide_eq_false (by omega)
    have h0i : (0 : Int) ≤ (i : Int) := by omega
    have hil : (i : Int) ≤ (xs.length : Int) := by omega
    have hin : i ≤ n := by omega
    have hii : i ≤ xs.length := by omega
    have hcl2 : ∀ ty, (Builtin.clear_ #[54] ty #[.slice (some ⟨b, i, none⟩) (xs.length - i) (n - i)]).run Tryz.prog wr = .ok (.tuple #[]) (wr.setCells b i (List.replicate (xs.length - i) (.pointer none))) := fun ty =>
     zv3 (P := Tryz.prog) wr 54 80 ty (.pointer none) rfl Tryz.underlying54 (fun w => by kernel_rfl) rfl b i (xs.length - i) (n - i) (fun j hj => by rw [z60 hcs]; simp [hcsz]; omega) (fun j hj => z40 hcs _)
    have hK := Ko.R_tail hR2 (List.replicate (xs.length - i) (.pointer none)) (o := i) (by simp [kP, Kd.scalar]) (by simp [kP, Kd.scalar]; omega)
    have HK := as0 hK
    clear hK hR2 hT hcs hcsz HDR HT HR hcl hik hb9
    go_wp2
    go_ret
    exact ⟨_, rfl, HK.out.1, Ko.grown_trans HG.out HK.out.2⟩
theorem delP_any (dl : Nat → Bool) (D : Nat) (xs : List Nat) (v : Value) (base : Nat) (hR : Kd.R kP 80 w base (fun _ => True) v xs)
  (HD : ∀ W, w.grownBy W v.ownBlock → ∀ x, x ∈ xs → Calls Tryz.prog 86 #[ptr x, ptr D] W fun e w' => e = .returned (.bool (dl x)) ∧ Below W.heap.size W w') :
  Calls Tryz.prog 85 #[v, .func (.func 86) #[] #[ptr D]] w fun e w' => ∃ v' : Value, e = .returned v' ∧
   Kd.R kP 80 w' base (fun _ => True) v' (keptP dl xs) ∧ w.grownBy w' v.ownBlock := by
 rcases ze8 dl xs 0 with h | ⟨i, h1, h2, _⟩
 ·obtain ⟨A, n, rfl⟩ := Kd.R_slice hR
  refine (zua dl D xs A n base hR (fun W hb => HD W ⟨hb.os, hb.tape, hb.output, hb.size, fun k hk _ => hb.block k hk⟩) h).mono ?_
  rintro e w' ⟨rfl, h1, hb⟩
  exact ⟨_, rfl, h1, ⟨hb.os, hb.tape, hb.output, hb.size, fun k hk _ => hb.block k hk⟩⟩
 ·obtain ⟨b, n, rfl, _⟩ := Kd.R_form hR (by omega)
  refine (delP_raw dl D xs b n base hR (fun W hg => HD W hg)).mono ?_
  rintro e w' ⟨m, rfl, h1, hb⟩
  exact ⟨_, rfl, h1, hb⟩
end
section
variable {w0 w : World} {g gd : Nat} {v : Value} {ps : List Nat} {s : FS}
theorem z72 {a b : ByteArray} : a.toList = b.toList ↔ a = b := by
 constructor
 ·intro h
  rw [ByteArray.toList_eq, ByteArray.toList_eq] at h
  exact Go.WideShapes.bytes_inj h
 ·rintro rfl
  rfl
theorem tl_beq (a b : ByteArray) : (a.toList == b.toList) = decide (a = b) := by
 rw [Bool.eq_iff_iff, beq_iff_eq, z72]
 simp
def isN (hs : List HV) (nm : ByteArray) (k : Nat) : Bool := match hs[k]? with | some h => decide (h.nm = nm) | none => false
def posH (hs : List HV) (nm : ByteArray) : Int := fstP (isN hs nm) hs.length 0
theorem z6b (p : Nat → Bool) : ∀ (n j : Nat), (fstP p n j = -1 ∧ ∀ k, k < n → p (j + k) = false) ∨ ∃ i, i < n ∧ fstP p n j = ((j + i : Nat) : Int) ∧ p (j + i) = true
 | 0, _ => .inl ⟨rfl, fun k hk => by omega⟩
 | n + 1, j => by
  unfold fstP
  by_cases c : p j = true
  ·rw [if_pos c]
   exact .inr ⟨0, by omega, by simp, c⟩
  ·rw [if_neg c]
   rcases z6b p n (j + 1) with ⟨h1, h2⟩ | ⟨i, h1, h2, h3⟩
   ·refine .inl ⟨h1, fun k hk => ?_⟩
    cases k with
    | zero => simpa using c
    | succ k => have := h2 k (by omega); rwa [show j + 1 + k = j + (k + 1) by omega] at this
   ·exact .inr ⟨i + 1, by omega, by rw [h2]; congr 1; omega, by rwa [show j + (i + 1) = j + 1 + i by omega]⟩
theorem za3 (hs : List HV) (nm : ByteArray) : (posH hs nm = -1 ∧ ∀ h ∈ hs, h.nm ≠ nm) ∨ ∃ (i : Nat) (x : HV), posH hs nm = (i : Int) ∧ hs[i]? = some x ∧ x.nm = nm := by
 rcases z6b (isN hs nm) hs.length 0 with ⟨h1, h2⟩ | ⟨i, h1, h2, h3⟩
 ·refine .inl ⟨h1, fun h hh e => ?_⟩
  obtain ⟨k, hk, rfl⟩ := List.mem_iff_getElem.1 hh
  have := h2 k hk
  rw [Nat.zero_add] at this
  unfold isN at this
  rw [List.getElem?_eq_getElem hk] at this
  simp [e] at this
 ·rw [Nat.zero_add] at h2 h3
  unfold isN at h3
  cases hx : hs[i]? with
  | none => rw [hx] at h3; cases h3
  | some x => rw [hx] at h3; exact .inr ⟨i, x, h2, hx, by simpa using h3⟩
theorem zp4 {hs : List HV} (hn : (hs.map (·.nm)).Nodup) {i : Nat} {x : HV} (hx : hs[i]? = some x) : posH hs x.nm = (i : Int) := by
 rcases za3 hs x.nm with ⟨_, h⟩ | ⟨j, y, h1, h2, h3⟩
 ·exact absurd rfl (h x (List.mem_of_getElem? hx))
 ·have e1 : (hs.map (·.nm))[i]? = some x.nm := by simp [hx]
  have e2 : (hs.map (·.nm))[j]? = some x.nm := by simp [h2, h3]
  have : i = j := (List.getElem?_inj (List.getElem?_eq_some_iff.1 e1).1 hn).1 (e1.trans e2.symm)
  rw [h1, this]
theorem at1_raw {W : World} {x D : Nat} {h : HV} {nm : ByteArray} (hx : W.heap[x]? = some (hcell h)) (hD : W.heap[D]? = some (.cells #[.string nm] 9 (0, 0))) :
  Calls Tryz.prog 103 #[ptr x, ptr D] W fun e w' => e = .returned (.bool (decide (h.nm = nm))) ∧ Below W.heap.size W w' := by
 have h1 : W.cell? ⟨x, 0, none⟩ = some (.string h.nm) := (z60 hx 0).trans rfl
 have h2 : W.cell? ⟨D, 0, none⟩ = some (.string nm) := (z60 hD 0).trans rfl
 clear hx hD
 go_enter Tryz.func103, Tryz.ntmps103
 go_wp2
 go_region
 all_goals go_wp2
 all_goals go_ret
 all_goals exact ⟨by rw [← tl_beq]; simp, z50 (Below.refl _ _)⟩
theorem at_raw (nm : ByteArray) (hI : IsX w0 w g gd v ps s) : Calls Tryz.prog 76 #[ptr g, .string nm] w fun e w' => e = .returned (.int .i64 (posH s.hs nm)) ∧ Below w.heap.size w w' := by
 obtain ⟨A, n, rfl⟩ := Kd.R_slice hI.row
 obtain ⟨_, hn, hC⟩ := Kd.R_reads' hI.row
 have h1 : w.cell? ⟨g, 3, none⟩ = some (.slice A ps.length n) := (z60 hI.blk 3).trans rfl
 have hgl : g < w.heap.size := z70 hI.blk
 have HCALL := as0 (fun (o : Obj) (ho : o = .cells #[.string nm] 9) => idx_at1 (w := w.alloc o) (isN s.hs nm) w.heap.size ps A n (Kd.C_below hC ((Below.refl _ w).alloc (Nat.le_refl _) _)) hn (fun W hb k x hx => by
  have hlt : k < s.hs.length := by rw [← hI.len]; exact (List.getElem?_eq_some_iff.1 hx).1
  obtain ⟨_, hcell_⟩ := hI.hb k x s.hs[k] hx (List.getElem?_eq_getElem hlt)
  have e : isN s.hs nm k = decide (s.hs[k].nm = nm) := by unfold isN; rw [List.getElem?_eq_getElem hlt]
  rw [e]
  have hxl := z70 hcell_
  refine at1_raw (h := s.hs[k]) ((hb.block x (by simp; omega)).trans ((Below.heap_alloc _ _ _ hxl).trans hcell_)) ((hb.block _ (by simp)).trans ?_)
  subst ho
  exact heap_alloc_new w _))
 rw [hI.len] at HCALL
 unfold posH
 have hlen := hI.len
 clear hI hC hn
 rw [hlen] at h1
 clear hlen
 go_enter Tryz.func76, Tryz.ntmps76
 go_wp2_with (go_at_call 102; refine (HCALL.out _ rfl).mono ?_; rintro e w' ⟨rfl, hb⟩)
 go_ret
 exact ⟨rfl, z10 ((Below.refl _ w).alloc (Nat.le_refl _) _) hb⟩
def findV (ps : List Nat) (hs : List HV) (nm : ByteArray) : Value := if posH hs nm < 0 then .pointer none else ptr (ps.getD (posH hs nm).toNat 0)
theorem zo2 (nm : ByteArray) (hI : IsX w0 w g gd v ps s) : Calls Tryz.prog 46 #[ptr g, .string nm] w fun e w' => e = .returned (findV ps s.hs nm) ∧ Below w.heap.size w w' := by
 have HA := as0 (at_raw nm hI)
 rcases za3 s.hs nm with ⟨h, _⟩ | ⟨i, x, h, hx, _⟩
 ·unfold findV
  rw [h] at HA ⊢
  clear hI h
  go_enter Tryz.func46, Tryz.ntmps46
  go_wp2_with (go_at_call 76; refine HA.out.mono ?_; rintro e w1 ⟨rfl, hb1⟩)
  go_ret
  exact ⟨rfl, hb1⟩
 ·unfold findV
  rw [h] at HA ⊢
  have hlt : i < ps.length := by rw [hI.len]; exact (List.getElem?_eq_some_iff.1 hx).1
  obtain ⟨p, hp⟩ : ∃ p, ps[i]? = some p := ⟨_, List.getElem?_eq_getElem hlt⟩
  have hpd : ps.getD (i : Int).toNat 0 = p := by simp [List.getD, hp]
  rw [hpd, if_neg (by omega)]
  have HI := as0 (fun W (hb : Below w.heap.size w W) => hI.below hb)
  have HP := as0 hp
  clear hI h hp hx hpd
  have h0i : (0 : Int) ≤ (i : Int) := by omega
  have hil : (i : Int) < (ps.length : Int) := by omega
  go_enter Tryz.func46, Tryz.ntmps46
  go_wp2_with (go_at_call 76; refine HA.out.mono ?_; rintro e w1 ⟨rfl, hb1⟩; have hI1 := HI.out _ hb1; have HB1 := as0 hb1; obtain ⟨A, n, rfl⟩ := Kd.R_slice hI1.row; obtain ⟨_, hn, hC⟩ := Kd.R_reads' hI1.row; obtain ⟨ad, rfl, hcell_⟩ := rdP hC i p HP.out; have h1 : w1.cell? ⟨g, 3, none⟩ = some (.slice (some ad) ps.length n) := (z60 hI1.blk 3).trans rfl; have hgl : g < w1.heap.size := z70 hI1.blk; clear hI1 hC hb1)
  go_ret
  exact ⟨rfl, HB1.out⟩
end
end Go.Proofs.YtmlmiocomlehgaaGreat.Man
end
section
namespace Go.Proofs.YtmlmiocomlehgaaGreat.Man
open Go.RowKit Go.Proofs.YtmlmiocomlehgaaGreatW.PrintWords Go.Proofs.YtmlmiocomlehgaaGreatW.PrintLast Go.Proofs.YtmlmiocomlehgaaGreat.PA Go.Proofs.YtmlmiocomlehgaaGreat.PF Go.Proofs.YtmlmiocomlehgaaGreat.Hid Go.Proofs.YtmlmiocomlehgaaGreat.Na
section
def hasB (x : ByteArray) (l : List ByteArray) : Bool := l.any (fun y => decide (y = x))
theorem ze2 (x : ByteArray) (l : List ByteArray) : hasB x l = true ↔ x ∈ l := by
 unfold hasB
 rw [List.any_eq_true]
 constructor
 ·rintro ⟨y, hy, h⟩
  rw [← of_decide_eq_true h]
  exact hy
 ·intro h
  exact ⟨x, h, by simp⟩
theorem z14 (x : ByteArray) (l : List ByteArray) (h : x ∉ l) : hasB x l = false := by
 rw [Bool.eq_false_iff]
 exact fun e => h ((ze2 x l).1 e)
theorem zq8 (x : ByteArray) (l : List ByteArray) (hm : l.length ≤ 9223372036854775807) (d : Nat) : ∀ (k j : Nat), j ≤ l.length → l.length - j = d → d < k → hostlerref09_Has.l0 k l x (j : Int) = some (hasB x (l.drop j)) := by
 induction d with
 | zero =>
  intro k j hj hd hk
  obtain ⟨k, rfl⟩ : ∃ m, k = m + 1 := ⟨k - 1, by omega⟩
  simp only [hostlerref09_Has.l0]
  rw [if_neg (by omega), List.drop_eq_nil_of_le (by omega)]
  rfl
 | succ d ih =>
  intro k j hj hd hk
  obtain ⟨k, rfl⟩ : ∃ m, k = m + 1 := ⟨k - 1, by omega⟩
  have hlt : j < l.length := by omega
  simp only [hostlerref09_Has.l0]
  rw [if_pos (by omega), if_pos (by omega), List.drop_eq_getElem_cons hlt]
  have e : rdOf ByteArray.empty l (j : Int) = l[j] := by simp [rdOf, List.getD, hlt]
  rw [e]
  have ih' := ih k (j + 1) (by omega) (by omega) (by omega)
  rw [show ((j + 1 : Nat) : Int) = (j : Int) + 1 by omega] at ih'
  have hw : wrap64 ((j : Int) + 1) = (j : Int) + 1 := by unfold wrap64; omega
  rw [hw, ih']
  by_cases c : l[j] = x
  ·rw [if_pos (z72.2 c)]
   simp [hasB, c]
  ·rw [if_neg (fun h => c (z72.1 h))]
   generalize List.drop (j + 1) l = r
   simp [hasB, c]
theorem has_some (x : ByteArray) (l : List ByteArray) (hm : l.length ≤ 9223372036854775807) : hostlerref09_Has.f (l.length + 1) l x = some (hasB x l) := by
 have := zq8 x l hm l.length (l.length + 1) 0 (by omega) (by omega) (by omega)
 simpa [hostlerref09_Has.f] using this
theorem has_raw (x : ByteArray) (l : List ByteArray) (A : Option Addr) (c : Nat) (w : World) (hC : Kd.C Kd.string w A l.length l) (hc : l.length ≤ c) : Calls Tryz.prog 59 #[.slice A l.length c, .string x] w fun e w' => e = .returned (.bool (hasB x l)) ∧ Drawn0 w w' :=
 hostlerref09_Has.calls (l.length + 1) A c l x _ w hC hc (has_some x l hC.2.1)
theorem zrc (a b : List ByteArray) (hl : a.length = b.length) (hm : a.length ≤ 9223372036854775807) (d : Nat) : ∀ (k j : Nat), j ≤ a.length → a.length - j = d → d < k → hostlerref09_Same.l0 k a b (j : Int) = some (decide (a.drop j = b.drop j)) := by
 induction d with
 | zero =>
  intro k j hj hd hk
  obtain ⟨k, rfl⟩ : ∃ m, k = m + 1 := ⟨k - 1, by omega⟩
  simp only [hostlerref09_Same.l0]
  rw [if_neg (by omega), List.drop_eq_nil_of_le (by omega), List.drop_eq_nil_of_le (by omega)]
  simp
 | succ d ih =>
  intro k j hj hd hk
  obtain ⟨k, rfl⟩ : ∃ m, k = m + 1 := ⟨k - 1, by omega⟩
  have hlt : j < a.length := by omega
  have hlt2 : j < b.length := by omega
  simp only [hostlerref09_Same.l0]
  rw [if_pos (by omega), if_pos (by omega), if_pos (by omega)]
  have d1 := List.drop_eq_getElem_cons hlt
  have d2 := List.drop_eq_getElem_cons hlt2
  have e : rdOf ByteArray.empty a (j : Int) = a[j] := by simp [rdOf, List.getD, hlt]
  have e2 : rdOf ByteArray.empty b (j : Int) = b[j] := by simp [rdOf, List.getD, hlt2]
  rw [e, e2]
  have ih' := ih k (j + 1) (by omega) (by omega) (by omega)
  rw [show ((j + 1 : Nat) : Int) = (j : Int) + 1 by omega] at ih'
  have hw : wrap64 ((j : Int) + 1) = (j : Int) + 1 := by unfold wrap64; omega
  rw [hw, ih']
  by_cases c : a[j] = b[j]
  ·rw [if_pos (z72.2 c), d1, d2, c]
   generalize List.drop (j + 1) a = r
   generalize List.drop (j + 1) b = q
   simp
  ·rw [if_neg (fun h => c (z72.1 h)), d1, d2]
   generalize List.drop (j + 1) a = r
   generalize List.drop (j + 1) b = q
   simp [c]
theorem z5d (a b : List ByteArray) (hm : a.length ≤ 9223372036854775807) : hostlerref09_Same.f (a.length + 1) a b = some (decide (a = b)) := by
 unfold hostlerref09_Same.f
 by_cases h : a.length = b.length
 ·rw [if_pos (by omega)]
  have := zrc a b h hm a.length (a.length + 1) 0 (by omega) (by omega) (by omega)
  simpa using this
 ·rw [if_neg (by omega), decide_eq_false (fun e => h (by rw [e]))]
theorem zh4 (a b : List ByteArray) (A B : Option Addr) (c d : Nat) (w : World) (hA : Kd.C Kd.string w A a.length a) (ha : a.length ≤ c) (hB : Kd.C Kd.string w B b.length b) (hb : b.length ≤ d) : Calls Tryz.prog 31 #[.slice A a.length c, .slice B b.length d] w fun e w' => e = .returned (.bool (decide (a = b))) ∧ Drawn0 w w' :=
 hostlerref09_Same.calls (a.length + 1) A c a B d b _ w hA ha hB hb (z5d a b hA.2.1)
theorem zb1 (nm : ByteArray) : ∀ (row : List S110) (j : Int), 0 ≤ j → (placeOf row nm j < 0 ↔ nm ∉ row.map (·.f0))
 | [], j, hj => by simp [placeOf]
 | x :: l, j, hj => by
  unfold placeOf
  by_cases c : x.f0 = nm
  ·rw [if_pos (by rw [beq_iff_eq]; exact z72.2 c)]
   simp [c]
   omega
  ·rw [if_neg (by rw [beq_iff_eq]; exact fun h => c (z72.1 h)), zb1 nm l (j + 1) (by omega)]
   simp [Ne.symm c]
theorem zm3 (nm : ByteArray) : ∀ (row : List S110) (j : Int), 0 ≤ j → 0 ≤ placeOf row nm j → ∃ i : Nat, placeOf row nm j = j + i ∧ ∃ h : i < row.length, row[i].f0 = nm
 | [], j, hj, h => by simp [placeOf] at h
 | x :: l, j, hj, h => by
  unfold placeOf at h ⊢
  by_cases c : x.f0 = nm
  ·rw [if_pos (by rw [beq_iff_eq]; exact z72.2 c)]
   exact ⟨0, by simp, by simp, by simpa using c⟩
  ·rw [if_neg (by rw [beq_iff_eq]; exact fun h => c (z72.1 h))] at h ⊢
   obtain ⟨i, h1, h2, h3⟩ := zm3 nm l (j + 1) (by omega) h
   exact ⟨i + 1, by rw [h1]; omega, by simpa using h2, by simpa using h3⟩
theorem zf3 (nm : ByteArray) : ∀ (row : List S110), (row.map (·.f0)).Nodup → endRow row nm = row.filter (fun x => !decide (x.f0 = nm))
 | row, hn => by
  unfold endRow
  by_cases h : placeOf row nm 0 < 0
  ·rw [if_pos h]
   have := (zb1 nm row 0 (by omega)).1 h
   rw [eq_comm, List.filter_eq_self]
   intro x hx
   have hx2 : x.f0 ≠ nm := fun e => this (by rw [← e]; exact List.mem_map_of_mem hx)
   simp [hx2]
  ·rw [if_neg h]
   obtain ⟨i, h1, h2, h3⟩ := zm3 nm row 0 (by omega) (by omega)
   have hi : (placeOf row nm 0).toNat = i := by omega
   rw [hi]
   have hsplit : row = row.take i ++ row[i] :: row.drop (i + 1) := by
    rw [← List.drop_eq_getElem_cons h2, List.take_append_drop]
   have hnd := hn
   rw [hsplit, List.map_append, List.map_cons, List.nodup_append] at hnd
   obtain ⟨n1, n2, n3⟩ := hnd
   rw [List.nodup_cons] at n2
   have e1 : (row.take i).filter (fun x => !decide (x.f0 = nm)) = row.take i := by
    rw [List.filter_eq_self]
    intro x hx
    have := n3 x.f0 (List.mem_map_of_mem hx) row[i].f0 (by simp)
    rw [h3] at this
    simp [this]
   have e2 : (row.drop (i + 1)).filter (fun x => !decide (x.f0 = nm)) = row.drop (i + 1) := by
    rw [List.filter_eq_self]
    intro x hx
    have hx2 : x.f0 ≠ nm := fun e => n2.1 (by rw [h3, ← e]; exact List.mem_map_of_mem hx)
    simp [hx2]
   have e3 : row.filter (fun x => !decide (x.f0 = nm)) = row.take i ++ row.drop (i + 1) := by
    conv => lhs; rw [hsplit, List.filter_append, List.filter_cons]
    rw [e1, e2]
    simp [h3]
   rw [e3, List.eraseIdx_eq_take_drop_succ]
def Inv (s : DS) (b : Nat) : Prop := (s.row.map (·.f0)).Nodup ∧ s.row.length ≤ b ∧ (namesOf s.row false).length ≤ 16
theorem Inv.mono {s : DS} {b c : Nat} (h : Inv s b) (hc : b ≤ c) : Inv s c := ⟨h.1, Nat.le_trans h.2.1 hc, h.2.2⟩
theorem z12 (a b : List S110) (u : Bool) : namesOf (a ++ b) u = namesOf a u ++ namesOf b u := by simp [namesOf]
theorem zq7 {s : DS} {b : Nat} (h : Inv s b) (nm : ByteArray) : Inv ⟨endRow s.row nm⟩ b ∧ nm ∉ (endRow s.row nm).map (·.f0) := by
 rw [zf3 nm s.row h.1]
 have hs : (s.row.filter (fun x => !decide (x.f0 = nm))).Sublist s.row := List.filter_sublist
 refine ⟨⟨h.1.sublist (hs.map _), Nat.le_trans hs.length_le h.2.1, Nat.le_trans (((hs.filter _).map _).length_le) h.2.2⟩, ?_⟩
 intro hm
 obtain ⟨x, hx, he⟩ := List.mem_map.1 hm
 have := (List.mem_filter.1 hx).2
 simp [he] at this
theorem z93 {s : DS} {b : Nat} (h : Inv s b) (x : S110) (hn : x.f0 ∉ s.row.map (·.f0)) (hw : x.f2 = false → (namesOf s.row false).length < 16) : Inv ⟨s.row ++ [x]⟩ (b + 1) := by
 refine ⟨?_, by simpa using h.2.1, ?_⟩
 ·simp only [List.map_append, List.map_cons, List.map_nil]
  rw [List.nodup_append]
  exact ⟨h.1, by simp, fun a ha c hc => by
   have : c = x.f0 := by simpa using hc
   rw [this]
   rintro rfl
   exact hn ha⟩
 ·rw [z12]
  have := h.2.2
  cases hx : x.f2 with
  | true => simp [namesOf, hx]; simpa [namesOf] using this
  | false =>
   have := hw hx
   have e : (namesOf [x] false).length = 1 := by simp [namesOf, hx]
   rw [List.length_append, e]
   omega
theorem inv_ask {s : DS} {b : Nat} (h : Inv s b) (hb : b ≤ 1000000000) (nm : ByteArray) : ∃ r s', drains_Drains_Ask.f s nm = some (r, s') ∧ Inv s' (b + 1) := by
 unfold drains_Drains_Ask.f
 rw [if_pos (Nat.le_trans h.2.1 hb)]
 by_cases h1 : nameB nm = true
 ·rw [if_pos h1]
  by_cases h2 : placeOf s.row nm 0 < 0
  ·rw [if_pos h2]
   by_cases h3 : (namesOf s.row false).length < 16
   ·rw [if_pos h3]
    exact ⟨_, _, rfl, z93 h _ ((zb1 nm s.row 0 (by omega)).1 h2) (fun _ => h3)⟩
   ·rw [if_neg h3]
    exact ⟨_, _, rfl, h.mono (by omega)⟩
  ·rw [if_neg h2]
   exact ⟨_, _, rfl, h.mono (by omega)⟩
 ·rw [if_neg h1]
  exact ⟨_, _, rfl, h.mono (by omega)⟩
theorem zxb {s : DS} {b : Nat} (h : Inv s b) (hb : b ≤ 1000000000) (nm : ByteArray) (dl : Int) : ∃ r s', drains_Drains_Begin.f s nm dl = some (r, s') ∧ Inv s' (b + 1) := by
 unfold drains_Drains_Begin.f
 rw [if_pos (Nat.le_trans h.2.1 hb)]
 by_cases h1 : nameB nm = true
 ·rw [if_pos h1]
  by_cases h2 : placeOf s.row nm 0 < 0
  ·rw [if_pos h2]
   exact ⟨_, _, rfl, z93 h _ ((zb1 nm s.row 0 (by omega)).1 h2) (fun h => by cases h)⟩
  ·rw [if_neg h2]
   by_cases h3 : (rd_T110 s.row (placeOf s.row nm 0)).f2 = true
   ·rw [if_pos h3]
    exact ⟨_, _, rfl, h.mono (by omega)⟩
   ·rw [if_neg h3]
    obtain ⟨he, hn⟩ := zq7 h nm
    exact ⟨_, _, rfl, z93 he _ hn (fun h => by cases h)⟩
 ·rw [if_neg h1]
  exact ⟨_, _, rfl, h.mono (by omega)⟩
theorem zi2 (row : List S110) (nm : ByteArray) : nm ∈ row.map (·.f0) ↔ nm ∈ namesOf row false ∨ nm ∈ namesOf row true := by
 unfold namesOf
 simp only [List.mem_map, List.mem_filter]
 constructor
 ·rintro ⟨x, hx, rfl⟩
  cases hu : x.f2
  ·exact .inl ⟨x, ⟨hx, by simp [hu]⟩, rfl⟩
  ·exact .inr ⟨x, ⟨hx, by simp [hu]⟩, rfl⟩
 ·rintro (⟨x, ⟨hx, _⟩, rfl⟩ | ⟨x, ⟨hx, _⟩, rfl⟩)
  ·exact ⟨x, hx, rfl⟩
  ·exact ⟨x, hx, rfl⟩
theorem was_eq (row : List S110) (nm : ByteArray) : (hasB nm (namesOf row false) || hasB nm (namesOf row true)) = decide (0 ≤ placeOf row nm 0) := by
 have h := zb1 nm row 0 (by omega)
 rw [zi2] at h
 rw [Bool.eq_iff_iff, Bool.or_eq_true, ze2, ze2, decide_eq_true_iff]
 constructor
 ·intro h2
  apply Classical.byContradiction
  intro h3
  exact h.1 (by omega) h2
 ·intro h2
  apply Classical.byContradiction
  intro h3
  have := h.2 h3
  omega
theorem zk7 {s : DS} {b : Nat} (h : Inv s b) (u : Bool) : (namesOf s.row u).Nodup := h.1.sublist ((List.filter_sublist).map _)
theorem zz4 {s : DS} {b : Nat} (h : Inv s b) (nm : ByteArray) (h1 : nm ∈ namesOf s.row false) : nm ∉ namesOf s.row true := by
 intro h2
 unfold namesOf at h1 h2
 obtain ⟨x, hx, ex⟩ := List.mem_map.1 h1
 obtain ⟨y, hy, ey⟩ := List.mem_map.1 h2
 have hx2 := List.mem_filter.1 hx
 have hy2 := List.mem_filter.1 hy
 have hxy : x = y := by
  have hn := h.1
  rw [List.Nodup, List.pairwise_map] at hn
  obtain ⟨i, hi, ei⟩ := List.getElem_of_mem hx2.1
  obtain ⟨j, hj, ej⟩ := List.getElem_of_mem hy2.1
  rcases Nat.lt_trichotomy i j with hl | rfl | hl
  ·exact absurd (by rw [ei, ej, ex, ey]) (List.pairwise_iff_getElem.1 hn i j hi hj hl)
  ·rw [← ei, ← ej]
  ·exact absurd (by rw [ei, ej, ex, ey]) (List.pairwise_iff_getElem.1 hn j i hj hi hl)
 subst hxy
 have h3 := hx2.2
 have h4 := hy2.2
 simp only [beq_iff_eq] at h3 h4
 rw [h3] at h4
 cases h4
end
section
def atsU (row : List S110) : List Int := (row.filter (fun x => x.f2 == true)).map (·.f1)
theorem zu4 (a b : List S110) : atsU (a ++ b) = atsU a ++ atsU b := by simp [atsU]
structure Rf where
 w : List ByteArray
 u : List ByteArray
 a : List Int
def rfOf (s : DS) : Rf := ⟨namesOf s.row false, namesOf s.row true, atsU s.row⟩
def refAsk (r : Rf) (nm : ByteArray) : Int × Rf :=
 if nameB nm = true then (if (hasB nm r.w || hasB nm r.u) = true then (6, r) else if r.w.length < 16 then (0, ⟨r.w ++ [nm], r.u, r.a⟩) else (7, r)) else (11, r)
theorem zia {s : DS} {b : Nat} (h : Inv s b) (hb : b ≤ 1000000000) (nm : ByteArray) : ∃ s', drains_Drains_Ask.f s nm = some ((refAsk (rfOf s) nm).1, s') ∧ Inv s' (b + 1) ∧ rfOf s' = (refAsk (rfOf s) nm).2 := by
 unfold drains_Drains_Ask.f refAsk
 rw [if_pos (Nat.le_trans h.2.1 hb)]
 by_cases h1 : nameB nm = true
 ·rw [if_pos h1, if_pos h1]
  have hw : (hasB nm (rfOf s).w || hasB nm (rfOf s).u) = decide (0 ≤ placeOf s.row nm 0) := was_eq s.row nm
  rw [hw]
  by_cases h2 : placeOf s.row nm 0 < 0
  ·rw [if_pos h2, if_neg (show ¬ decide (0 ≤ placeOf s.row nm 0) = true by simp; omega)]
   by_cases h3 : (namesOf s.row false).length < 16
   ·rw [if_pos h3, if_pos (show (rfOf s).w.length < 16 from h3)]
    refine ⟨_, rfl, z93 h _ ((zb1 nm s.row 0 (by omega)).1 h2) (fun _ => h3), ?_⟩
    simp [rfOf, namesOf, atsU]
   ·rw [if_neg h3, if_neg (show ¬ (rfOf s).w.length < 16 from h3)]
    exact ⟨_, rfl, h.mono (by omega), rfl⟩
  ·rw [if_neg h2, if_pos (show decide (0 ≤ placeOf s.row nm 0) = true by simp; omega)]
   exact ⟨_, rfl, h.mono (by omega), rfl⟩
 ·rw [if_neg h1, if_neg h1]
  exact ⟨_, rfl, h.mono (by omega), rfl⟩
def refEnd (r : Rf) (nm : ByteArray) : Bool × Rf := (hasB nm r.w || hasB nm r.u, ⟨r.w.filter (fun x => !decide (x = nm)), r.u.filter (fun x => !decide (x = nm)), ((r.u.zip r.a).filter (fun p => !decide (p.1 = nm))).map (·.2)⟩)
theorem zo4 (row : List S110) (nm : ByteArray) (u : Bool) : namesOf (row.filter (fun x => !decide (x.f0 = nm))) u = (namesOf row u).filter (fun x => !decide (x = nm)) := by
 unfold namesOf
 rw [List.filter_map, List.filter_filter, List.filter_filter]
 congr 1
 apply List.filter_congr
 intro x _
 simp [Function.comp_def, Bool.and_comm]
theorem zma : ∀ (row : List S110) (nm : ByteArray), atsU (row.filter (fun x => !decide (x.f0 = nm))) = (((namesOf row true).zip (atsU row)).filter (fun p => !decide (p.1 = nm))).map (·.2)
 | [], _ => rfl
 | x :: l, nm => by
  have ih := zma l nm
  unfold atsU namesOf at ih ⊢
  by_cases h1 : x.f0 = nm <;> cases h2 : x.f2 <;> simp [List.filter_cons, h1, h2] <;> simpa using ih
def refBegin (r : Rf) (nm : ByteArray) (dl : Int) : Int × Rf :=
 if nameB nm = true then (if hasB nm r.u = true then (6, r) else (0, ⟨r.w.filter (fun x => !decide (x = nm)), r.u ++ [nm], r.a ++ [mn (mx dl 0) 1099511627776]⟩)) else (11, r)
theorem zn8 {s : DS} {b : Nat} (h : Inv s b) (nm : ByteArray) (hp : ¬ placeOf s.row nm 0 < 0) : (rd_T110 s.row (placeOf s.row nm 0)).f2 = hasB nm (namesOf s.row true) := by
 obtain ⟨i, h1, h2, h3⟩ := zm3 nm s.row 0 (by omega) (by omega)
 have e : rd_T110 s.row (placeOf s.row nm 0) = s.row[i] := by rw [h1]; simp [rd_T110, List.getD, h2]
 rw [e]
 have hm : s.row[i] ∈ s.row := List.getElem_mem h2
 have hu : ∀ u, s.row[i].f2 = u → nm ∈ namesOf s.row u := fun u hu => by
  unfold namesOf
  rw [← h3]
  exact List.mem_map.2 ⟨s.row[i], List.mem_filter.2 ⟨hm, by simp [hu]⟩, rfl⟩
 cases hc : s.row[i].f2 with
 | true => exact ((ze2 _ _).2 (hu true hc)).symm
 | false => exact (z14 _ _ (zz4 h nm (hu false hc))).symm
theorem zf7 {s : DS} {b : Nat} (h : Inv s b) (hb : b ≤ 1000000000) (nm : ByteArray) (dl : Int) : ∃ s', drains_Drains_Begin.f s nm dl = some ((refBegin (rfOf s) nm dl).1, s') ∧ Inv s' (b + 1) ∧ rfOf s' = (refBegin (rfOf s) nm dl).2 := by
 unfold drains_Drains_Begin.f refBegin
 rw [if_pos (Nat.le_trans h.2.1 hb)]
 have hnone : ∀ u, nm ∉ s.row.map (·.f0) → (namesOf s.row u).filter (fun x => !decide (x = nm)) = namesOf s.row u := fun u hn => by
  rw [List.filter_eq_self]
  intro x hx
  have : x ≠ nm := by
   rintro rfl
   refine hn ((zi2 s.row x).2 ?_)
   cases u
   ·exact .inl hx
   ·exact .inr hx
  simp [this]
 by_cases h1 : nameB nm = true
 ·rw [if_pos h1, if_pos h1]
  by_cases h2 : placeOf s.row nm 0 < 0
  ·have hn := (zb1 nm s.row 0 (by omega)).1 h2
   have hu : hasB nm (rfOf s).u = false := z14 _ _ (fun hm => hn ((zi2 s.row nm).2 (.inr hm)))
   rw [if_pos h2, hu, if_neg (by decide)]
   refine ⟨_, rfl, z93 h _ hn (fun h => by cases h), ?_⟩
   have e := hnone false hn
   simp only [rfOf, z12, zu4, e]
   simp [namesOf, atsU]
  ·rw [if_neg h2, zn8 h nm h2]
   cases hu : hasB nm (namesOf s.row true) with
   | true =>
    rw [if_pos rfl, if_pos (show hasB nm (rfOf s).u = true from hu)]
    exact ⟨_, rfl, h.mono (by omega), rfl⟩
   | false =>
    rw [if_neg (by decide), if_neg (by rw [show hasB nm (rfOf s).u = false from hu]; decide)]
    obtain ⟨h3, h4⟩ := zq7 h nm
    refine ⟨_, rfl, z93 h3 _ h4 (fun h => by cases h), ?_⟩
    have hnu : nm ∉ namesOf s.row true := fun hm => by rw [(ze2 _ _).2 hm] at hu; cases hu
    have eu : (namesOf s.row true).filter (fun x => !decide (x = nm)) = namesOf s.row true := by
     rw [List.filter_eq_self]
     intro x hx
     have : x ≠ nm := by rintro rfl; exact hnu hx
     simp [this]
    have ea : atsU (s.row.filter (fun x => !decide (x.f0 = nm))) = atsU s.row := by
     unfold atsU
     rw [List.filter_filter]
     congr 1
     apply List.filter_congr
     intro x hx
     cases hx2 : x.f2 with
     | false => simp
     | true =>
      have : x.f0 ≠ nm := by
       rintro rfl
       exact hnu (List.mem_map.2 ⟨x, List.mem_filter.2 ⟨hx, by simp [hx2]⟩, rfl⟩)
      simp [this]
    simp only [rfOf, z12, zu4, zf3 nm s.row h.1, zo4, eu, ea]
    simp [namesOf, atsU]
 ·rw [if_neg h1, if_neg h1]
  exact ⟨_, rfl, h.mono (by omega), rfl⟩
end
section
def NoEmpty (s : DS) : Prop := ∀ x ∈ s.row, x.f0 ≠ ⟨#[]⟩
theorem ze4 {nm : ByteArray} (h : nameB nm = true) : nm ≠ ⟨#[]⟩ := by
 rintro rfl
 revert h
 decide +kernel
theorem zy8 (row : List S110) (nm : ByteArray) : (endRow row nm).Sublist row := by
 unfold endRow
 split
 ·exact List.Sublist.refl _
 ·exact List.eraseIdx_sublist _ _
theorem NoEmpty.end_ {s : DS} (h : NoEmpty s) (nm : ByteArray) : NoEmpty ⟨endRow s.row nm⟩ := fun x hx => h x ((zy8 s.row nm).subset hx)
theorem NoEmpty.add {s : DS} (h : NoEmpty s) (x : S110) (hx : x.f0 ≠ ⟨#[]⟩) : NoEmpty ⟨s.row ++ [x]⟩ := fun y hy => by
 rcases List.mem_append.1 hy with hy | hy
 ·exact h y hy
 ·rw [List.mem_singleton.1 hy]
  exact hx
theorem NoEmpty.ask {s s' : DS} {nm : ByteArray} {r : Int} (h : NoEmpty s) (hf : drains_Drains_Ask.f s nm = some (r, s')) : NoEmpty s' := by
 unfold drains_Drains_Ask.f at hf
 split at hf
 ·split at hf
  ·rename_i hn
   split at hf
   ·split at hf
    ·obtain ⟨_, rfl⟩ := Prod.mk.inj (Option.some.inj hf)
     exact h.add _ (ze4 hn)
    ·obtain ⟨_, rfl⟩ := Prod.mk.inj (Option.some.inj hf)
     exact h
   ·obtain ⟨_, rfl⟩ := Prod.mk.inj (Option.some.inj hf)
    exact h
  ·obtain ⟨_, rfl⟩ := Prod.mk.inj (Option.some.inj hf)
   exact h
 ·cases hf
theorem NoEmpty.begin_ {s s' : DS} {nm : ByteArray} {dl r : Int} (h : NoEmpty s) (hf : drains_Drains_Begin.f s nm dl = some (r, s')) : NoEmpty s' := by
 unfold drains_Drains_Begin.f at hf
 split at hf
 ·split at hf
  ·rename_i hn
   split at hf
   ·obtain ⟨_, rfl⟩ := Prod.mk.inj (Option.some.inj hf)
    exact h.add _ (ze4 hn)
   ·split at hf
    ·obtain ⟨_, rfl⟩ := Prod.mk.inj (Option.some.inj hf)
     exact h
    ·obtain ⟨_, rfl⟩ := Prod.mk.inj (Option.some.inj hf)
     exact (h.end_ nm).add _ (ze4 hn)
  ·obtain ⟨_, rfl⟩ := Prod.mk.inj (Option.some.inj hf)
   exact h
 ·cases hf
theorem z34 : ∀ (row : List S110), (headOf row = none ∧ namesOf row false = []) ∨ ∃ x l, headOf row = some x ∧ x ∈ row ∧ x.f2 = false ∧ namesOf row false = x.f0 :: l
 | [] => .inl ⟨rfl, rfl⟩
 | x :: row => by
  unfold headOf
  cases hx : x.f2 with
  | true =>
   rw [if_pos rfl]
   have e : namesOf (x :: row) false = namesOf row false := by simp [namesOf, List.filter_cons, hx]
   rw [e]
   rcases z34 row with h | ⟨y, l, h1, h2, h3, h4⟩
   ·exact .inl h
   ·exact .inr ⟨y, l, h1, by simp [h2], h3, h4⟩
  | false =>
   rw [if_neg (by decide)]
   exact .inr ⟨x, namesOf row false, rfl, by simp, hx, by simp [namesOf, List.filter_cons, hx]⟩
end
section
theorem zea {row : List S110} (h : (row.map (·.f0)).Nodup) {x y : S110} (hx : x ∈ row) (hy : y ∈ row) (e : x.f0 = y.f0) : x = y := by
 rw [List.Nodup, List.pairwise_map] at h
 obtain ⟨i, hi, ei⟩ := List.getElem_of_mem hx
 obtain ⟨j, hj, ej⟩ := List.getElem_of_mem hy
 rcases Nat.lt_trichotomy i j with hl | rfl | hl
 ·exact absurd (by rw [ei, ej, e]) (List.pairwise_iff_getElem.1 h i j hi hj hl)
 ·rw [← ei, ← ej]
 ·exact absurd (by rw [ei, ej, e]) (List.pairwise_iff_getElem.1 h j i hj hi hl)
theorem dead_of {s : DS} {b : Nat} (h : Inv s b) {x : S110} (hx : x ∈ s.row) : deadOf s x.f0 = if x.f2 = true then (x.f1, true) else (0, false) := by
 have hmem : x.f0 ∈ s.row.map (·.f0) := List.mem_map_of_mem hx
 have hp : ¬ placeOf s.row x.f0 0 < 0 := fun hq => (zb1 _ _ 0 (by omega)).1 hq hmem
 obtain ⟨i, h1, h2, h3⟩ := zm3 x.f0 s.row 0 (by omega) (by omega)
 have e : rd_T110 s.row (placeOf s.row x.f0 0) = x := by
  rw [h1]
  have : s.row[i] = x := zea h.1 (List.getElem_mem h2) hx h3
  rw [← this]
  simp [rd_T110, List.getD, h2]
 unfold deadOf
 rw [if_neg hp, e]
theorem zm4 (nm : ByteArray) : ∀ (l : List ByteArray) (j : Int), nm ∉ l → idxOf l nm j = -1
 | [], _, _ => rfl
 | x :: l, j, h => by
  unfold idxOf
  rw [if_neg (fun e => h (by rw [z72.1 e]; simp)), zm4 nm l (j + 1) (fun hm => h (by simp [hm]))]
def refDue (r : Rf) (now : Int) : List ByteArray := ((r.u.zip r.a).filter (fun p => pastB now p.2)).map (·.1)
theorem zib {s : DS} {b : Nat} (h : Inv s b) (now : Int) : dueOf s now = refDue (rfOf s) now := by
 have key : ∀ (l : List S110), (∀ x ∈ l, x ∈ s.row ∧ x.f2 = true) → (l.map (·.f0)).filter (fun nm => pastB now (deadOf s nm).1) = (((l.map (·.f0)).zip (l.map (·.f1))).filter (fun p => pastB now p.2)).map (·.1) := by
  intro l
  induction l with
  | nil => intro _; rfl
  | cons x l ih =>
   intro hl
   obtain ⟨h1, h2⟩ := hl x (by simp)
   have e : (deadOf s x.f0).1 = x.f1 := by rw [dead_of h h1, if_pos h2]
   have ih' := ih (fun y hy => hl y (by simp [hy]))
   simp only [List.map_cons, List.zip_cons_cons, List.filter_cons, e]
   cases pastB now x.f1 with
   | true => simp only [if_true, List.map_cons, ih']
   | false => simpa using ih'
 unfold dueOf refDue rfOf atsU
 show (namesOf s.row true).filter _ = _
 unfold namesOf
 exact key _ (fun x hx => by
  have := List.mem_filter.1 hx
  exact ⟨this.1, by simpa using this.2⟩)
end
end Go.Proofs.YtmlmiocomlehgaaGreat.Man
end
section
namespace Go.Proofs.YtmlmiocomlehgaaGreat.PR
open Go.RowKit Go.Proofs.YtmlmiocomlehgaaGreat.PA Go.Proofs.YtmlmiocomlehgaaGreatW.PrintWords Go.Proofs.YtmlmiocomlehgaaGreatW.PrintLast Go.Proofs.YtmlmiocomlehgaaGreatW.PrintMore
section
attribute [local go_sem] zt1 zv1 zd2 zb2 zn1 zl1 z32 z52   -- for this text's walks alone
theorem z76 : (Tryz.prog.info? 3).map (fun i => (i.zero, i.size, i.bytes)) = some (some (.int .i64 0), 1, 8) := by kernel_rfl
end
section
attribute [local go_sem] zt1 zv1 zd2 zb2 zn1 zl1 z32 z52   -- for this text's walks alone
def hostlerref13_with.f (l0 : List ByteArray) (a1 : ByteArray) : Option (List ByteArray) := if ([] : List ByteArray).length + l0.length < 8796093022208 then ((some (([] : List ByteArray) ++ l0 : List ByteArray)).bind fun y101 => (if y101.length < 8796093022208 then (some (y101 ++ [a1])) else (none))) else (none)
theorem hostlerref13_with.calls (A0 : Option Addr) (c0 : Nat) (l0 : List ByteArray) (a1 : ByteArray) (r : List ByteArray) (w : World) (hr0 : Kd.C Kd.string w A0 l0.length l0) (hc0 : l0.length ≤ c0) (h : hostlerref13_with.f l0 a1 = some r) :
  Calls Tryz.prog 89 #[.slice A0 l0.length c0, .string a1] w fun e w' => ∃ v0_ : Value, e = .returned (v0_) ∧ Kd.R Kd.string 9 w' w.heap.size (fun _ => True) v0_ r ∧ Below w.heap.size w w' := by
 have HR0 := as0 hr0
 have HC0 := as0 hc0
 clear hr0 hc0
 have HB := as0 (Below.refl w.heap.size w)
 have H : (if ([] : List ByteArray).length + l0.length < 8796093022208 then ((some (([] : List ByteArray) ++ l0 : List ByteArray)).bind fun y101 => (if y101.length < 8796093022208 then (some (y101 ++ [a1])) else (none))) else (none)) = some r := h
 clear h
 by_cases c3 : ([] : List ByteArray).length + l0.length < 8796093022208
 ·rw [if_pos c3] at H
  have LMc3 := as0 c3
  clear c3
  obtain ⟨y101, hy101⟩ : ∃ y_ : List ByteArray, y_ = (([] : List ByteArray) ++ l0) := ⟨_, rfl⟩
  replace H : (if y101.length < 8796093022208 then (some (y101 ++ [a1])) else (none)) = some r := by first | (rw [hy101]; with_reducible exact H) | (have H2_ := (Option.bind_some _ _).symm.trans H; rw [hy101]; with_reducible exact H2_) | (have H2_ := (Option.bind_some _ _).symm.trans H; with_reducible exact H2_) | with_reducible exact H | (rw [hy101]; exact H) | exact H
  have Ny101 := as0 hy101
  clear hy101
  by_cases c4 : y101.length < 8796093022208
  ·rw [if_pos c4] at H
   have LMc4 := as0 c4
   clear c4
   obtain ⟨y104, hy104⟩ : ∃ y_ : List ByteArray, y_ = (y101 ++ [a1]) := ⟨_, rfl⟩
   replace H : (some y104) = some r := by first | (rw [hy104]; with_reducible exact H) | (have H2_ := (Option.bind_some _ _).symm.trans H; rw [hy104]; with_reducible exact H2_) | (have H2_ := (Option.bind_some _ _).symm.trans H; with_reducible exact H2_) | with_reducible exact H | (rw [hy104]; exact H) | exact H
   have Ny104 := as0 hy104
   clear hy104
   obtain rfl := Option.some.inj H
   go_enter Tryz.func89, Tryz.ntmps89
   go_wp2_with (first | ((with_reducible refine zm0 (b := .append) (xs := #[.tmp 6, .tmp 7]) rfl ?_); at_builtin; refine Kd.R_append_rows Kd.string (w0 := w) w.heap.size rfl (.tmp 6) (.tmp 7) 27 9 (.string ⟨#[]⟩) 16 rfl Tryz.underlying27 z53 rfl (by decide) (by omega) (.slice none 0 0) ([] : List ByteArray) l0 _ _ _ (fun _ => True) (fun _ => False) rfl rfl ?aO ?aR (fun _ _ h => h) (fun _ h => h.elim) ?aF ?aB ?aS ?aL ?_; (case aR => repeat (first | exact HR0.out | (with_reducible refine Kd.C_alloc ?_ _) | (with_reducible refine Kd.C_drewN ?_ _) | (with_reducible refine Kd.C_drew ?_))); (case aB => exact (by repeat (first | (with_reducible first | exact HB.out | apply z80 | apply z90 | apply z50) | exact HB.out))); (case aF => exact (fun _ _ => trivial)); (case aO => exact ((Kd.R_nil _ _ _ _ (fun _ => True)))); (case aS => exact (zt0 (by repeat (first | (with_reducible first | exact HB.out | apply z80 | apply z90 | apply z50) | exact HB.out)))); (case aL => have := LMc3.out; omega); intro v102 w5 ho hb hg hat; rw [← Ny101.out] at ho; have n0_ := as0 (hb); have n1_ := as0 (ho); clear HB; have HB := n0_; have HO103 := n1_; clear n0_ n1_; clear ho hb hg hat) | ((with_reducible refine zm0 (b := .append) (xs := #[.tmp 9, .tmp 11]) rfl ?_); at_builtin; refine Kd.R_append Kd.string (w0 := w) w.heap.size rfl (.tmp 9) (.tmp 11) 27 9 (.string ⟨#[]⟩) 16 rfl Tryz.underlying27 z53 rfl (by decide) (by omega) v102 y101 a1 [.string a1] (fun _ => True) (fun _ => False) rfl rfl ?aP (fun _ hk => hk.elim) ?aF ?aO ?aB ?aS ?aL ?_; (case aP => exact rfl); (case aB => exact (by repeat (first | (with_reducible first | exact HB.out | apply z80 | apply z90 | apply z50) | exact HB.out))); (case aF => exact (fun _ _ => trivial)); (case aO => exact (by (with_reducible repeat (first | apply Kd.R_alloc | apply Kd.R_drewN | apply Kd.R_drew)); exact HO103.out)); (case aS => exact (zt0 (by repeat (first | (with_reducible first | exact HB.out | apply z80 | apply z90 | apply z50) | exact HB.out)))); (case aL => have := LMc4.out; omega); intro v105 w6 ho hb hg hat; rw [← Ny104.out] at ho; have n0_ := as0 (hb); have n1_ := as0 (ho); clear HB; clear HO103; have HB := n0_; have HO106 := n1_; clear n0_ n1_; clear ho hb hg hat))
   go_ret
   exact ⟨_, by first | rfl | (simp only [Int.ofNat_lt]; rfl) | (simp [errW_none, errW_some] <;> rfl) | (simp [*, errW_none, errW_some] <;> rfl), by (with_reducible repeat (first | apply Kd.R_alloc | apply Kd.R_drewN | apply Kd.R_drew)); exact HO106.out, by repeat (first | (with_reducible first | exact HB.out | apply z80 | apply z90 | apply z50) | exact HB.out)⟩
  ·rw [if_neg c4] at H
   exact absurd H (by simp)
 ·rw [if_neg c3] at H
  exact absurd H (by simp)
def hostlerref13_without.l0 : Nat → List ByteArray → ByteArray → List ByteArray → Int → Option (List ByteArray)
 | 0, _, _, _, _ => none
 | k + 1, x0, x1, x5, x6 => if x6 < (x0.length : Int) then (if 0 ≤ x6 then (if (rdOf ByteArray.empty x0 x6).toList = x1.toList then (hostlerref13_without.l0 k x0 x1 x5 (wrap64 (x6 + 1))) else (if x5.length < 8796093022208 then (hostlerref13_without.l0 k x0 x1 (x5 ++ [rdOf ByteArray.empty x0 x6]) (wrap64 (x6 + 1))) else (none))) else (none)) else (some x5)
def hostlerref13_without.f (k : Nat) (l0 : List ByteArray) (a1 : ByteArray) : Option (List ByteArray) := hostlerref13_without.l0 k l0 a1 ([] : List ByteArray) 0
theorem hostlerref13_without.calls (k : Nat) (A0 : Option Addr) (c0 : Nat) (l0 : List ByteArray) (a1 : ByteArray) (r : List ByteArray) (w : World) (hr0 : Kd.C Kd.string w A0 l0.length l0) (hc0 : l0.length ≤ c0) (h : hostlerref13_without.f k l0 a1 = some r) :
  Calls Tryz.prog 109 #[.slice A0 l0.length c0, .string a1] w fun e w' => ∃ v0_ : Value, e = .returned (v0_) ∧ Kd.R Kd.string 9 w' w.heap.size (fun _ => True) v0_ r ∧ Below w.heap.size w w' := by
 have HR0 := as0 hr0
 have HC0 := as0 hc0
 clear hr0 hc0
 have HB := as0 (Below.refl w.heap.size w)
 have H : (hostlerref13_without.l0 k l0 a1 ([] : List ByteArray) 0) = some r := h
 clear h
 have H' := as0 H
 clear H
 go_enter Tryz.func109, Tryz.ntmps109
 go_wp2
 go_loopg [5, 6] k (fun kq v5 v6 w' => ∃ (x5_1 : List ByteArray) (x6_1 : Int), v6 = .int .i64 x6_1 ∧ Aside0 (hostlerref13_without.l0 kq l0 a1 x5_1 x6_1 = some r) ∧ Aside0 (kq ≤ k) ∧ Aside0 (Kd.R Kd.string 9 w' w.heap.size (fun _ => True) v5 x5_1) ∧ Aside0 (Below w.heap.size w w'))
 case atStart => exact ⟨(([] : List ByteArray)), (0), (by first | rfl | (simp; done) | (simp [*]; done)), H', ⟨Nat.le_refl _⟩, ⟨by first | exact Kd.R_nil _ _ _ _ _ | exact Kd.N_nil _ _ _ _ _ | exact Kd.V_nil _ _ _ _ _ | exact Kd.Q_nil _ _ _ _ _ | exact Kd.S_nil _ _ _ _ _⟩, ⟨by repeat (first | (with_reducible first | exact HB.out | apply z80 | apply z90 | apply z50) | exact HB.out)⟩⟩
 case round =>
  clear H'
  try clear c1
  try clear p2
  obtain ⟨x5_1, x6_1, rfl, HA, HK1, HO_5, HB⟩ := hrel
  cases gk with
  | zero => exact absurd HA.out (by simp [hostlerref13_without.l0])
  | succ k1 =>
   have H := HA.out
   clear HA
   simp only [hostlerref13_without.l0] at H
   by_cases c3 : x6_1 < (l0.length : Int)
   ·rw [if_pos c3] at H
    have c3b0 : decide (x6_1 < (l0.length : Int)) = true := decide_eq_true c3
    clear c3
    by_cases c4 : 0 ≤ x6_1
    ·rw [if_pos c4] at H
     have c4b0 : decide (0 ≤ x6_1) = true := decide_eq_true c4
     clear c4
     by_cases c5 : (rdOf ByteArray.empty l0 x6_1).toList = a1.toList
     ·rw [if_pos c5] at H
      have c5b0 : ((rdOf ByteArray.empty l0 x6_1).toList == a1.toList) = true := beq_iff_eq.mpr c5
      have c5b1 : ((rdOf ByteArray.empty l0 x6_1).toList != a1.toList) = false := bne_eq_false_iff_eq.mpr c5
      clear c5
      have H' := as0 H
      clear H
      have p107 : 0 ≤ (x6_1 : Int) := of_decide_eq_true (by first | (with_reducible assumption) | assumption)
      have q107 : x6_1 < (l0.length : Int) := of_decide_eq_true (by first | (with_reducible assumption) | assumption)
      obtain ⟨ad107, e107, hx107_0⟩ := Kd.at_string HR0.out x6_1 p107 q107
      cases e107
      replace hx107_0 := (HB.out.cell (World.block_lt_of_cell? w _ hx107_0)).trans hx107_0
      replace p107 := eq_true p107
      replace q107 := eq_true q107
      go_wp2
      go_roundg k1
      case measure => have := HK1.out; omega
      case rel => exact ⟨(x5_1), (wrap64 (x6_1 + 1)), (by first | rfl | (simp; done) | (simp [*]; done)), H', ⟨by have := HK1.out; omega⟩, ⟨by (with_reducible repeat (first | apply Kd.R_alloc | apply Kd.R_drewN | apply Kd.R_drew)); exact HO_5.out⟩, ⟨by repeat (first | (with_reducible first | exact HB.out | apply z80 | apply z90 | apply z50) | exact HB.out)⟩⟩
     ·rw [if_neg c5] at H
      have c5b0 : ((rdOf ByteArray.empty l0 x6_1).toList == a1.toList) = false := beq_eq_false_iff_ne.mpr c5
      have c5b1 : ((rdOf ByteArray.empty l0 x6_1).toList != a1.toList) = true := bne_iff_ne.mpr c5
      by_cases c6 : x5_1.length < 8796093022208
      ·rw [if_pos c6] at H
       have LMc6 := as0 c6
       clear c6
       obtain ⟨y109, hy109⟩ : ∃ y_ : List ByteArray, y_ = (x5_1 ++ [rdOf ByteArray.empty l0 x6_1]) := ⟨_, rfl⟩
       replace H : (hostlerref13_without.l0 k1 l0 a1 y109 (wrap64 (x6_1 + 1))) = some r := by first | (rw [hy109]; with_reducible exact H) | (have H2_ := (Option.bind_some _ _).symm.trans H; rw [hy109]; with_reducible exact H2_) | (have H2_ := (Option.bind_some _ _).symm.trans H; with_reducible exact H2_) | with_reducible exact H | (rw [hy109]; exact H) | exact H
       have Ny109 := as0 hy109
       clear hy109
       have H' := as0 H
       clear H
       have p107 : 0 ≤ (x6_1 : Int) := of_decide_eq_true (by first | (with_reducible assumption) | assumption)
       have q107 : x6_1 < (l0.length : Int) := of_decide_eq_true (by first | (with_reducible assumption) | assumption)
       obtain ⟨ad107, e107, hx107_0⟩ := Kd.at_string HR0.out x6_1 p107 q107
       cases e107
       replace hx107_0 := (HB.out.cell (World.block_lt_of_cell? w _ hx107_0)).trans hx107_0
       replace p107 := eq_true p107
       replace q107 := eq_true q107
       have p108 : 0 ≤ (x6_1 : Int) := of_decide_eq_true (by first | (with_reducible assumption) | assumption)
       have q108 : x6_1 < (l0.length : Int) := of_decide_eq_true (by first | (with_reducible assumption) | assumption)
       obtain ⟨ad108, e108, hx108_0⟩ := Kd.at_string HR0.out x6_1 p108 q108
       obtain rfl : ad107 = ad108 := (by injection e108)
       replace hx108_0 := (HB.out.cell (World.block_lt_of_cell? w _ hx108_0)).trans hx108_0
       replace p108 := eq_true p108
       replace q108 := eq_true q108
       go_wp2_with (first | ((with_reducible refine zm0 (b := .append) (xs := #[.tmp 19, .tmp 24]) rfl ?_); at_builtin; refine Kd.R_append Kd.string (w0 := w) w.heap.size rfl (.tmp 19) (.tmp 24) 27 9 (.string ⟨#[]⟩) 16 rfl Tryz.underlying27 z53 rfl (by decide) (by omega) u5 x5_1 (rdOf ByteArray.empty l0 x6_1) [.string (rdOf ByteArray.empty l0 x6_1)] (fun _ => True) (fun _ => False) rfl rfl ?aP (fun _ hk => hk.elim) ?aF ?aO ?aB ?aS ?aL ?_; (case aP => exact rfl); (case aB => exact (by repeat (first | (with_reducible first | exact HB.out | apply z80 | apply z90 | apply z50) | exact HB.out))); (case aF => exact (fun _ _ => trivial)); (case aO => exact (by (with_reducible repeat (first | apply Kd.R_alloc | apply Kd.R_drewN | apply Kd.R_drew)); exact HO_5.out)); (case aS => exact (zt0 (by repeat (first | (with_reducible first | exact HB.out | apply z80 | apply z90 | apply z50) | exact HB.out)))); (case aL => have := LMc6.out; omega); intro v110 w7 ho hb hg hat; rw [← Ny109.out] at ho; have n0_ := as0 (hb); have n1_ := as0 (ho); clear HB; clear HO_5; have HB := n0_; have HO111 := n1_; clear n0_ n1_; clear ho hb hg hat))
       go_roundg k1
       case measure => have := HK1.out; omega
       case rel => exact ⟨(y109), (wrap64 (x6_1 + 1)), (by first | rfl | (simp; done) | (simp [*]; done)), H', ⟨by have := HK1.out; omega⟩, ⟨by (with_reducible repeat (first | apply Kd.R_alloc | apply Kd.R_drewN | apply Kd.R_drew)); exact HO111.out⟩, ⟨by repeat (first | (with_reducible first | exact HB.out | apply z80 | apply z90 | apply z50) | exact HB.out)⟩⟩
      ·rw [if_neg c6] at H
       exact absurd H (by simp)
    ·rw [if_neg c4] at H
     exact absurd H (by simp)
   ·rw [if_neg c3] at H
    have c3b0 : decide (x6_1 < (l0.length : Int)) = false := decide_eq_false c3
    clear c3
    obtain rfl := Option.some.inj H
    go_wp2
    go_ret
    exact ⟨_, by first | rfl | (simp only [Int.ofNat_lt]; rfl) | (simp [errW_none, errW_some] <;> rfl) | (simp [*, errW_none, errW_some] <;> rfl), by (with_reducible repeat (first | apply Kd.R_alloc | apply Kd.R_drewN | apply Kd.R_drew)); exact HO_5.out, by repeat (first | (with_reducible first | exact HB.out | apply z80 | apply z90 | apply z50) | exact HB.out)⟩
def hostlerref13_Place.l0 : Nat → List ByteArray → ByteArray → Int → Option (Int)
 | 0, _, _, _ => none
 | k + 1, x0, x1, x5 => if x5 < (x0.length : Int) then (if 0 ≤ x5 then (if (rdOf ByteArray.empty x0 x5).toList = x1.toList then (some x5) else (hostlerref13_Place.l0 k x0 x1 (wrap64 (x5 + 1)))) else (none)) else (some (-1))
def hostlerref13_Place.f (k : Nat) (l0 : List ByteArray) (a1 : ByteArray) : Option (Int) := hostlerref13_Place.l0 k l0 a1 0
theorem hostlerref13_Place.calls (k : Nat) (A0 : Option Addr) (c0 : Nat) (l0 : List ByteArray) (a1 : ByteArray) (r : Int) (w : World) (hr0 : Kd.C Kd.string w A0 l0.length l0) (hc0 : l0.length ≤ c0) (h : hostlerref13_Place.f k l0 a1 = some r) :
  Calls Tryz.prog 38 #[.slice A0 l0.length c0, .string a1] w fun e w' => e = .returned (.int .i64 r) ∧ Drawn0 w w' := by
 have HR0 := as0 hr0
 have HC0 := as0 hc0
 clear hr0 hc0
 have H : (hostlerref13_Place.l0 k l0 a1 0) = some r := h
 clear h
 have H' := as0 H
 clear H
 go_enter Tryz.func38, Tryz.ntmps38
 go_wp2
 go_loopg [5] k (fun kq v5 w' => ∃ (x5_1 : Int), v5 = .int .i64 x5_1 ∧ Aside0 (hostlerref13_Place.l0 kq l0 a1 x5_1 = some r) ∧ Aside0 (kq ≤ k) ∧ Drawn0 w w')
 case atStart => exact ⟨(0), (by first | rfl | (simp; done) | (simp [*]; done)), H', ⟨Nat.le_refl _⟩, by repeat (first | exact Drawn0.refl _ | apply Drawn0.step)⟩
 case round =>
  clear H'
  try clear p2
  obtain ⟨x5_1, rfl, HA, HK1, ⟨m1, rfl⟩⟩ := hrel
  cases gk with
  | zero => exact absurd HA.out (by simp [hostlerref13_Place.l0])
  | succ k1 =>
   have H := HA.out
   clear HA
   simp only [hostlerref13_Place.l0] at H
   by_cases c3 : x5_1 < (l0.length : Int)
   ·rw [if_pos c3] at H
    have c3b0 : decide (x5_1 < (l0.length : Int)) = true := decide_eq_true c3
    clear c3
    by_cases c4 : 0 ≤ x5_1
    ·rw [if_pos c4] at H
     have c4b0 : decide (0 ≤ x5_1) = true := decide_eq_true c4
     clear c4
     by_cases c5 : (rdOf ByteArray.empty l0 x5_1).toList = a1.toList
     ·rw [if_pos c5] at H
      have c5b0 : ((rdOf ByteArray.empty l0 x5_1).toList == a1.toList) = true := beq_iff_eq.mpr c5
      have c5b1 : ((rdOf ByteArray.empty l0 x5_1).toList != a1.toList) = false := bne_eq_false_iff_eq.mpr c5
      clear c5
      obtain rfl := Option.some.inj H
      have p112 : 0 ≤ (x5_1 : Int) := of_decide_eq_true (by first | (with_reducible assumption) | assumption)
      have q112 : x5_1 < (l0.length : Int) := of_decide_eq_true (by first | (with_reducible assumption) | assumption)
      obtain ⟨ad112, e112, hx112_0⟩ := Kd.at_string HR0.out x5_1 p112 q112
      cases e112
      replace p112 := eq_true p112
      replace q112 := eq_true q112
      go_wp2
      go_ret
      exact ⟨by first | rfl | (simp; done) | (simp [*]; done), by repeat (first | exact Drawn0.refl _ | apply Drawn0.step)⟩
     ·rw [if_neg c5] at H
      have c5b0 : ((rdOf ByteArray.empty l0 x5_1).toList == a1.toList) = false := beq_eq_false_iff_ne.mpr c5
      have c5b1 : ((rdOf ByteArray.empty l0 x5_1).toList != a1.toList) = true := bne_iff_ne.mpr c5
      have H' := as0 H
      clear H
      have p112 : 0 ≤ (x5_1 : Int) := of_decide_eq_true (by first | (with_reducible assumption) | assumption)
      have q112 : x5_1 < (l0.length : Int) := of_decide_eq_true (by first | (with_reducible assumption) | assumption)
      obtain ⟨ad112, e112, hx112_0⟩ := Kd.at_string HR0.out x5_1 p112 q112
      cases e112
      replace p112 := eq_true p112
      replace q112 := eq_true q112
      go_wp2
      go_roundg k1
      case measure => have := HK1.out; omega
      case rel => exact ⟨(wrap64 (x5_1 + 1)), (by first | rfl | (simp; done) | (simp [*]; done)), H', ⟨by have := HK1.out; omega⟩, by repeat (first | exact Drawn0.refl _ | apply Drawn0.step)⟩
    ·rw [if_neg c4] at H
     exact absurd H (by simp)
   ·rw [if_neg c3] at H
    have c3b0 : decide (x5_1 < (l0.length : Int)) = false := decide_eq_false c3
    clear c3
    obtain rfl := Option.some.inj H
    go_wp2
    go_ret
    exact ⟨by first | rfl | (simp; done) | (simp [*]; done), by repeat (first | exact Drawn0.refl _ | apply Drawn0.step)⟩
mutual
def hostlerref13_End.j0 : Nat → ByteArray → Bool → List ByteArray → List ByteArray → List Int → Option (List ByteArray × List ByteArray × List Int × Bool)
 | 0, _, _, _, _, _ => none
 | k + 1, x1, x6, x114000, x114001, x114002 => (hostlerref13_without.f k x114000 x1).bind fun t117 => (hostlerref13_End.l0 k x1 x6 ([] : List Int) 0 t117 x114001 x114002)
def hostlerref13_End.l0 : Nat → ByteArray → Bool → List Int → Int → List ByteArray → List ByteArray → List Int → Option (List ByteArray × List ByteArray × List Int × Bool)
 | 0, _, _, _, _, _, _, _ => none
 | k + 1, x1, x6, x7, x8, x114000, x114001, x114002 => if x8 < (x114001.length : Int) then (if 0 ≤ x8 then (if (rdOf ByteArray.empty x114001 x8).toList = x1.toList then (hostlerref13_End.l0 k x1 x6 x7 (wrap64 (x8 + 1)) x114000 x114001 x114002) else (if x8 < (x114002.length : Int) then (if x7.length < 17592186044416 then (hostlerref13_End.l0 k x1 x6 (x7 ++ [rd x114002 x8]) (wrap64 (x8 + 1)) x114000 x114001 x114002) else (none)) else (none))) else (none)) else ((hostlerref13_without.f k x114001 x1).bind fun t125 => (some (x114000, t125, x7, x6)))
end
def hostlerref13_End.f (k : Nat) (l0_0 : List ByteArray) (l0_1 : List ByteArray) (l0_2 : List Int) (a1 : ByteArray) : Option (List ByteArray × List ByteArray × List Int × Bool) := (hostlerref13_Place.f k l0_0 a1).bind fun t115 => (if t115 ≥ 0 then (hostlerref13_End.j0 k a1 true l0_0 l0_1 l0_2) else ((hostlerref13_Place.f k l0_1 a1).bind fun t116 => (hostlerref13_End.j0 k a1 (decide (t116 ≥ 0)) l0_0 l0_1 l0_2)))
theorem hostlerref13_End.calls (k : Nat) (A0_0 : Option Addr) (c0_0 : Nat) (l0_0 : List ByteArray) (A0_1 : Option Addr) (c0_1 : Nat) (l0_1 : List ByteArray) (A0_2 : Option Addr) (c0_2 : Nat) (l0_2 : List Int) (a1 : ByteArray) (r1 : List ByteArray) (r2 : List ByteArray) (r3 : List Int) (r4 : Bool) (w : World) (hr0_0 : Kd.C Kd.string w A0_0 l0_0.length l0_0) (hc0_0 : l0_0.length ≤ c0_0) (hr0_1 : Kd.C Kd.string w A0_1 l0_1.length l0_1) (hc0_1 : l0_1.length ≤ c0_1) (hr0_2 : Kd.C (Kd.int .i64) w A0_2 l0_2.length l0_2) (hc0_2 : l0_2.length ≤ c0_2) (h : hostlerref13_End.f k l0_0 l0_1 l0_2 a1 = some (r1, r2, r3, r4)) :
  Calls Tryz.prog 88 #[.agg #[.slice A0_0 l0_0.length c0_0, .slice A0_1 l0_1.length c0_1, .slice A0_2 l0_2.length c0_2], .string a1] w fun e w' => ∃ v0_ v1_ v2_ : Value, e = .returned (.tuple #[.agg #[v0_, v1_, v2_], .bool r4]) ∧ Kd.R Kd.string 9 w' w.heap.size (fun k_ => some k_ ≠ (v1_ : Value).ownBlock) v0_ r1 ∧ Kd.R Kd.string 9 w' w.heap.size (fun k_ => some k_ ≠ (v0_ : Value).ownBlock) v1_ r2 ∧ Kd.R (Kd.int .i64) 3 w' w.heap.size (fun _ => True) v2_ r3 ∧ Below w.heap.size w w' := by
 have hu31 := Tryz.underlying31
 have HR0_0 := as0 hr0_0
 have HC0_0 := as0 hc0_0
 clear hr0_0 hc0_0
 have HR0_1 := as0 hr0_1
 have HC0_1 := as0 hc0_1
 clear hr0_1 hc0_1
 have HR0_2 := as0 hr0_2
 have HC0_2 := as0 hc0_2
 clear hr0_2 hc0_2
 have HB := as0 (Below.refl w.heap.size w)
 have H : ((hostlerref13_Place.f k l0_0 a1).bind fun t115 => (if t115 ≥ 0 then (hostlerref13_End.j0 k a1 true l0_0 l0_1 l0_2) else ((hostlerref13_Place.f k l0_1 a1).bind fun t116 => (hostlerref13_End.j0 k a1 (decide (t116 ≥ 0)) l0_0 l0_1 l0_2)))) = some (r1, r2, r3, r4) := h
 clear h
 have HC3 := as0 H
 clear H
 go_enter Tryz.func88, Tryz.ntmps88
 go_upto_region 1 with (first | ((with_reducible refine za1 (N := 2) rfl ?_); refine z51 ?hg (N := 2) ?hd (cs := #[.slice A0_0 l0_0.length c0_0, .slice A0_1 l0_1.length c0_1, .slice A0_2 l0_2.length c0_2]) (t := 31) ?hr ?_; (case hd => rfl); (case hg => rfl); (case hr => first | (go_simp; done) | (go_simp; rfl)); intro gb113 hg w4 hbox hb; have n0_ := as0 (z10 (by repeat (first | (with_reducible first | exact HB.out | apply z80 | apply z90 | apply z50) | exact HB.out)) hb); have n1_ := as0 (hbox); have n2_ := as0 ((by rw [hg]; exact (zt0 (by repeat (first | (with_reducible first | exact HB.out | apply z80 | apply z90 | apply z50) | exact HB.out))) : w.heap.size ≤ gb113)); have n3_ := as0 ((by rw [hg]; exact (zt0 (by repeat (first | (with_reducible first | exact HB.out | apply z80 | apply z90 | apply z50) | exact HB.out))) : w.heap.size ≤ gb113)); clear HB; have HB := n0_; have BK113 := n1_; have GW113 := n2_; have GE113 := n3_; clear n0_ n1_ n2_ n3_; clear hb hbox hg) | ((with_reducible refine za1 (N := 4) rfl ?_); refine z51 ?hg (N := 4) ?hd (cs := #[.slice none 0 0, .slice none 0 0, .slice none 0 0]) (t := 31) ?hr ?_; (case hd => rfl); (case hg => rfl); (case hr => first | (go_simp; done) | (go_simp; rfl)); intro gb114 hg w5 hbox hb; have n0_ := as0 (z20 (g := gb113) (o := .cells #[.slice A0_0 l0_0.length c0_0, .slice A0_1 l0_1.length c0_1, .slice A0_2 l0_2.length c0_2] 31 (0, 0)) (by (with_reducible repeat (first | refine zr0 ?_ _ | refine blk_drew ?_ | refine zj0 ?_ _)); exact BK113.out) hb); have n1_ := as0 (z10 (by repeat (first | (with_reducible first | exact HB.out | apply z80 | apply z90 | apply z50 | refine zc0 ?_ GE113.out) | exact HB.out)) hb); have n2_ := as0 (hbox); have n3_ := as0 ((by rw [hg]; exact (zt0 (by repeat (first | (with_reducible first | exact HB.out | apply z80 | apply z90 | apply z50 | refine zc0 ?_ GE113.out) | exact HB.out))) : w.heap.size ≤ gb114)); have n4_ := as0 ((by rw [hg]; exact (zt0 (by repeat (first | (with_reducible first | exact HB.out | apply z80 | apply z90 | apply z50 | refine zc0 ?_ GE113.out) | exact HB.out))) : w.heap.size ≤ gb114)); have n5_ := as0 ((by rw [hg]; exact Nat.ne_of_lt (z70 (g := gb113) (o := .cells #[.slice A0_0 l0_0.length c0_0, .slice A0_1 l0_1.length c0_1, .slice A0_2 l0_2.length c0_2] 31 (0, 0)) (by (with_reducible repeat (first | refine zr0 ?_ _ | refine blk_drew ?_ | refine zj0 ?_ _)); exact BK113.out)) : gb113 ≠ gb114)); have n6_ := as0 ((by rw [hg]; exact Nat.ne_of_gt (z70 (g := gb113) (o := .cells #[.slice A0_0 l0_0.length c0_0, .slice A0_1 l0_1.length c0_1, .slice A0_2 l0_2.length c0_2] 31 (0, 0)) (by (with_reducible repeat (first | refine zr0 ?_ _ | refine blk_drew ?_ | refine zj0 ?_ _)); exact BK113.out)) : gb114 ≠ gb113)); clear BK113; clear HB; have BK113 := n0_; have HB := n1_; have BK114 := n2_; have GW114 := n3_; have GE114 := n4_; have NB113_114 := n5_; have NB114_113 := n6_; clear n0_ n1_ n2_ n3_ n4_ n5_ n6_; clear hb hbox hg))
 (try simp only [Act.put, lSI, lS0, lS1])
 go_cut [6] (fun v6 wc => ∃ (kq : Nat) (x6_2 : Bool), v6 = .bool x6_2 ∧ Aside0 (hostlerref13_End.j0 kq a1 x6_2 l0_0 l0_1 l0_2 = some (r1, r2, r3, r4)) ∧ Aside0 (kq ≤ k) ∧ Aside0 (wc.heap[gb113]? = some (.cells #[(.slice A0_0 l0_0.length c0_0), (.slice A0_1 l0_1.length c0_1), (.slice A0_2 l0_2.length c0_2)] 31 (0, 0))) ∧ Aside0 (wc.heap[gb114]? = some (.cells #[(.slice none 0 0), (.slice none 0 0), (.slice none 0 0)] 31 (0, 0))) ∧ Aside0 (Below w.heap.size w wc))
 case first =>
  have H := HC3.out
  clear HC3
  replace H := Option.bind_eq_some_iff.mp H
  obtain ⟨t115, A60, H⟩ := H
  replace H : (if t115 ≥ 0 then (hostlerref13_End.j0 k a1 true l0_0 l0_1 l0_2) else ((hostlerref13_Place.f k l0_1 a1).bind fun t116 => (hostlerref13_End.j0 k a1 (decide (t116 ≥ 0)) l0_0 l0_1 l0_2))) = some (r1, r2, r3, r4) := H
  have A6 := as0 A60
  clear A60
  by_cases c7 : t115 ≥ 0
  ·rw [if_pos c7] at H
   have c7b0 : decide (0 ≤ t115) = true := decide_eq_true c7
   clear c7
   (first | rw [c7b0] | (simp only [ze0, zd0]; rw [c7b0]) | skip)
   have H' := as0 H
   clear H
   have hnb8 := NB113_114.out
   have hnc8 := NB114_113.out
   have hcz9_0 : w5.cell? ⟨gb113, 0, none⟩ = some (.slice A0_0 l0_0.length c0_0) := (z60 BK113.out 0).trans rfl
   have hcz9_1 : w5.cell? ⟨gb113, 1, none⟩ = some (.slice A0_1 l0_1.length c0_1) := (z60 BK113.out 1).trans rfl
   have hcz9_2 : w5.cell? ⟨gb113, 2, none⟩ = some (.slice A0_2 l0_2.length c0_2) := (z60 BK113.out 2).trans rfl
   have hfz9_0 := z40 BK113.out 0
   have hfz9_1 := z40 BK113.out 1
   have hfz9_2 := z40 BK113.out 2
   go_wp2_with (first | ((with_reducible refine zy0 (f := 38) rfl ?_); refine zx1 (some 12) rfl rfl Tryz.func38 (by kernel_rfl) rfl #[.slice A0_0 l0_0.length c0_0, .string a1] rfl (by (try simp only [List.map_toArray, List.map_cons, List.map_nil]); first | done | rfl | (simp only [List.length_drop, List.length_take]; rfl)) ?_; (with_reducible refine (hostlerref13_Place.calls k _ _ l0_0 a1 t115 _ ?side1 ?side2 A6.out).mono ?_); (case side1 => repeat (first | exact (Kd.C_below HR0_0.out HB.out) | (with_reducible refine Kd.C_alloc ?_ _) | (with_reducible refine Kd.C_drewN ?_ _) | (with_reducible refine Kd.C_drew ?_))); (case side2 => exact HC0_0.out); rintro e w' ⟨rfl, ⟨nd, rfl⟩⟩; refine ⟨_, rfl, ?_⟩))
   go_meet
   case rel => exact ⟨_, (true), (by first | rfl | (simp; done) | (simp [*]; done)), H', ⟨by first | omega | exact Nat.le_refl _⟩, ⟨by (with_reducible repeat (first | refine zr0 ?_ _ | refine blk_drew ?_ | refine zj0 ?_ _)); exact BK113.out⟩, ⟨by (with_reducible repeat (first | refine zr0 ?_ _ | refine blk_drew ?_ | refine zj0 ?_ _)); exact BK114.out⟩, ⟨by repeat (first | (with_reducible first | exact HB.out | apply z80 | apply z90 | apply z50 | refine zc0 ?_ GE113.out | refine zc0 ?_ GE114.out) | exact HB.out)⟩⟩
  ·rw [if_neg c7] at H
   have c7b0 : decide (0 ≤ t115) = false := decide_eq_false c7
   clear c7
   (first | rw [c7b0] | (simp only [ze0, zd0]; rw [c7b0]) | skip)
   replace H := Option.bind_eq_some_iff.mp H
   obtain ⟨t116, A100, H⟩ := H
   replace H : (hostlerref13_End.j0 k a1 (decide (t116 ≥ 0)) l0_0 l0_1 l0_2) = some (r1, r2, r3, r4) := H
   have A10 := as0 A100
   clear A100
   have H' := as0 H
   clear H
   have hnb11 := NB113_114.out
   have hnc11 := NB114_113.out
   have hcz12_0 : w5.cell? ⟨gb113, 0, none⟩ = some (.slice A0_0 l0_0.length c0_0) := (z60 BK113.out 0).trans rfl
   have hcz12_1 : w5.cell? ⟨gb113, 1, none⟩ = some (.slice A0_1 l0_1.length c0_1) := (z60 BK113.out 1).trans rfl
   have hcz12_2 : w5.cell? ⟨gb113, 2, none⟩ = some (.slice A0_2 l0_2.length c0_2) := (z60 BK113.out 2).trans rfl
   have hfz12_0 := z40 BK113.out 0
   have hfz12_1 := z40 BK113.out 1
   have hfz12_2 := z40 BK113.out 2
   go_wp2_with (first | ((with_reducible refine zy0 (f := 38) rfl ?_); refine zx1 (some 12) rfl rfl Tryz.func38 (by kernel_rfl) rfl #[.slice A0_0 l0_0.length c0_0, .string a1] rfl (by (try simp only [List.map_toArray, List.map_cons, List.map_nil]); first | done | rfl | (simp only [List.length_drop, List.length_take]; rfl)) ?_; (with_reducible refine (hostlerref13_Place.calls k _ _ l0_0 a1 t115 _ ?side1 ?side2 A6.out).mono ?_); (case side1 => repeat (first | exact (Kd.C_below HR0_0.out HB.out) | (with_reducible refine Kd.C_alloc ?_ _) | (with_reducible refine Kd.C_drewN ?_ _) | (with_reducible refine Kd.C_drew ?_))); (case side2 => exact HC0_0.out); rintro e w' ⟨rfl, ⟨nd, rfl⟩⟩; refine ⟨_, rfl, ?_⟩) | (go_at_call 38; (with_reducible refine (hostlerref13_Place.calls k _ _ l0_1 a1 t116 _ ?side1 ?side2 A10.out).mono ?_); (case side1 => repeat (first | exact (Kd.C_below HR0_1.out (by repeat (first | (with_reducible first | exact HB.out | apply z80 | apply z90 | apply z50 | refine zc0 ?_ GE113.out | refine zc0 ?_ GE114.out) | exact HB.out))) | (with_reducible refine Kd.C_alloc ?_ _) | (with_reducible refine Kd.C_drewN ?_ _) | (with_reducible refine Kd.C_drew ?_))); (case side2 => exact HC0_1.out); rintro e w' ⟨rfl, ⟨nd, rfl⟩⟩))
   go_meet
   case rel => exact ⟨_, (decide (t116 ≥ 0)), (by first | rfl | (simp; done) | (simp [*]; done)), H', ⟨by first | omega | exact Nat.le_refl _⟩, ⟨by (with_reducible repeat (first | refine zr0 ?_ _ | refine blk_drew ?_ | refine zj0 ?_ _)); exact BK113.out⟩, ⟨by (with_reducible repeat (first | refine zr0 ?_ _ | refine blk_drew ?_ | refine zj0 ?_ _)); exact BK114.out⟩, ⟨by repeat (first | (with_reducible first | exact HB.out | apply z80 | apply z90 | apply z50 | refine zc0 ?_ GE113.out | refine zc0 ?_ GE114.out) | exact HB.out)⟩⟩
 case rest =>
  clear HC3
  try clear c1
  try clear p2
  try clear c3
  try clear c7
  try clear c7b0
  try clear c8
  try clear c11
  try clear hcz12_0
  try clear hcz12_1
  try clear hcz12_2
  try clear hcz9_0
  try clear hcz9_1
  try clear hcz9_2
  try clear hfz12_0
  try clear hfz12_1
  try clear hfz12_2
  try clear hfz9_0
  try clear hfz9_1
  try clear hfz9_2
  obtain ⟨kq, x6_2, rfl, HA, HJ2, BK113, BK114, HB⟩ := hcut
  cases kq with
  | zero => exact absurd HA.out (by simp [hostlerref13_End.j0])
  | succ kj2 =>
   have H := HA.out
   clear HA
   simp only [hostlerref13_End.j0] at H
   replace H := Option.bind_eq_some_iff.mp H
   obtain ⟨t117, A130, H⟩ := H
   replace H : (hostlerref13_End.l0 kj2 a1 x6_2 ([] : List Int) 0 t117 l0_1 l0_2) = some (r1, r2, r3, r4) := H
   have A13 := as0 A130
   clear A130
   have H' := as0 H
   clear H
   have hnb14 := NB113_114.out
   have hnc14 := NB114_113.out
   have hcz15_0 : wc.cell? ⟨gb113, 0, none⟩ = some (.slice A0_0 l0_0.length c0_0) := (z60 BK113.out 0).trans rfl
   have hcz15_1 : wc.cell? ⟨gb113, 1, none⟩ = some (.slice A0_1 l0_1.length c0_1) := (z60 BK113.out 1).trans rfl
   have hcz15_2 : wc.cell? ⟨gb113, 2, none⟩ = some (.slice A0_2 l0_2.length c0_2) := (z60 BK113.out 2).trans rfl
   have hfz15_0 := z40 BK113.out 0
   have hfz15_1 := z40 BK113.out 1
   have hfz15_2 := z40 BK113.out 2
   go_wp2_with (first | ((with_reducible refine zy0 (f := 109) rfl ?_); refine zx1 (some 24) rfl rfl Tryz.func109 (by kernel_rfl) rfl #[.slice A0_0 l0_0.length c0_0, .string a1] rfl (by (try simp only [List.map_toArray, List.map_cons, List.map_nil]); first | done | rfl | (simp only [List.length_drop, List.length_take]; rfl)) ?_; (with_reducible refine (hostlerref13_without.calls kj2 _ _ l0_0 a1 t117 _ ?side1 ?side2 A13.out).mono ?_); (case side1 => repeat (first | exact (Kd.C_below HR0_0.out HB.out) | (with_reducible refine Kd.C_alloc ?_ _) | (with_reducible refine Kd.C_drewN ?_ _) | (with_reducible refine Kd.C_drew ?_))); (case side2 => exact HC0_0.out); rintro e w16 ⟨v118, rfl, ho0, hb⟩; refine ⟨_, rfl, ?_⟩; have n0_ := as0 (Kd.R_lower ho0 (zt0 (by repeat (first | (with_reducible first | exact HB.out | apply z80 | apply z90 | apply z50 | refine zc0 ?_ GE113.out | refine zc0 ?_ GE114.out) | exact HB.out)))); have n1_ := as0 (z20 (g := gb113) (o := .cells #[.slice A0_0 l0_0.length c0_0, .slice A0_1 l0_1.length c0_1, .slice A0_2 l0_2.length c0_2] 31 (0, 0)) (by (with_reducible repeat (first | refine zr0 ?_ _ | refine blk_drew ?_ | refine zj0 ?_ _)); exact BK113.out) hb); have n2_ := as0 (z20 (g := gb114) (o := .cells #[.slice none 0 0, .slice none 0 0, .slice none 0 0] 31 (0, 0)) (by (with_reducible repeat (first | refine zr0 ?_ _ | refine blk_drew ?_ | refine zj0 ?_ _)); exact BK114.out) hb); have n3_ := as0 (z10 (by repeat (first | (with_reducible first | exact HB.out | apply z80 | apply z90 | apply z50 | refine zc0 ?_ GE113.out | refine zc0 ?_ GE114.out) | exact HB.out)) hb); clear BK113; clear BK114; clear HB; have HO119 := n0_; have BK113 := n1_; have BK114 := n2_; have HB := n3_; clear n0_ n1_ n2_ n3_; (try clear hb); (try clear hb2); (try clear hk); (try clear hi); (try clear ho0); obtain ⟨Ao17, co17, eo17⟩ := Kd.R_slice HO119.out; subst eo17; have hcz18_0 : w16.cell? ⟨gb113, 0, none⟩ = some (.slice A0_0 l0_0.length c0_0) := (z60 BK113.out 0).trans rfl; have hcz18_1 : w16.cell? ⟨gb113, 1, none⟩ = some (.slice A0_1 l0_1.length c0_1) := (z60 BK113.out 1).trans rfl; have hcz18_2 : w16.cell? ⟨gb113, 2, none⟩ = some (.slice A0_2 l0_2.length c0_2) := (z60 BK113.out 2).trans rfl; have hfz18_0 := z40 BK113.out 0; have hfz18_1 := z40 BK113.out 1; have hfz18_2 := z40 BK113.out 2))
   go_loopg [7, 8] kj2 (fun kq v7 v8 w' => ∃ (x7_2 : List Int) (x8_2 : Int), v8 = .int .i64 x8_2 ∧ Aside0 (hostlerref13_End.l0 kq a1 x6_2 x7_2 x8_2 t117 l0_1 l0_2 = some (r1, r2, r3, r4)) ∧ Aside0 (kq ≤ kj2) ∧ Aside0 (Kd.R (Kd.int .i64) 3 w' w.heap.size (fun _ => True) v7 x7_2) ∧ Aside0 (Kd.R Kd.string 9 w' w.heap.size (fun _ => True) (.slice Ao17 t117.length co17) t117) ∧ Aside0 (w'.heap[gb113]? = some (.cells #[(.slice Ao17 t117.length co17), (.slice A0_1 l0_1.length c0_1), (.slice A0_2 l0_2.length c0_2)] 31 (0, 0))) ∧ Aside0 (w'.heap[gb114]? = some (.cells #[(.slice none 0 0), (.slice none 0 0), (.slice none 0 0)] 31 (0, 0))) ∧ Aside0 (Below w.heap.size w w'))
   case atStart => exact ⟨(([] : List Int)), (0), (by first | rfl | (simp; done) | (simp [*]; done)), H', ⟨Nat.le_refl _⟩, ⟨by first | exact Kd.R_nil _ _ _ _ _ | exact Kd.N_nil _ _ _ _ _ | exact Kd.V_nil _ _ _ _ _ | exact Kd.Q_nil _ _ _ _ _ | exact Kd.S_nil _ _ _ _ _⟩, ⟨by (with_reducible repeat (first | apply Kd.R_alloc | apply Kd.R_drewN | apply Kd.R_drew)); exact Kd.R_mono (Kd.R_far (p := ⟨gb113, 0, none⟩) (Kd.R_types HO119.out BK113.out (by decide)) (fun _ hk => hk.2) (.slice Ao17 t117.length co17)) (fun _ hk => trivial)⟩, ⟨by (with_reducible repeat (first | refine zr0 ?_ _ | refine blk_drew ?_ | refine zj0 ?_ _)); refine zz1 (cs := #[.slice A0_0 l0_0.length c0_0, .slice A0_1 l0_1.length c0_1, .slice A0_2 l0_2.length c0_2]) ?_ 0 _ rfl; (with_reducible repeat (first | refine zr0 ?_ _ | refine blk_drew ?_ | refine zj0 ?_ _)); exact BK113.out⟩, ⟨by (with_reducible repeat (first | refine zr0 ?_ _ | refine blk_drew ?_ | refine zj0 ?_ _)); refine zt5 ?_ NB114_113.out _; (with_reducible repeat (first | refine zr0 ?_ _ | refine blk_drew ?_ | refine zj0 ?_ _)); exact BK114.out⟩, ⟨by repeat (first | (with_reducible first | exact HB.out | apply z80 | apply z90 | apply z50 | refine zc0 ?_ GE113.out | refine zc0 ?_ GE114.out) | exact HB.out)⟩⟩
   case round =>
    clear H'
    try clear c1
    try clear p2
    try clear c3
    try clear c7
    try clear c7b0
    try clear c8
    try clear c10
    try clear c11
    try clear c14
    try clear hcz12_0
    try clear hcz12_1
    try clear hcz12_2
    try clear hcz15_0
    try clear hcz15_1
    try clear hcz15_2
    try clear hcz18_0
    try clear hcz18_1
    try clear hcz18_2
    try clear hcz9_0
    try clear hcz9_1
    try clear hcz9_2
    try clear hfz12_0
    try clear hfz12_1
    try clear hfz12_2
    try clear hfz15_0
    try clear hfz15_1
    try clear hfz15_2
    try clear hfz18_0
    try clear hfz18_1
    try clear hfz18_2
    try clear hfz9_0
    try clear hfz9_1
    try clear hfz9_2
    try clear p2
    obtain ⟨x7_2, x8_2, rfl, HA, HK2, HO_7, HO_114000, BK113, BK114, HB⟩ := hrel
    cases gk with
    | zero => exact absurd HA.out (by simp [hostlerref13_End.l0])
    | succ k2 =>
     have H := HA.out
     clear HA
     simp only [hostlerref13_End.l0] at H
     by_cases c19 : x8_2 < (l0_1.length : Int)
     ·rw [if_pos c19] at H
      have c19b0 : decide (x8_2 < (l0_1.length : Int)) = true := decide_eq_true c19
      clear c19
      by_cases c20 : 0 ≤ x8_2
      ·rw [if_pos c20] at H
       have c20b0 : decide (0 ≤ x8_2) = true := decide_eq_true c20
       clear c20
       by_cases c21 : (rdOf ByteArray.empty l0_1 x8_2).toList = a1.toList
       ·rw [if_pos c21] at H
        have c21b0 : ((rdOf ByteArray.empty l0_1 x8_2).toList == a1.toList) = true := beq_iff_eq.mpr c21
        have c21b1 : ((rdOf ByteArray.empty l0_1 x8_2).toList != a1.toList) = false := bne_eq_false_iff_eq.mpr c21
        clear c21
        have H' := as0 H
        clear H
        have hnb22 := NB113_114.out
        have hnc22 := NB114_113.out
        have hcz23_0 : wr.cell? ⟨gb113, 0, none⟩ = some (.slice Ao17 t117.length co17) := (z60 BK113.out 0).trans rfl
        have hcz23_1 : wr.cell? ⟨gb113, 1, none⟩ = some (.slice A0_1 l0_1.length c0_1) := (z60 BK113.out 1).trans rfl
        have hcz23_2 : wr.cell? ⟨gb113, 2, none⟩ = some (.slice A0_2 l0_2.length c0_2) := (z60 BK113.out 2).trans rfl
        have hfz23_0 := z40 BK113.out 0
        have hfz23_1 := z40 BK113.out 1
        have hfz23_2 := z40 BK113.out 2
        have p120 : 0 ≤ (x8_2 : Int) := of_decide_eq_true (by first | (with_reducible assumption) | assumption)
        have q120 : x8_2 < (l0_1.length : Int) := of_decide_eq_true (by first | (with_reducible assumption) | assumption)
        obtain ⟨ad120, e120, hx120_0⟩ := Kd.at_string HR0_1.out x8_2 p120 q120
        cases e120
        replace hx120_0 := (HB.out.cell (World.block_lt_of_cell? w _ hx120_0)).trans hx120_0
        replace p120 := eq_true p120
        replace q120 := eq_true q120
        go_wp2
        go_roundg k2
        case measure => have := HJ2.out; have := HK2.out; omega
        case rel => exact ⟨(x7_2), (wrap64 (x8_2 + 1)), (by first | rfl | (simp; done) | (simp [*]; done)), H', ⟨by have := HJ2.out; have := HK2.out; omega⟩, ⟨by (with_reducible repeat (first | apply Kd.R_alloc | apply Kd.R_drewN | apply Kd.R_drew)); exact HO_7.out⟩, ⟨by (with_reducible repeat (first | apply Kd.R_alloc | apply Kd.R_drewN | apply Kd.R_drew)); exact HO_114000.out⟩, ⟨by (with_reducible repeat (first | refine zr0 ?_ _ | refine blk_drew ?_ | refine zj0 ?_ _)); exact BK113.out⟩, ⟨by (with_reducible repeat (first | refine zr0 ?_ _ | refine blk_drew ?_ | refine zj0 ?_ _)); exact BK114.out⟩, ⟨by repeat (first | (with_reducible first | exact HB.out | apply z80 | apply z90 | apply z50 | refine zc0 ?_ GE113.out | refine zc0 ?_ GE114.out) | exact HB.out)⟩⟩
       ·rw [if_neg c21] at H
        have c21b0 : ((rdOf ByteArray.empty l0_1 x8_2).toList == a1.toList) = false := beq_eq_false_iff_ne.mpr c21
        have c21b1 : ((rdOf ByteArray.empty l0_1 x8_2).toList != a1.toList) = true := bne_iff_ne.mpr c21
        by_cases c24 : x8_2 < (l0_2.length : Int)
        ·rw [if_pos c24] at H
         have c24b0 : decide (x8_2 < (l0_2.length : Int)) = true := decide_eq_true c24
         clear c24
         by_cases c25 : x7_2.length < 17592186044416
         ·rw [if_pos c25] at H
          have LMc25 := as0 c25
          clear c25
          obtain ⟨y122, hy122⟩ : ∃ y_ : List Int, y_ = (x7_2 ++ [rd l0_2 x8_2]) := ⟨_, rfl⟩
          replace H : (hostlerref13_End.l0 k2 a1 x6_2 y122 (wrap64 (x8_2 + 1)) t117 l0_1 l0_2) = some (r1, r2, r3, r4) := by first | (rw [hy122]; with_reducible exact H) | (have H2_ := (Option.bind_some _ _).symm.trans H; rw [hy122]; with_reducible exact H2_) | (have H2_ := (Option.bind_some _ _).symm.trans H; with_reducible exact H2_) | with_reducible exact H | (rw [hy122]; exact H) | exact H
          have Ny122 := as0 hy122
          clear hy122
          have H' := as0 H
          clear H
          have hnb26 := NB113_114.out
          have hnc26 := NB114_113.out
          have hcz27_0 : wr.cell? ⟨gb113, 0, none⟩ = some (.slice Ao17 t117.length co17) := (z60 BK113.out 0).trans rfl
          have hcz27_1 : wr.cell? ⟨gb113, 1, none⟩ = some (.slice A0_1 l0_1.length c0_1) := (z60 BK113.out 1).trans rfl
          have hcz27_2 : wr.cell? ⟨gb113, 2, none⟩ = some (.slice A0_2 l0_2.length c0_2) := (z60 BK113.out 2).trans rfl
          have hfz27_0 := z40 BK113.out 0
          have hfz27_1 := z40 BK113.out 1
          have hfz27_2 := z40 BK113.out 2
          have p120 : 0 ≤ (x8_2 : Int) := of_decide_eq_true (by first | (with_reducible assumption) | assumption)
          have q120 : x8_2 < (l0_1.length : Int) := of_decide_eq_true (by first | (with_reducible assumption) | assumption)
          obtain ⟨ad120, e120, hx120_0⟩ := Kd.at_string HR0_1.out x8_2 p120 q120
          cases e120
          replace hx120_0 := (HB.out.cell (World.block_lt_of_cell? w _ hx120_0)).trans hx120_0
          replace p120 := eq_true p120
          replace q120 := eq_true q120
          have p121 : 0 ≤ (x8_2 : Int) := of_decide_eq_true (by first | (with_reducible assumption) | assumption)
          have q121 : x8_2 < (l0_2.length : Int) := of_decide_eq_true (by first | (with_reducible assumption) | assumption)
          obtain ⟨ad121, e121, hx121_0⟩ := Kd.at_int HR0_2.out x8_2 p121 q121
          cases e121
          replace hx121_0 := (HB.out.cell (World.block_lt_of_cell? w _ hx121_0)).trans hx121_0
          replace p121 := eq_true p121
          replace q121 := eq_true q121
          go_wp2_with (first | ((with_reducible refine zm0 (b := .append) (xs := #[.tmp 40, .tmp 46]) rfl ?_); at_builtin; refine Kd.R_append (Kd.int .i64) (w0 := w) w.heap.size rfl (.tmp 40) (.tmp 46) 28 3 (.int .i64 0) 8 rfl Tryz.underlying28 z76 rfl (by decide) (by omega) u7 x7_2 (rd l0_2 x8_2) [.int .i64 (rd l0_2 x8_2)] (fun _ => True) (fun _ => False) rfl rfl ?aP (fun _ hk => hk.elim) ?aF ?aO ?aB ?aS ?aL ?_; (case aP => exact rfl); (case aB => exact (by repeat (first | (with_reducible first | exact HB.out | apply z80 | apply z90 | apply z50 | refine zc0 ?_ GE113.out | refine zc0 ?_ GE114.out) | exact HB.out))); (case aF => exact (fun _ _ => trivial)); (case aO => exact (by (with_reducible repeat (first | apply Kd.R_alloc | apply Kd.R_drewN | apply Kd.R_drew)); exact HO_7.out)); (case aS => exact (zt0 (by repeat (first | (with_reducible first | exact HB.out | apply z80 | apply z90 | apply z50 | refine zc0 ?_ GE113.out | refine zc0 ?_ GE114.out) | exact HB.out)))); (case aL => have := LMc25.out; omega); intro v123 w28 ho hb hg hat; rw [← Ny122.out] at ho; have n0_ := as0 (Kd.R_over' (by (with_reducible repeat (first | apply Kd.R_alloc | apply Kd.R_drewN | apply Kd.R_drew)); exact HO_114000.out) (Kd.R_typed (by (with_reducible repeat (first | apply Kd.R_alloc | apply Kd.R_drewN | apply Kd.R_drew)); exact HO_7.out)) (by decide) hg); have n1_ := as0 (zk4 (g := gb113) (o := .cells #[.slice Ao17 t117.length co17, .slice (some ad120) l0_1.length c0_1, .slice (some ad121) l0_2.length c0_2] 31 (0, 0)) (by (with_reducible repeat (first | refine zr0 ?_ _ | refine blk_drew ?_ | refine zj0 ?_ _)); exact BK113.out) hg (Kd.R_ne HO_7.out BK113.out (by decide))); have n2_ := as0 (zk4 (g := gb114) (o := .cells #[.slice none 0 0, .slice none 0 0, .slice none 0 0] 31 (0, 0)) (by (with_reducible repeat (first | refine zr0 ?_ _ | refine blk_drew ?_ | refine zj0 ?_ _)); exact BK114.out) hg (Kd.R_ne HO_7.out BK114.out (by decide))); have n3_ := as0 (hb); have n4_ := as0 (ho); clear HO_114000; clear BK113; clear BK114; clear HB; clear HO_7; have HO_114000 := n0_; have BK113 := n1_; have BK114 := n2_; have HB := n3_; have HO124 := n4_; clear n0_ n1_ n2_ n3_ n4_; clear ho hb hg hat))
          go_roundg k2
          case measure => have := HJ2.out; have := HK2.out; omega
          case rel => exact ⟨(y122), (wrap64 (x8_2 + 1)), (by first | rfl | (simp; done) | (simp [*]; done)), H', ⟨by have := HJ2.out; have := HK2.out; omega⟩, ⟨by (with_reducible repeat (first | apply Kd.R_alloc | apply Kd.R_drewN | apply Kd.R_drew)); exact HO124.out⟩, ⟨by (with_reducible repeat (first | apply Kd.R_alloc | apply Kd.R_drewN | apply Kd.R_drew)); exact HO_114000.out⟩, ⟨by (with_reducible repeat (first | refine zr0 ?_ _ | refine blk_drew ?_ | refine zj0 ?_ _)); exact BK113.out⟩, ⟨by (with_reducible repeat (first | refine zr0 ?_ _ | refine blk_drew ?_ | refine zj0 ?_ _)); exact BK114.out⟩, ⟨by repeat (first | (with_reducible first | exact HB.out | apply z80 | apply z90 | apply z50 | refine zc0 ?_ GE113.out | refine zc0 ?_ GE114.out) | exact HB.out)⟩⟩
         ·rw [if_neg c25] at H
          exact absurd H (by simp)
        ·rw [if_neg c24] at H
         exact absurd H (by simp)
      ·rw [if_neg c20] at H
       exact absurd H (by simp)
     ·rw [if_neg c19] at H
      have c19b0 : decide (x8_2 < (l0_1.length : Int)) = false := decide_eq_false c19
      clear c19
      replace H := Option.bind_eq_some_iff.mp H
      obtain ⟨t125, A290, H⟩ := H
      replace H : (some (t117, t125, x7_2, x6_2)) = some (r1, r2, r3, r4) := H
      have A29 := as0 A290
      clear A290
      simp only [Option.some.injEq, Prod.mk.injEq] at H
      obtain ⟨rfl, rfl, rfl, rfl⟩ := H
      have hnb30 := NB113_114.out
      have hnc30 := NB114_113.out
      have hcz31_0 : wr.cell? ⟨gb113, 0, none⟩ = some (.slice Ao17 t117.length co17) := (z60 BK113.out 0).trans rfl
      have hcz31_1 : wr.cell? ⟨gb113, 1, none⟩ = some (.slice A0_1 l0_1.length c0_1) := (z60 BK113.out 1).trans rfl
      have hcz31_2 : wr.cell? ⟨gb113, 2, none⟩ = some (.slice A0_2 l0_2.length c0_2) := (z60 BK113.out 2).trans rfl
      have hfz31_0 := z40 BK113.out 0
      have hfz31_1 := z40 BK113.out 1
      have hfz31_2 := z40 BK113.out 2
      go_wp2_with (first | ((with_reducible refine zy0 (f := 109) rfl ?_); refine zx1 (some 51) rfl rfl Tryz.func109 (by kernel_rfl) rfl #[.slice A0_1 l0_1.length c0_1, .string a1] rfl (by (try simp only [List.map_toArray, List.map_cons, List.map_nil]); first | done | rfl | (simp only [List.length_drop, List.length_take]; rfl)) ?_; (with_reducible refine (hostlerref13_without.calls k2 _ _ l0_1 a1 t125 _ ?side1 ?side2 A29.out).mono ?_); (case side1 => repeat (first | exact (Kd.C_below HR0_1.out HB.out) | (with_reducible refine Kd.C_alloc ?_ _) | (with_reducible refine Kd.C_drewN ?_ _) | (with_reducible refine Kd.C_drew ?_))); (case side2 => exact HC0_1.out); rintro e w32 ⟨v126, rfl, ho0, hb⟩; refine ⟨_, rfl, ?_⟩; have n0_ := as0 (Kd.R_below (by (with_reducible repeat (first | apply Kd.R_alloc | apply Kd.R_drewN | apply Kd.R_drew)); exact HO_7.out) hb); have n1_ := as0 (Kd.R_elder' (by (with_reducible repeat (first | apply Kd.R_alloc | apply Kd.R_drewN | apply Kd.R_drew)); exact HO_114000.out) (Kd.R_base ho0) hb); have n2_ := as0 (Kd.R_lower (Kd.R_new' ho0 (Kd.R_lt (by (with_reducible repeat (first | apply Kd.R_alloc | apply Kd.R_drewN | apply Kd.R_drew)); exact HO_114000.out))) (zt0 (by repeat (first | (with_reducible first | exact HB.out | apply z80 | apply z90 | apply z50 | refine zc0 ?_ GE113.out | refine zc0 ?_ GE114.out) | exact HB.out)))); have n3_ := as0 (z20 (g := gb113) (o := .cells #[.slice Ao17 t117.length co17, .slice A0_1 l0_1.length c0_1, .slice A0_2 l0_2.length c0_2] 31 (0, 0)) (by (with_reducible repeat (first | refine zr0 ?_ _ | refine blk_drew ?_ | refine zj0 ?_ _)); exact BK113.out) hb); have n4_ := as0 (z20 (g := gb114) (o := .cells #[.slice none 0 0, .slice none 0 0, .slice none 0 0] 31 (0, 0)) (by (with_reducible repeat (first | refine zr0 ?_ _ | refine blk_drew ?_ | refine zj0 ?_ _)); exact BK114.out) hb); have n5_ := as0 (z10 (by repeat (first | (with_reducible first | exact HB.out | apply z80 | apply z90 | apply z50 | refine zc0 ?_ GE113.out | refine zc0 ?_ GE114.out) | exact HB.out)) hb); clear HO_7; clear HO_114000; clear BK113; clear BK114; clear HB; have HO_7 := n0_; have HO_114000 := n1_; have HO127 := n2_; have BK113 := n3_; have BK114 := n4_; have HB := n5_; clear n0_ n1_ n2_ n3_ n4_ n5_; (try clear hb); (try clear hb2); (try clear hk); (try clear hi); (try clear ho0); obtain ⟨Ao33, co33, eo33⟩ := Kd.R_slice HO127.out; subst eo33; have hcz34_0 : w32.cell? ⟨gb113, 0, none⟩ = some (.slice Ao17 t117.length co17) := (z60 BK113.out 0).trans rfl; have hcz34_1 : w32.cell? ⟨gb113, 1, none⟩ = some (.slice A0_1 l0_1.length c0_1) := (z60 BK113.out 1).trans rfl; have hcz34_2 : w32.cell? ⟨gb113, 2, none⟩ = some (.slice A0_2 l0_2.length c0_2) := (z60 BK113.out 2).trans rfl; have hfz34_0 := z40 BK113.out 0; have hfz34_1 := z40 BK113.out 1; have hfz34_2 := z40 BK113.out 2; obtain ⟨Ao35, co35, eo35⟩ := Kd.R_slice HO_7.out; subst eo35; have hcz36_0 : w32.cell? ⟨gb114, 0, none⟩ = some (.slice none 0 0) := (z60 BK114.out 0).trans rfl; have hcz36_1 : w32.cell? ⟨gb114, 1, none⟩ = some (.slice none 0 0) := (z60 BK114.out 1).trans rfl; have hcz36_2 : w32.cell? ⟨gb114, 2, none⟩ = some (.slice none 0 0) := (z60 BK114.out 2).trans rfl; have hfz36_0 := z40 BK114.out 0; have hfz36_1 := z40 BK114.out 1; have hfz36_2 := z40 BK114.out 2))
      refine bodyPost_ret (zn0 rfl _ _ gb114 31 #[.slice Ao17 t117.length co17, .slice Ao33 t125.length co33, .slice Ao35 x7_2.length co35] (0, 0) _ rfl (by (with_reducible repeat (first | refine zr0 ?_ _ | refine blk_drew ?_ | refine zj0 ?_ _)); refine zz1 (cs := #[.slice Ao17 t117.length co17, .slice Ao33 t125.length co33, .slice none 0 0]) ?_ 2 _ rfl; (with_reducible repeat (first | refine zr0 ?_ _ | refine blk_drew ?_ | refine zj0 ?_ _)); refine zz1 (cs := #[.slice Ao17 t117.length co17, .slice none 0 0, .slice none 0 0]) ?_ 1 _ rfl; (with_reducible repeat (first | refine zr0 ?_ _ | refine blk_drew ?_ | refine zj0 ?_ _)); refine zz1 (cs := #[.slice none 0 0, .slice none 0 0, .slice none 0 0]) ?_ 0 _ rfl; (with_reducible repeat (first | refine zr0 ?_ _ | refine blk_drew ?_ | refine zj0 ?_ _)); refine zt5 ?_ NB114_113.out _; (with_reducible repeat (first | refine zr0 ?_ _ | refine blk_drew ?_ | refine zj0 ?_ _)); refine zt5 ?_ NB114_113.out _; (with_reducible repeat (first | refine zr0 ?_ _ | refine blk_drew ?_ | refine zj0 ?_ _)); exact BK114.out) Tryz.underlying31 rfl (by kernel_rfl)) rfl ?_
      exact ⟨_, _, _, by first | rfl | (simp only [Int.ofNat_lt]; rfl) | (simp [errW_none, errW_some] <;> rfl) | (simp [*, errW_none, errW_some] <;> rfl), by (with_reducible repeat (first | apply Kd.R_alloc | apply Kd.R_drewN | apply Kd.R_drew)); exact Kd.R_mono (Kd.R_far (p := ⟨gb114, 2, none⟩) (Kd.R_far (p := ⟨gb114, 1, none⟩) (Kd.R_far (p := ⟨gb114, 0, none⟩) (Kd.R_far (p := ⟨gb113, 2, none⟩) (Kd.R_far (p := ⟨gb113, 1, none⟩) (Kd.R_types (Kd.R_types HO_114000.out BK113.out (by decide)) BK114.out (by decide)) (fun _ hk => hk.1.2) (.slice Ao33 t125.length co33)) (fun _ hk => hk.1.2) (.slice Ao35 x7_2.length co35)) (fun _ hk => hk.2) (.slice Ao17 t117.length co17)) (fun _ hk => hk.2) (.slice Ao33 t125.length co33)) (fun _ hk => hk.2) (.slice Ao35 x7_2.length co35)) (fun _ hk => hk.1.1.2), by (with_reducible repeat (first | apply Kd.R_alloc | apply Kd.R_drewN | apply Kd.R_drew)); exact Kd.R_mono (Kd.R_far (p := ⟨gb114, 2, none⟩) (Kd.R_far (p := ⟨gb114, 1, none⟩) (Kd.R_far (p := ⟨gb114, 0, none⟩) (Kd.R_far (p := ⟨gb113, 2, none⟩) (Kd.R_far (p := ⟨gb113, 1, none⟩) (Kd.R_types (Kd.R_types HO127.out BK113.out (by decide)) BK114.out (by decide)) (fun _ hk => hk.1.2) (.slice Ao33 t125.length co33)) (fun _ hk => hk.1.2) (.slice Ao35 x7_2.length co35)) (fun _ hk => hk.2) (.slice Ao17 t117.length co17)) (fun _ hk => hk.2) (.slice Ao33 t125.length co33)) (fun _ hk => hk.2) (.slice Ao35 x7_2.length co35)) (fun _ hk => hk.1.1.2), by (with_reducible repeat (first | apply Kd.R_alloc | apply Kd.R_drewN | apply Kd.R_drew)); exact Kd.R_mono (Kd.R_far (p := ⟨gb114, 2, none⟩) (Kd.R_far (p := ⟨gb114, 1, none⟩) (Kd.R_far (p := ⟨gb114, 0, none⟩) (Kd.R_far (p := ⟨gb113, 2, none⟩) (Kd.R_far (p := ⟨gb113, 1, none⟩) (Kd.R_types (Kd.R_types HO_7.out BK113.out (by decide)) BK114.out (by decide)) (fun _ hk => hk.1.2) (.slice Ao33 t125.length co33)) (fun _ hk => hk.1.2) (.slice Ao35 x7_2.length co35)) (fun _ hk => hk.2) (.slice Ao17 t117.length co17)) (fun _ hk => hk.2) (.slice Ao33 t125.length co33)) (fun _ hk => hk.2) (.slice Ao35 x7_2.length co35)) (fun _ hk => trivial), by repeat (first | (with_reducible first | exact HB.out | apply z80 | apply z90 | apply z50 | refine zc0 ?_ GE113.out | refine zc0 ?_ GE114.out) | exact HB.out)⟩
def hostlerref01_Cut.f (a0 : Int) : Option (Int) := if a0 < 0 then (some 0) else (if a0 > 1099511627776 then (some 1099511627776) else (some a0))
theorem hostlerref01_Cut.calls (a0 : Int) (r : Int) (w : World) (h : hostlerref01_Cut.f a0 = some r) :
  Calls Tryz.prog 97 #[.int .i64 a0] w fun e w' => e = .returned (.int .i64 r) ∧ Drawn0 w w' := by
 have H : (if a0 < 0 then (some 0) else (if a0 > 1099511627776 then (some 1099511627776) else (some a0))) = some r := h
 clear h
 by_cases c2 : a0 < 0
 ·rw [if_pos c2] at H
  have c2b0 : decide (a0 < 0) = true := decide_eq_true c2
  clear c2
  obtain rfl := Option.some.inj H
  go_enter Tryz.func97, Tryz.ntmps97
  go_wp2
  go_ret
  exact ⟨by first | rfl | (simp; done) | (simp [*]; done), by repeat (first | exact Drawn0.refl _ | apply Drawn0.step)⟩
 ·rw [if_neg c2] at H
  have c2b0 : decide (a0 < 0) = false := decide_eq_false c2
  clear c2
  by_cases c3 : a0 > 1099511627776
  ·rw [if_pos c3] at H
   have c3b0 : decide (1099511627776 < a0) = true := decide_eq_true c3
   clear c3
   obtain rfl := Option.some.inj H
   go_enter Tryz.func97, Tryz.ntmps97
   go_wp2
   go_ret
   exact ⟨by first | rfl | (simp; done) | (simp [*]; done), by repeat (first | exact Drawn0.refl _ | apply Drawn0.step)⟩
  ·rw [if_neg c3] at H
   have c3b0 : decide (1099511627776 < a0) = false := decide_eq_false c3
   clear c3
   obtain rfl := Option.some.inj H
   go_enter Tryz.func97, Tryz.ntmps97
   go_wp2
   go_ret
   exact ⟨by first | rfl | (simp; done) | (simp [*]; done), by repeat (first | exact Drawn0.refl _ | apply Drawn0.step)⟩
def hostlerref01_Past.f (a0 : Int) (a1 : Int) : Option (Bool) := (hostlerref01_Cut.f a0).bind fun t128 => ((hostlerref01_Cut.f a1).bind fun t129 => (some (decide (t128 ≥ t129))))
theorem hostlerref01_Past.calls (a0 : Int) (a1 : Int) (r : Bool) (w : World) (h : hostlerref01_Past.f a0 a1 = some r) :
  Calls Tryz.prog 71 #[.int .i64 a0, .int .i64 a1] w fun e w' => e = .returned (.bool r) ∧ Drawn0 w w' := by
 have H : ((hostlerref01_Cut.f a0).bind fun t128 => ((hostlerref01_Cut.f a1).bind fun t129 => (some (decide (t128 ≥ t129))))) = some r := h
 clear h
 replace H := Option.bind_eq_some_iff.mp H
 obtain ⟨t128, A30, H⟩ := H
 replace H : ((hostlerref01_Cut.f a1).bind fun t129 => (some (decide (t128 ≥ t129)))) = some r := H
 have A3 := as0 A30
 clear A30
 replace H := Option.bind_eq_some_iff.mp H
 obtain ⟨t129, A40, H⟩ := H
 replace H : (some (decide (t128 ≥ t129))) = some r := H
 have A4 := as0 A40
 clear A40
 obtain rfl := Option.some.inj H
 go_enter Tryz.func71, Tryz.ntmps71
 go_wp2_with (first | ((with_reducible refine zy0 (f := 97) rfl ?_); refine zx1 (some 6) rfl rfl Tryz.func97 (by kernel_rfl) rfl #[.int .i64 a0] rfl (by (try simp only [List.map_toArray, List.map_cons, List.map_nil]); first | done | rfl | (simp only [List.length_drop, List.length_take]; rfl)) ?_; (with_reducible refine (hostlerref01_Cut.calls a0 t128 _ A3.out).mono ?_); rintro e w' ⟨rfl, ⟨nd, rfl⟩⟩; refine ⟨_, rfl, ?_⟩) | ((with_reducible refine zy0 (f := 97) rfl ?_); refine zx1 (some 8) rfl rfl Tryz.func97 (by kernel_rfl) rfl #[.int .i64 a1] rfl (by (try simp only [List.map_toArray, List.map_cons, List.map_nil]); first | done | rfl | (simp only [List.length_drop, List.length_take]; rfl)) ?_; (with_reducible refine (hostlerref01_Cut.calls a1 t129 _ A4.out).mono ?_); rintro e w' ⟨rfl, ⟨nd, rfl⟩⟩; refine ⟨_, rfl, ?_⟩))
 go_ret
 exact ⟨by first | rfl | (simp; done) | (simp [*]; done), by repeat (first | exact Drawn0.refl _ | apply Drawn0.step)⟩
def hostlerref13_Due.l0 : Nat → Int → List ByteArray → Int → List ByteArray → List ByteArray → List Int → Option (List ByteArray)
 | 0, _, _, _, _, _, _ => none
 | k + 1, x1, x5, x6, x131000, x131001, x131002 => if x6 < (x131001.length : Int) then (if 0 ≤ x6 then (if x6 < (x131002.length : Int) then ((hostlerref01_Past.f x1 (rd x131002 x6)).bind fun t132 => (if t132 = true then (if x5.length < 8796093022208 then (hostlerref13_Due.l0 k x1 (x5 ++ [rdOf ByteArray.empty x131001 x6]) (wrap64 (x6 + 1)) x131000 x131001 x131002) else (none)) else (hostlerref13_Due.l0 k x1 x5 (wrap64 (x6 + 1)) x131000 x131001 x131002))) else (none)) else (none)) else (some x5)
def hostlerref13_Due.f (k : Nat) (l0_0 : List ByteArray) (l0_1 : List ByteArray) (l0_2 : List Int) (a1 : Int) : Option (List ByteArray) := hostlerref13_Due.l0 k a1 ([] : List ByteArray) 0 l0_0 l0_1 l0_2
theorem hostlerref13_Due.calls (k : Nat) (A0_0 : Option Addr) (c0_0 : Nat) (l0_0 : List ByteArray) (A0_1 : Option Addr) (c0_1 : Nat) (l0_1 : List ByteArray) (A0_2 : Option Addr) (c0_2 : Nat) (l0_2 : List Int) (a1 : Int) (r : List ByteArray) (w : World) (hr0_0 : Kd.C Kd.string w A0_0 l0_0.length l0_0) (hc0_0 : l0_0.length ≤ c0_0) (hr0_1 : Kd.C Kd.string w A0_1 l0_1.length l0_1) (hc0_1 : l0_1.length ≤ c0_1) (hr0_2 : Kd.C (Kd.int .i64) w A0_2 l0_2.length l0_2) (hc0_2 : l0_2.length ≤ c0_2) (h : hostlerref13_Due.f k l0_0 l0_1 l0_2 a1 = some r) :
  Calls Tryz.prog 37 #[.agg #[.slice A0_0 l0_0.length c0_0, .slice A0_1 l0_1.length c0_1, .slice A0_2 l0_2.length c0_2], .int .i64 a1] w fun e w' => ∃ v0_ : Value, e = .returned (v0_) ∧ Kd.R Kd.string 9 w' w.heap.size (fun _ => True) v0_ r ∧ Below w.heap.size w w' := by
 have hu31 := Tryz.underlying31
 have HR0_0 := as0 hr0_0
 have HC0_0 := as0 hc0_0
 clear hr0_0 hc0_0
 have HR0_1 := as0 hr0_1
 have HC0_1 := as0 hc0_1
 clear hr0_1 hc0_1
 have HR0_2 := as0 hr0_2
 have HC0_2 := as0 hc0_2
 clear hr0_2 hc0_2
 have HB := as0 (Below.refl w.heap.size w)
 have H : (hostlerref13_Due.l0 k a1 ([] : List ByteArray) 0 l0_0 l0_1 l0_2) = some r := h
 clear h
 have H' := as0 H
 clear H
 go_enter Tryz.func37, Tryz.ntmps37
 go_wp2_with (first | ((with_reducible refine za1 (N := 2) rfl ?_); refine z51 ?hg (N := 2) ?hd (cs := #[.slice A0_0 l0_0.length c0_0, .slice A0_1 l0_1.length c0_1, .slice A0_2 l0_2.length c0_2]) (t := 31) ?hr ?_; (case hd => rfl); (case hg => rfl); (case hr => first | (go_simp; done) | (go_simp; rfl)); intro gb130 hg w3 hbox hb; have n0_ := as0 (z10 (by repeat (first | (with_reducible first | exact HB.out | apply z80 | apply z90 | apply z50) | exact HB.out)) hb); have n1_ := as0 (hbox); have n2_ := as0 ((by rw [hg]; exact (zt0 (by repeat (first | (with_reducible first | exact HB.out | apply z80 | apply z90 | apply z50) | exact HB.out))) : w.heap.size ≤ gb130)); have n3_ := as0 ((by rw [hg]; exact (zt0 (by repeat (first | (with_reducible first | exact HB.out | apply z80 | apply z90 | apply z50) | exact HB.out))) : w.heap.size ≤ gb130)); clear HB; have HB := n0_; have BK130 := n1_; have GW130 := n2_; have GE130 := n3_; clear n0_ n1_ n2_ n3_; clear hb hbox hg))
 go_loopg [5, 6] k (fun kq v5 v6 w' => ∃ (x5_1 : List ByteArray) (x6_1 : Int), v6 = .int .i64 x6_1 ∧ Aside0 (hostlerref13_Due.l0 kq a1 x5_1 x6_1 l0_0 l0_1 l0_2 = some r) ∧ Aside0 (kq ≤ k) ∧ Aside0 (Kd.R Kd.string 9 w' w.heap.size (fun _ => True) v5 x5_1) ∧ Aside0 (w'.heap[gb130]? = some (.cells #[(.slice A0_0 l0_0.length c0_0), (.slice A0_1 l0_1.length c0_1), (.slice A0_2 l0_2.length c0_2)] 31 (0, 0))) ∧ Aside0 (Below w.heap.size w w'))
 case atStart => exact ⟨(([] : List ByteArray)), (0), (by first | rfl | (simp; done) | (simp [*]; done)), H', ⟨Nat.le_refl _⟩, ⟨by first | exact Kd.R_nil _ _ _ _ _ | exact Kd.N_nil _ _ _ _ _ | exact Kd.V_nil _ _ _ _ _ | exact Kd.Q_nil _ _ _ _ _ | exact Kd.S_nil _ _ _ _ _⟩, ⟨by (with_reducible repeat (first | refine zr0 ?_ _ | refine blk_drew ?_ | refine zj0 ?_ _)); exact BK130.out⟩, ⟨by repeat (first | (with_reducible first | exact HB.out | apply z80 | apply z90 | apply z50 | refine zc0 ?_ GE130.out) | exact HB.out)⟩⟩
 case round =>
  clear H'
  try clear p2
  try clear c3
  obtain ⟨x5_1, x6_1, rfl, HA, HK1, HO_5, BK130, HB⟩ := hrel
  cases gk with
  | zero => exact absurd HA.out (by simp [hostlerref13_Due.l0])
  | succ k1 =>
   have H := HA.out
   clear HA
   simp only [hostlerref13_Due.l0] at H
   by_cases c4 : x6_1 < (l0_1.length : Int)
   ·rw [if_pos c4] at H
    have c4b0 : decide (x6_1 < (l0_1.length : Int)) = true := decide_eq_true c4
    clear c4
    by_cases c5 : 0 ≤ x6_1
    ·rw [if_pos c5] at H
     have c5b0 : decide (0 ≤ x6_1) = true := decide_eq_true c5
     clear c5
     by_cases c6 : x6_1 < (l0_2.length : Int)
     ·rw [if_pos c6] at H
      have c6b0 : decide (x6_1 < (l0_2.length : Int)) = true := decide_eq_true c6
      clear c6
      replace H := Option.bind_eq_some_iff.mp H
      obtain ⟨t132, A70, H⟩ := H
      replace H : (if t132 = true then (if x5_1.length < 8796093022208 then (hostlerref13_Due.l0 k1 a1 (x5_1 ++ [rdOf ByteArray.empty l0_1 x6_1]) (wrap64 (x6_1 + 1)) l0_0 l0_1 l0_2) else (none)) else (hostlerref13_Due.l0 k1 a1 x5_1 (wrap64 (x6_1 + 1)) l0_0 l0_1 l0_2)) = some r := H
      have A7 := as0 A70
      clear A70
      by_cases c8 : t132 = true
      ·subst c8
       have H1 : (if x5_1.length < 8796093022208 then (hostlerref13_Due.l0 k1 a1 (x5_1 ++ [rdOf ByteArray.empty l0_1 x6_1]) (wrap64 (x6_1 + 1)) l0_0 l0_1 l0_2) else (none)) = some r := by rw [if_pos rfl] at H; exact H
       clear H
       have H := H1
       clear H1
       by_cases c9 : x5_1.length < 8796093022208
       ·rw [if_pos c9] at H
        have LMc9 := as0 c9
        clear c9
        obtain ⟨y134, hy134⟩ : ∃ y_ : List ByteArray, y_ = (x5_1 ++ [rdOf ByteArray.empty l0_1 x6_1]) := ⟨_, rfl⟩
        replace H : (hostlerref13_Due.l0 k1 a1 y134 (wrap64 (x6_1 + 1)) l0_0 l0_1 l0_2) = some r := by first | (rw [hy134]; with_reducible exact H) | (have H2_ := (Option.bind_some _ _).symm.trans H; rw [hy134]; with_reducible exact H2_) | (have H2_ := (Option.bind_some _ _).symm.trans H; with_reducible exact H2_) | with_reducible exact H | (rw [hy134]; exact H) | exact H
        have Ny134 := as0 hy134
        clear hy134
        have H' := as0 H
        clear H
        have hcz10_0 : wr.cell? ⟨gb130, 0, none⟩ = some (.slice A0_0 l0_0.length c0_0) := (z60 BK130.out 0).trans rfl
        have hcz10_1 : wr.cell? ⟨gb130, 1, none⟩ = some (.slice A0_1 l0_1.length c0_1) := (z60 BK130.out 1).trans rfl
        have hcz10_2 : wr.cell? ⟨gb130, 2, none⟩ = some (.slice A0_2 l0_2.length c0_2) := (z60 BK130.out 2).trans rfl
        have hfz10_0 := z40 BK130.out 0
        have hfz10_1 := z40 BK130.out 1
        have hfz10_2 := z40 BK130.out 2
        have p131 : 0 ≤ (x6_1 : Int) := of_decide_eq_true (by first | (with_reducible assumption) | assumption)
        have q131 : x6_1 < (l0_2.length : Int) := of_decide_eq_true (by first | (with_reducible assumption) | assumption)
        obtain ⟨ad131, e131, hx131_0⟩ := Kd.at_int HR0_2.out x6_1 p131 q131
        cases e131
        replace hx131_0 := (HB.out.cell (World.block_lt_of_cell? w _ hx131_0)).trans hx131_0
        replace p131 := eq_true p131
        replace q131 := eq_true q131
        go_wp2_with (first | ((with_reducible refine zy0 (f := 71) rfl ?_); refine zx1 (some 21) rfl rfl Tryz.func71 (by kernel_rfl) rfl #[.int .i64 a1, .int .i64 (rd l0_2 x6_1)] rfl (by (try simp only [List.map_toArray, List.map_cons, List.map_nil]); first | done | rfl | (simp only [List.length_drop, List.length_take]; rfl)) ?_; (with_reducible refine (hostlerref01_Past.calls a1 (rd l0_2 x6_1) true _ A7.out).mono ?_); rintro e w' ⟨rfl, ⟨nd, rfl⟩⟩; refine ⟨_, rfl, ?_⟩; have p133 : 0 ≤ (x6_1 : Int) := of_decide_eq_true (by first | (with_reducible assumption) | assumption); have q133 : x6_1 < (l0_1.length : Int) := of_decide_eq_true (by first | (with_reducible assumption) | assumption); obtain ⟨ad133, e133, hx133_0⟩ := Kd.at_string HR0_1.out x6_1 p133 q133; cases e133; replace hx133_0 := (HB.out.cell (World.block_lt_of_cell? w _ hx133_0)).trans hx133_0; replace p133 := eq_true p133; replace q133 := eq_true q133) | ((with_reducible refine zm0 (b := .append) (xs := #[.tmp 23, .tmp 29]) rfl ?_); at_builtin; refine Kd.R_append Kd.string (w0 := w) w.heap.size rfl (.tmp 23) (.tmp 29) 27 9 (.string ⟨#[]⟩) 16 rfl Tryz.underlying27 z53 rfl (by decide) (by omega) u5 x5_1 (rdOf ByteArray.empty l0_1 x6_1) [.string (rdOf ByteArray.empty l0_1 x6_1)] (fun _ => True) (fun _ => False) rfl rfl ?aP (fun _ hk => hk.elim) ?aF ?aO ?aB ?aS ?aL ?_; (case aP => exact rfl); (case aB => exact (by repeat (first | (with_reducible first | exact HB.out | apply z80 | apply z90 | apply z50 | refine zc0 ?_ GE130.out) | exact HB.out))); (case aF => exact (fun _ _ => trivial)); (case aO => exact (by (with_reducible repeat (first | apply Kd.R_alloc | apply Kd.R_drewN | apply Kd.R_drew)); exact HO_5.out)); (case aS => exact (zt0 (by repeat (first | (with_reducible first | exact HB.out | apply z80 | apply z90 | apply z50 | refine zc0 ?_ GE130.out) | exact HB.out)))); (case aL => have := LMc9.out; omega); intro v135 w11 ho hb hg hat; rw [← Ny134.out] at ho; have n0_ := as0 (zk4 (g := gb130) (o := .cells #[.slice A0_0 l0_0.length c0_0, .slice (some ad133) l0_1.length c0_1, .slice (some ad131) l0_2.length c0_2] 31 (0, 0)) (by (with_reducible repeat (first | refine zr0 ?_ _ | refine blk_drew ?_ | refine zj0 ?_ _)); exact BK130.out) hg (Kd.R_ne HO_5.out BK130.out (by decide))); have n1_ := as0 (hb); have n2_ := as0 (ho); clear BK130; clear HB; clear HO_5; have BK130 := n0_; have HB := n1_; have HO136 := n2_; clear n0_ n1_ n2_; clear ho hb hg hat))
        go_roundg k1
        case measure => have := HK1.out; omega
        case rel => exact ⟨(y134), (wrap64 (x6_1 + 1)), (by first | rfl | (simp; done) | (simp [*]; done)), H', ⟨by have := HK1.out; omega⟩, ⟨by (with_reducible repeat (first | apply Kd.R_alloc | apply Kd.R_drewN | apply Kd.R_drew)); exact HO136.out⟩, ⟨by (with_reducible repeat (first | refine zr0 ?_ _ | refine blk_drew ?_ | refine zj0 ?_ _)); exact BK130.out⟩, ⟨by repeat (first | (with_reducible first | exact HB.out | apply z80 | apply z90 | apply z50 | refine zc0 ?_ GE130.out) | exact HB.out)⟩⟩
       ·rw [if_neg c9] at H
        exact absurd H (by simp)
      ·replace c8 := Bool.eq_false_iff.mpr c8
       subst c8
       have H1 : (hostlerref13_Due.l0 k1 a1 x5_1 (wrap64 (x6_1 + 1)) l0_0 l0_1 l0_2) = some r := by rw [if_neg (show ¬ (false = true) by decide)] at H; exact H
       clear H
       have H := H1
       clear H1
       have H' := as0 H
       clear H
       have hcz12_0 : wr.cell? ⟨gb130, 0, none⟩ = some (.slice A0_0 l0_0.length c0_0) := (z60 BK130.out 0).trans rfl
       have hcz12_1 : wr.cell? ⟨gb130, 1, none⟩ = some (.slice A0_1 l0_1.length c0_1) := (z60 BK130.out 1).trans rfl
       have hcz12_2 : wr.cell? ⟨gb130, 2, none⟩ = some (.slice A0_2 l0_2.length c0_2) := (z60 BK130.out 2).trans rfl
       have hfz12_0 := z40 BK130.out 0
       have hfz12_1 := z40 BK130.out 1
       have hfz12_2 := z40 BK130.out 2
       have p131 : 0 ≤ (x6_1 : Int) := of_decide_eq_true (by first | (with_reducible assumption) | assumption)
       have q131 : x6_1 < (l0_2.length : Int) := of_decide_eq_true (by first | (with_reducible assumption) | assumption)
       obtain ⟨ad131, e131, hx131_0⟩ := Kd.at_int HR0_2.out x6_1 p131 q131
       cases e131
       replace hx131_0 := (HB.out.cell (World.block_lt_of_cell? w _ hx131_0)).trans hx131_0
       replace p131 := eq_true p131
       replace q131 := eq_true q131
       go_wp2_with (first | ((with_reducible refine zy0 (f := 71) rfl ?_); refine zx1 (some 21) rfl rfl Tryz.func71 (by kernel_rfl) rfl #[.int .i64 a1, .int .i64 (rd l0_2 x6_1)] rfl (by (try simp only [List.map_toArray, List.map_cons, List.map_nil]); first | done | rfl | (simp only [List.length_drop, List.length_take]; rfl)) ?_; (with_reducible refine (hostlerref01_Past.calls a1 (rd l0_2 x6_1) false _ A7.out).mono ?_); rintro e w' ⟨rfl, ⟨nd, rfl⟩⟩; refine ⟨_, rfl, ?_⟩))
       go_roundg k1
       case measure => have := HK1.out; omega
       case rel => exact ⟨(x5_1), (wrap64 (x6_1 + 1)), (by first | rfl | (simp; done) | (simp [*]; done)), H', ⟨by have := HK1.out; omega⟩, ⟨by (with_reducible repeat (first | apply Kd.R_alloc | apply Kd.R_drewN | apply Kd.R_drew)); exact HO_5.out⟩, ⟨by (with_reducible repeat (first | refine zr0 ?_ _ | refine blk_drew ?_ | refine zj0 ?_ _)); exact BK130.out⟩, ⟨by repeat (first | (with_reducible first | exact HB.out | apply z80 | apply z90 | apply z50 | refine zc0 ?_ GE130.out) | exact HB.out)⟩⟩
     ·rw [if_neg c6] at H
      exact absurd H (by simp)
    ·rw [if_neg c5] at H
     exact absurd H (by simp)
   ·rw [if_neg c4] at H
    have c4b0 : decide (x6_1 < (l0_1.length : Int)) = false := decide_eq_false c4
    clear c4
    obtain rfl := Option.some.inj H
    have hcz13_0 : wr.cell? ⟨gb130, 0, none⟩ = some (.slice A0_0 l0_0.length c0_0) := (z60 BK130.out 0).trans rfl
    have hcz13_1 : wr.cell? ⟨gb130, 1, none⟩ = some (.slice A0_1 l0_1.length c0_1) := (z60 BK130.out 1).trans rfl
    have hcz13_2 : wr.cell? ⟨gb130, 2, none⟩ = some (.slice A0_2 l0_2.length c0_2) := (z60 BK130.out 2).trans rfl
    have hfz13_0 := z40 BK130.out 0
    have hfz13_1 := z40 BK130.out 1
    have hfz13_2 := z40 BK130.out 2
    go_wp2
    go_ret
    exact ⟨_, by first | rfl | (simp only [Int.ofNat_lt]; rfl) | (simp [errW_none, errW_some] <;> rfl) | (simp [*, errW_none, errW_some] <;> rfl), by (with_reducible repeat (first | apply Kd.R_alloc | apply Kd.R_drewN | apply Kd.R_drew)); exact HO_5.out, by repeat (first | (with_reducible first | exact HB.out | apply z80 | apply z90 | apply z50 | refine zc0 ?_ GE130.out) | exact HB.out)⟩
end
section
attribute [local go_sem] zt1 zv1 zd2 zb2 zn1 zl1 z32 z52   -- for this text's walks alone
def hostlerref09_Name.l0 : Nat → ByteArray → Int → Option (Bool)
 | 0, _, _ => none
 | k + 1, x0, x3 => if x3 < (x0.size : Int) then (if 0 ≤ x3 then (if (bt x0 x3) ≥ 97 then (if (bt x0 x3) ≤ 122 then (hostlerref09_Name.l0 k x0 (wrap64 (x3 + 1))) else (if (bt x0 x3) ≥ 48 then (if (bt x0 x3) ≤ 57 then (hostlerref09_Name.l0 k x0 (wrap64 (x3 + 1))) else (if (bt x0 x3) = 46 then (hostlerref09_Name.l0 k x0 (wrap64 (x3 + 1))) else (if (bt x0 x3) = 45 then (hostlerref09_Name.l0 k x0 (wrap64 (x3 + 1))) else (some false)))) else (if (bt x0 x3) = 46 then (hostlerref09_Name.l0 k x0 (wrap64 (x3 + 1))) else (if (bt x0 x3) = 45 then (hostlerref09_Name.l0 k x0 (wrap64 (x3 + 1))) else (some false))))) else (if (bt x0 x3) ≥ 48 then (if (bt x0 x3) ≤ 57 then (hostlerref09_Name.l0 k x0 (wrap64 (x3 + 1))) else (if (bt x0 x3) = 46 then (hostlerref09_Name.l0 k x0 (wrap64 (x3 + 1))) else (if (bt x0 x3) = 45 then (hostlerref09_Name.l0 k x0 (wrap64 (x3 + 1))) else (some false)))) else (if (bt x0 x3) = 46 then (hostlerref09_Name.l0 k x0 (wrap64 (x3 + 1))) else (if (bt x0 x3) = 45 then (hostlerref09_Name.l0 k x0 (wrap64 (x3 + 1))) else (some false))))) else (none)) else (if (x0.size : Int) ≥ 1 then (some (decide ((x0.size : Int) ≤ 16))) else (some false))
def hostlerref09_Name.f (k : Nat) (a0 : ByteArray) : Option (Bool) := hostlerref09_Name.l0 k a0 0
theorem hostlerref09_Name.calls (k : Nat) (a0 : ByteArray) (r : Bool) (w : World) (h : hostlerref09_Name.f k a0 = some r) :
  Calls Tryz.prog 87 #[.string a0] w fun e w' => e = .returned (.bool r) ∧ Drawn0 w w' := by
 have H : (hostlerref09_Name.l0 k a0 0) = some r := h
 clear h
 have H' := as0 H
 clear H
 go_enter Tryz.func87, Tryz.ntmps87
 go_wp2
 go_loopg [3] k (fun kq v3 w' => ∃ (x3_1 : Int), v3 = .int .i64 x3_1 ∧ Aside0 (hostlerref09_Name.l0 kq a0 x3_1 = some r) ∧ Aside0 (kq ≤ k) ∧ Drawn0 w w')
 case atStart => exact ⟨(0), (by first | rfl | (simp; done) | (simp [*]; done)), H', ⟨Nat.le_refl _⟩, by repeat (first | exact Drawn0.refl _ | apply Drawn0.step)⟩
 case round =>
  clear H'
  obtain ⟨x3_1, rfl, HA, HK1, ⟨m1, rfl⟩⟩ := hrel
  cases gk with
  | zero => exact absurd HA.out (by simp [hostlerref09_Name.l0])
  | succ k1 =>
   have H := HA.out
   clear HA
   simp only [hostlerref09_Name.l0] at H
   by_cases c2 : x3_1 < (a0.size : Int)
   ·rw [if_pos c2] at H
    have c2b0 : decide (x3_1 < (a0.size : Int)) = true := decide_eq_true c2
    clear c2
    by_cases c3 : 0 ≤ x3_1
    ·rw [if_pos c3] at H
     have c3b0 : decide (0 ≤ x3_1) = true := decide_eq_true c3
     clear c3
     by_cases c5 : (bt a0 x3_1) ≥ 97
     ·rw [if_pos c5] at H
      have c5b0 : decide (97 ≤ (bt a0 x3_1)) = true := decide_eq_true c5
      clear c5
      by_cases c6 : (bt a0 x3_1) ≤ 122
      ·rw [if_pos c6] at H
       have c6b0 : decide ((bt a0 x3_1) ≤ 122) = true := decide_eq_true c6
       clear c6
       have H' := as0 H
       clear H
       have p4 : 0 ≤ (x3_1 : Int) := of_decide_eq_true (by first | (with_reducible assumption) | assumption)
       have q4 : x3_1 < (a0.size : Int) := of_decide_eq_true (by first | (with_reducible assumption) | assumption)
       have hx4 := zw2 a0 x3_1
       replace p4 := eq_true p4
       replace q4 := eq_true q4
       go_wp2
       go_roundg k1
       case measure => have := HK1.out; omega
       case rel => exact ⟨(wrap64 (x3_1 + 1)), (by first | rfl | (simp; done) | (simp [*]; done)), H', ⟨by have := HK1.out; omega⟩, by repeat (first | exact Drawn0.refl _ | apply Drawn0.step)⟩
      ·rw [if_neg c6] at H
       have c6b0 : decide ((bt a0 x3_1) ≤ 122) = false := decide_eq_false c6
       clear c6
       by_cases c7 : (bt a0 x3_1) ≥ 48
       ·rw [if_pos c7] at H
        have c7b0 : decide (48 ≤ (bt a0 x3_1)) = true := decide_eq_true c7
        clear c7
        by_cases c8 : (bt a0 x3_1) ≤ 57
        ·rw [if_pos c8] at H
         have c8b0 : decide ((bt a0 x3_1) ≤ 57) = true := decide_eq_true c8
         clear c8
         have H' := as0 H
         clear H
         have p4 : 0 ≤ (x3_1 : Int) := of_decide_eq_true (by first | (with_reducible assumption) | assumption)
         have q4 : x3_1 < (a0.size : Int) := of_decide_eq_true (by first | (with_reducible assumption) | assumption)
         have hx4 := zw2 a0 x3_1
         replace p4 := eq_true p4
         replace q4 := eq_true q4
         go_wp2
         go_roundg k1
         case measure => have := HK1.out; omega
         case rel => exact ⟨(wrap64 (x3_1 + 1)), (by first | rfl | (simp; done) | (simp [*]; done)), H', ⟨by have := HK1.out; omega⟩, by repeat (first | exact Drawn0.refl _ | apply Drawn0.step)⟩
        ·rw [if_neg c8] at H
         have c8b0 : decide ((bt a0 x3_1) ≤ 57) = false := decide_eq_false c8
         clear c8
         by_cases c9 : (bt a0 x3_1) = 46
         ·rw [if_pos c9] at H
          have c9b0 : ((bt a0 x3_1) == 46) = true := beq_iff_eq.mpr c9
          have c9b1 : ((bt a0 x3_1) != 46) = false := bne_eq_false_iff_eq.mpr c9
          clear c9
          have H' := as0 H
          clear H
          have p4 : 0 ≤ (x3_1 : Int) := of_decide_eq_true (by first | (with_reducible assumption) | assumption)
          have q4 : x3_1 < (a0.size : Int) := of_decide_eq_true (by first | (with_reducible assumption) | assumption)
          have hx4 := zw2 a0 x3_1
          replace p4 := eq_true p4
          replace q4 := eq_true q4
          go_wp2
          go_roundg k1
          case measure => have := HK1.out; omega
          case rel => exact ⟨(wrap64 (x3_1 + 1)), (by first | rfl | (simp; done) | (simp [*]; done)), H', ⟨by have := HK1.out; omega⟩, by repeat (first | exact Drawn0.refl _ | apply Drawn0.step)⟩
         ·rw [if_neg c9] at H
          have c9b0 : ((bt a0 x3_1) == 46) = false := beq_eq_false_iff_ne.mpr c9
          have c9b1 : ((bt a0 x3_1) != 46) = true := bne_iff_ne.mpr c9
          by_cases c10 : (bt a0 x3_1) = 45
          ·rw [if_pos c10] at H
           have c10b0 : ((bt a0 x3_1) == 45) = true := beq_iff_eq.mpr c10
           have c10b1 : ((bt a0 x3_1) != 45) = false := bne_eq_false_iff_eq.mpr c10
           clear c10
           have H' := as0 H
           clear H
           have p4 : 0 ≤ (x3_1 : Int) := of_decide_eq_true (by first | (with_reducible assumption) | assumption)
           have q4 : x3_1 < (a0.size : Int) := of_decide_eq_true (by first | (with_reducible assumption) | assumption)
           have hx4 := zw2 a0 x3_1
           replace p4 := eq_true p4
           replace q4 := eq_true q4
           go_wp2
           go_roundg k1
           case measure => have := HK1.out; omega
           case rel => exact ⟨(wrap64 (x3_1 + 1)), (by first | rfl | (simp; done) | (simp [*]; done)), H', ⟨by have := HK1.out; omega⟩, by repeat (first | exact Drawn0.refl _ | apply Drawn0.step)⟩
          ·rw [if_neg c10] at H
           have c10b0 : ((bt a0 x3_1) == 45) = false := beq_eq_false_iff_ne.mpr c10
           have c10b1 : ((bt a0 x3_1) != 45) = true := bne_iff_ne.mpr c10
           obtain rfl := Option.some.inj H
           have p4 : 0 ≤ (x3_1 : Int) := of_decide_eq_true (by first | (with_reducible assumption) | assumption)
           have q4 : x3_1 < (a0.size : Int) := of_decide_eq_true (by first | (with_reducible assumption) | assumption)
           have hx4 := zw2 a0 x3_1
           replace p4 := eq_true p4
           replace q4 := eq_true q4
           go_wp2
           go_ret
           exact ⟨by first | rfl | (simp; done) | (simp [*]; done), by repeat (first | exact Drawn0.refl _ | apply Drawn0.step)⟩
       ·rw [if_neg c7] at H
        have c7b0 : decide (48 ≤ (bt a0 x3_1)) = false := decide_eq_false c7
        clear c7
        by_cases c11 : (bt a0 x3_1) = 46
        ·rw [if_pos c11] at H
         have c11b0 : ((bt a0 x3_1) == 46) = true := beq_iff_eq.mpr c11
         have c11b1 : ((bt a0 x3_1) != 46) = false := bne_eq_false_iff_eq.mpr c11
         clear c11
         have H' := as0 H
         clear H
         have p4 : 0 ≤ (x3_1 : Int) := of_decide_eq_true (by first | (with_reducible assumption) | assumption)
         have q4 : x3_1 < (a0.size : Int) := of_decide_eq_true (by first | (with_reducible assumption) | assumption)
         have hx4 := zw2 a0 x3_1
         replace p4 := eq_true p4
         replace q4 := eq_true q4
         go_wp2
         go_roundg k1
         case measure => have := HK1.out; omega
         case rel => exact ⟨(wrap64 (x3_1 + 1)), (by first | rfl | (simp; done) | (simp [*]; done)), H', ⟨by have := HK1.out; omega⟩, by repeat (first | exact Drawn0.refl _ | apply Drawn0.step)⟩
        ·rw [if_neg c11] at H
         have c11b0 : ((bt a0 x3_1) == 46) = false := beq_eq_false_iff_ne.mpr c11
         have c11b1 : ((bt a0 x3_1) != 46) = true := bne_iff_ne.mpr c11
         by_cases c12 : (bt a0 x3_1) = 45
         ·rw [if_pos c12] at H
          have c12b0 : ((bt a0 x3_1) == 45) = true := beq_iff_eq.mpr c12
          have c12b1 : ((bt a0 x3_1) != 45) = false := bne_eq_false_iff_eq.mpr c12
          clear c12
          have H' := as0 H
          clear H
          have p4 : 0 ≤ (x3_1 : Int) := of_decide_eq_true (by first | (with_reducible assumption) | assumption)
          have q4 : x3_1 < (a0.size : Int) := of_decide_eq_true (by first | (with_reducible assumption) | assumption)
          have hx4 := zw2 a0 x3_1
          replace p4 := eq_true p4
          replace q4 := eq_true q4
          go_wp2
          go_roundg k1
          case measure => have := HK1.out; omega
          case rel => exact ⟨(wrap64 (x3_1 + 1)), (by first | rfl | (simp; done) | (simp [*]; done)), H', ⟨by have := HK1.out; omega⟩, by repeat (first | exact Drawn0.refl _ | apply Drawn0.step)⟩
         ·rw [if_neg c12] at H
          have c12b0 : ((bt a0 x3_1) == 45) = false := beq_eq_false_iff_ne.mpr c12
          have c12b1 : ((bt a0 x3_1) != 45) = true := bne_iff_ne.mpr c12
          obtain rfl := Option.some.inj H
          have p4 : 0 ≤ (x3_1 : Int) := of_decide_eq_true (by first | (with_reducible assumption) | assumption)
          have q4 : x3_1 < (a0.size : Int) := of_decide_eq_true (by first | (with_reducible assumption) | assumption)
          have hx4 := zw2 a0 x3_1
          replace p4 := eq_true p4
          replace q4 := eq_true q4
          go_wp2
          go_ret
          exact ⟨by first | rfl | (simp; done) | (simp [*]; done), by repeat (first | exact Drawn0.refl _ | apply Drawn0.step)⟩
     ·rw [if_neg c5] at H
      have c5b0 : decide (97 ≤ (bt a0 x3_1)) = false := decide_eq_false c5
      clear c5
      by_cases c13 : (bt a0 x3_1) ≥ 48
      ·rw [if_pos c13] at H
       have c13b0 : decide (48 ≤ (bt a0 x3_1)) = true := decide_eq_true c13
       clear c13
       by_cases c14 : (bt a0 x3_1) ≤ 57
       ·rw [if_pos c14] at H
        have c14b0 : decide ((bt a0 x3_1) ≤ 57) = true := decide_eq_true c14
        clear c14
        have H' := as0 H
        clear H
        have p4 : 0 ≤ (x3_1 : Int) := of_decide_eq_true (by first | (with_reducible assumption) | assumption)
        have q4 : x3_1 < (a0.size : Int) := of_decide_eq_true (by first | (with_reducible assumption) | assumption)
        have hx4 := zw2 a0 x3_1
        replace p4 := eq_true p4
        replace q4 := eq_true q4
        go_wp2
        go_roundg k1
        case measure => have := HK1.out; omega
        case rel => exact ⟨(wrap64 (x3_1 + 1)), (by first | rfl | (simp; done) | (simp [*]; done)), H', ⟨by have := HK1.out; omega⟩, by repeat (first | exact Drawn0.refl _ | apply Drawn0.step)⟩
       ·rw [if_neg c14] at H
        have c14b0 : decide ((bt a0 x3_1) ≤ 57) = false := decide_eq_false c14
        clear c14
        by_cases c15 : (bt a0 x3_1) = 46
        ·rw [if_pos c15] at H
         have c15b0 : ((bt a0 x3_1) == 46) = true := beq_iff_eq.mpr c15
         have c15b1 : ((bt a0 x3_1) != 46) = false := bne_eq_false_iff_eq.mpr c15
         clear c15
         have H' := as0 H
         clear H
         have p4 : 0 ≤ (x3_1 : Int) := of_decide_eq_true (by first | (with_reducible assumption) | assumption)
         have q4 : x3_1 < (a0.size : Int) := of_decide_eq_true (by first | (with_reducible assumption) | assumption)
         have hx4 := zw2 a0 x3_1
         replace p4 := eq_true p4
         replace q4 := eq_true q4
         go_wp2
         go_roundg k1
         case measure => have := HK1.out; omega
         case rel => exact ⟨(wrap64 (x3_1 + 1)), (by first | rfl | (simp; done) | (simp [*]; done)), H', ⟨by have := HK1.out; omega⟩, by repeat (first | exact Drawn0.refl _ | apply Drawn0.step)⟩
        ·rw [if_neg c15] at H
         have c15b0 : ((bt a0 x3_1) == 46) = false := beq_eq_false_iff_ne.mpr c15
         have c15b1 : ((bt a0 x3_1) != 46) = true := bne_iff_ne.mpr c15
         by_cases c16 : (bt a0 x3_1) = 45
         ·rw [if_pos c16] at H
          have c16b0 : ((bt a0 x3_1) == 45) = true := beq_iff_eq.mpr c16
          have c16b1 : ((bt a0 x3_1) != 45) = false := bne_eq_false_iff_eq.mpr c16
          clear c16
          have H' := as0 H
          clear H
          have p4 : 0 ≤ (x3_1 : Int) := of_decide_eq_true (by first | (with_reducible assumption) | assumption)
          have q4 : x3_1 < (a0.size : Int) := of_decide_eq_true (by first | (with_reducible assumption) | assumption)
          have hx4 := zw2 a0 x3_1
          replace p4 := eq_true p4
          replace q4 := eq_true q4
          go_wp2
          go_roundg k1
          case measure => have := HK1.out; omega
          case rel => exact ⟨(wrap64 (x3_1 + 1)), (by first | rfl | (simp; done) | (simp [*]; done)), H', ⟨by have := HK1.out; omega⟩, by repeat (first | exact Drawn0.refl _ | apply Drawn0.step)⟩
         ·rw [if_neg c16] at H
          have c16b0 : ((bt a0 x3_1) == 45) = false := beq_eq_false_iff_ne.mpr c16
          have c16b1 : ((bt a0 x3_1) != 45) = true := bne_iff_ne.mpr c16
          obtain rfl := Option.some.inj H
          have p4 : 0 ≤ (x3_1 : Int) := of_decide_eq_true (by first | (with_reducible assumption) | assumption)
          have q4 : x3_1 < (a0.size : Int) := of_decide_eq_true (by first | (with_reducible assumption) | assumption)
          have hx4 := zw2 a0 x3_1
          replace p4 := eq_true p4
          replace q4 := eq_true q4
          go_wp2
          go_ret
          exact ⟨by first | rfl | (simp; done) | (simp [*]; done), by repeat (first | exact Drawn0.refl _ | apply Drawn0.step)⟩
      ·rw [if_neg c13] at H
       have c13b0 : decide (48 ≤ (bt a0 x3_1)) = false := decide_eq_false c13
       clear c13
       by_cases c17 : (bt a0 x3_1) = 46
       ·rw [if_pos c17] at H
        have c17b0 : ((bt a0 x3_1) == 46) = true := beq_iff_eq.mpr c17
        have c17b1 : ((bt a0 x3_1) != 46) = false := bne_eq_false_iff_eq.mpr c17
        clear c17
        have H' := as0 H
        clear H
        have p4 : 0 ≤ (x3_1 : Int) := of_decide_eq_true (by first | (with_reducible assumption) | assumption)
        have q4 : x3_1 < (a0.size : Int) := of_decide_eq_true (by first | (with_reducible assumption) | assumption)
        have hx4 := zw2 a0 x3_1
        replace p4 := eq_true p4
        replace q4 := eq_true q4
        go_wp2
        go_roundg k1
        case measure => have := HK1.out; omega
        case rel => exact ⟨(wrap64 (x3_1 + 1)), (by first | rfl | (simp; done) | (simp [*]; done)), H', ⟨by have := HK1.out; omega⟩, by repeat (first | exact Drawn0.refl _ | apply Drawn0.step)⟩
       ·rw [if_neg c17] at H
        have c17b0 : ((bt a0 x3_1) == 46) = false := beq_eq_false_iff_ne.mpr c17
        have c17b1 : ((bt a0 x3_1) != 46) = true := bne_iff_ne.mpr c17
        by_cases c18 : (bt a0 x3_1) = 45
        ·rw [if_pos c18] at H
         have c18b0 : ((bt a0 x3_1) == 45) = true := beq_iff_eq.mpr c18
         have c18b1 : ((bt a0 x3_1) != 45) = false := bne_eq_false_iff_eq.mpr c18
         clear c18
         have H' := as0 H
         clear H
         have p4 : 0 ≤ (x3_1 : Int) := of_decide_eq_true (by first | (with_reducible assumption) | assumption)
         have q4 : x3_1 < (a0.size : Int) := of_decide_eq_true (by first | (with_reducible assumption) | assumption)
         have hx4 := zw2 a0 x3_1
         replace p4 := eq_true p4
         replace q4 := eq_true q4
         go_wp2
         go_roundg k1
         case measure => have := HK1.out; omega
         case rel => exact ⟨(wrap64 (x3_1 + 1)), (by first | rfl | (simp; done) | (simp [*]; done)), H', ⟨by have := HK1.out; omega⟩, by repeat (first | exact Drawn0.refl _ | apply Drawn0.step)⟩
        ·rw [if_neg c18] at H
         have c18b0 : ((bt a0 x3_1) == 45) = false := beq_eq_false_iff_ne.mpr c18
         have c18b1 : ((bt a0 x3_1) != 45) = true := bne_iff_ne.mpr c18
         obtain rfl := Option.some.inj H
         have p4 : 0 ≤ (x3_1 : Int) := of_decide_eq_true (by first | (with_reducible assumption) | assumption)
         have q4 : x3_1 < (a0.size : Int) := of_decide_eq_true (by first | (with_reducible assumption) | assumption)
         have hx4 := zw2 a0 x3_1
         replace p4 := eq_true p4
         replace q4 := eq_true q4
         go_wp2
         go_ret
         exact ⟨by first | rfl | (simp; done) | (simp [*]; done), by repeat (first | exact Drawn0.refl _ | apply Drawn0.step)⟩
    ·rw [if_neg c3] at H
     exact absurd H (by simp)
   ·rw [if_neg c2] at H
    have c2b0 : decide (x3_1 < (a0.size : Int)) = false := decide_eq_false c2
    clear c2
    by_cases c19 : (a0.size : Int) ≥ 1
    ·rw [if_pos c19] at H
     have c19b0 : decide (1 ≤ (a0.size : Int)) = true := decide_eq_true c19
     have c19b1 : decide (1 ≤ a0.size) = true := decide_eq_true (by omega)
     clear c19
     obtain rfl := Option.some.inj H
     go_wp2
     go_ret
     exact ⟨by first | rfl | (simp; done) | (simp [*]; done), by repeat (first | exact Drawn0.refl _ | apply Drawn0.step)⟩
    ·rw [if_neg c19] at H
     have c19b0 : decide (1 ≤ (a0.size : Int)) = false := decide_eq_false c19
     have c19b1 : decide (1 ≤ a0.size) = false := decide_eq_false (by omega)
     clear c19
     obtain rfl := Option.some.inj H
     go_wp2
     go_ret
     exact ⟨by first | rfl | (simp; done) | (simp [*]; done), by repeat (first | exact Drawn0.refl _ | apply Drawn0.step)⟩
mutual
def hostlerref09_Check.l0 : Nat → List ByteArray → Int → Option (Int)
 | 0, _, _ => none
 | k + 1, x0, x3 => if x3 < (x0.length : Int) then (if 0 ≤ x3 then ((hostlerref09_Name.f k (rdOf ByteArray.empty x0 x3)).bind fun t138 => (if t138 = true then (hostlerref09_Check.l0 k x0 (wrap64 (x3 + 1))) else (some 11))) else (none)) else (hostlerref09_Check.l1 k x0 0)
def hostlerref09_Check.l1 : Nat → List ByteArray → Int → Option (Int)
 | 0, _, _ => none
 | k + 1, x0, x5 => if x5 < (x0.length : Int) then (if 0 ≤ x5 then (if x5 ≤ (x0.length : Int) then ((hostlerref09_Has.f k (x0.take (x5 : Int).toNat) (rdOf ByteArray.empty x0 x5)).bind fun t141 => (if t141 = true then (some 6) else (hostlerref09_Check.l1 k x0 (wrap64 (x5 + 1))))) else (none)) else (none)) else (some 0)
end
def hostlerref09_Check.f (k : Nat) (l0 : List ByteArray) : Option (Int) := if (l0.length : Int) > 16 then (some 13) else (hostlerref09_Check.l0 k l0 0)
theorem hostlerref09_Check.calls (k : Nat) (A0 : Option Addr) (c0 : Nat) (l0 : List ByteArray) (r : Int) (w : World) (hr0 : Kd.C Kd.string w A0 l0.length l0) (hc0 : l0.length ≤ c0) (h : hostlerref09_Check.f k l0 = some r) :
  Calls Tryz.prog 58 #[.slice A0 l0.length c0] w fun e w' => e = .returned (.int .i64 r) ∧ Drawn0 w w' := by
 have HR0 := as0 hr0
 have HC0 := as0 hc0
 clear hr0 hc0
 have H : (if (l0.length : Int) > 16 then (some 13) else (hostlerref09_Check.l0 k l0 0)) = some r := h
 clear h
 by_cases c2 : (l0.length : Int) > 16
 ·rw [if_pos c2] at H
  have c2b0 : decide (16 < (l0.length : Int)) = true := decide_eq_true c2
  have c2b1 : decide (16 < l0.length) = true := decide_eq_true (by omega)
  clear c2
  obtain rfl := Option.some.inj H
  go_enter Tryz.func58, Tryz.ntmps58
  go_wp2
  repeat (go_quiet (fail); try go_wp2)
  go_ret
  exact ⟨by first | rfl | (simp; done) | (simp [*]; done), by repeat (first | exact Drawn0.refl _ | apply Drawn0.step)⟩
 ·rw [if_neg c2] at H
  have c2b0 : decide (16 < (l0.length : Int)) = false := decide_eq_false c2
  have c2b1 : decide (16 < l0.length) = false := decide_eq_false (by omega)
  clear c2
  have H' := as0 H
  clear H
  go_enter Tryz.func58, Tryz.ntmps58
  go_wp2
  repeat (go_quiet (fail); try go_wp2)
  go_loopg [3] k (fun kq v3 w' => ∃ (x3_1 : Int), v3 = .int .i64 x3_1 ∧ Aside0 (hostlerref09_Check.l0 kq l0 x3_1 = some r) ∧ Aside0 (kq ≤ k) ∧ Drawn0 w w')
  case atStart => exact ⟨(0), (by first | rfl | (simp; done) | (simp [*]; done)), H', ⟨Nat.le_refl _⟩, by repeat (first | exact Drawn0.refl _ | apply Drawn0.step)⟩
  case round =>
   clear H'
   try clear c2
   try clear c2b0
   try clear c2b1
   try clear p2
   obtain ⟨x3_1, rfl, HA, HK1, ⟨m1, rfl⟩⟩ := hrel
   cases gk with
   | zero => exact absurd HA.out (by simp [hostlerref09_Check.l0])
   | succ k1 =>
    have H := HA.out
    clear HA
    simp only [hostlerref09_Check.l0] at H
    by_cases c3 : x3_1 < (l0.length : Int)
    ·rw [if_pos c3] at H
     have c3b0 : decide (x3_1 < (l0.length : Int)) = true := decide_eq_true c3
     clear c3
     by_cases c4 : 0 ≤ x3_1
     ·rw [if_pos c4] at H
      have c4b0 : decide (0 ≤ x3_1) = true := decide_eq_true c4
      clear c4
      replace H := Option.bind_eq_some_iff.mp H
      obtain ⟨t138, A50, H⟩ := H
      replace H : (if t138 = true then (hostlerref09_Check.l0 k1 l0 (wrap64 (x3_1 + 1))) else (some 11)) = some r := H
      have A5 := as0 A50
      clear A50
      by_cases c6 : t138 = true
      ·subst c6
       have H1 : (hostlerref09_Check.l0 k1 l0 (wrap64 (x3_1 + 1))) = some r := by rw [if_pos rfl] at H; exact H
       clear H
       have H := H1
       clear H1
       have H' := as0 H
       clear H
       have p137 : 0 ≤ (x3_1 : Int) := of_decide_eq_true (by first | (with_reducible assumption) | assumption)
       have q137 : x3_1 < (l0.length : Int) := of_decide_eq_true (by first | (with_reducible assumption) | assumption)
       obtain ⟨ad137, e137, hx137_0⟩ := Kd.at_string HR0.out x3_1 p137 q137
       cases e137
       replace p137 := eq_true p137
       replace q137 := eq_true q137
       go_wp2_with (first | (go_at_call 87; (with_reducible refine (hostlerref09_Name.calls k1 (rdOf ByteArray.empty l0 x3_1) true _ A5.out).mono ?_); rintro e w' ⟨rfl, ⟨nd, rfl⟩⟩; (try first | exact ⟨rfl, _, World.drewN_drewN _ _ _⟩ | exact ⟨rfl, _, Eq.trans (World.drewN_drewN _ _ _) (congrArg (World.drewN _) (Nat.add_assoc _ _ _))⟩)))
       repeat (go_quiet (first | (go_at_call 87; (with_reducible refine (hostlerref09_Name.calls k1 (rdOf ByteArray.empty l0 x3_1) true _ A5.out).mono ?_); rintro e w' ⟨rfl, ⟨nd, rfl⟩⟩; (try first | exact ⟨rfl, _, World.drewN_drewN _ _ _⟩ | exact ⟨rfl, _, Eq.trans (World.drewN_drewN _ _ _) (congrArg (World.drewN _) (Nat.add_assoc _ _ _))⟩))); try go_wp2_with (first | (go_at_call 87; (with_reducible refine (hostlerref09_Name.calls k1 (rdOf ByteArray.empty l0 x3_1) true _ A5.out).mono ?_); rintro e w' ⟨rfl, ⟨nd, rfl⟩⟩; (try first | exact ⟨rfl, _, World.drewN_drewN _ _ _⟩ | exact ⟨rfl, _, Eq.trans (World.drewN_drewN _ _ _) (congrArg (World.drewN _) (Nat.add_assoc _ _ _))⟩))))
       go_roundg k1
       case measure => have := HK1.out; omega
       case rel => exact ⟨(wrap64 (x3_1 + 1)), (by first | rfl | (simp; done) | (simp [*]; done)), H', ⟨by have := HK1.out; omega⟩, by repeat (first | exact Drawn0.refl _ | apply Drawn0.step)⟩
      ·replace c6 := Bool.eq_false_iff.mpr c6
       subst c6
       have H1 : (some 11) = some r := by rw [if_neg (show ¬ (false = true) by decide)] at H; exact H
       clear H
       have H := H1
       clear H1
       obtain rfl := Option.some.inj H
       have p137 : 0 ≤ (x3_1 : Int) := of_decide_eq_true (by first | (with_reducible assumption) | assumption)
       have q137 : x3_1 < (l0.length : Int) := of_decide_eq_true (by first | (with_reducible assumption) | assumption)
       obtain ⟨ad137, e137, hx137_0⟩ := Kd.at_string HR0.out x3_1 p137 q137
       cases e137
       replace p137 := eq_true p137
       replace q137 := eq_true q137
       go_wp2_with (first | (go_at_call 87; (with_reducible refine (hostlerref09_Name.calls k1 (rdOf ByteArray.empty l0 x3_1) false _ A5.out).mono ?_); rintro e w' ⟨rfl, ⟨nd, rfl⟩⟩; (try first | exact ⟨rfl, _, World.drewN_drewN _ _ _⟩ | exact ⟨rfl, _, Eq.trans (World.drewN_drewN _ _ _) (congrArg (World.drewN _) (Nat.add_assoc _ _ _))⟩)))
       repeat (go_quiet (first | (go_at_call 87; (with_reducible refine (hostlerref09_Name.calls k1 (rdOf ByteArray.empty l0 x3_1) false _ A5.out).mono ?_); rintro e w' ⟨rfl, ⟨nd, rfl⟩⟩; (try first | exact ⟨rfl, _, World.drewN_drewN _ _ _⟩ | exact ⟨rfl, _, Eq.trans (World.drewN_drewN _ _ _) (congrArg (World.drewN _) (Nat.add_assoc _ _ _))⟩))); try go_wp2_with (first | (go_at_call 87; (with_reducible refine (hostlerref09_Name.calls k1 (rdOf ByteArray.empty l0 x3_1) false _ A5.out).mono ?_); rintro e w' ⟨rfl, ⟨nd, rfl⟩⟩; (try first | exact ⟨rfl, _, World.drewN_drewN _ _ _⟩ | exact ⟨rfl, _, Eq.trans (World.drewN_drewN _ _ _) (congrArg (World.drewN _) (Nat.add_assoc _ _ _))⟩))))
       go_ret
       exact ⟨by first | rfl | (simp; done) | (simp [*]; done), by repeat (first | exact Drawn0.refl _ | apply Drawn0.step)⟩
     ·rw [if_neg c4] at H
      exact absurd H (by simp)
    ·rw [if_neg c3] at H
     have c3b0 : decide (x3_1 < (l0.length : Int)) = false := decide_eq_false c3
     clear c3
     have H' := as0 H
     clear H
     go_wp2
     repeat (go_quiet (fail); try go_wp2)
     go_loopg [5] k1 (fun kq v5 w' => ∃ (x5_2 : Int), v5 = .int .i64 x5_2 ∧ Aside0 (hostlerref09_Check.l1 kq l0 x5_2 = some r) ∧ Aside0 (kq ≤ k1) ∧ Drawn0 w w')
     case atStart => exact ⟨(0), (by first | rfl | (simp; done) | (simp [*]; done)), H', ⟨Nat.le_refl _⟩, by repeat (first | exact Drawn0.refl _ | apply Drawn0.step)⟩
     case round =>
      clear H'
      try clear p1
      try clear q1
      try clear hx1
      try clear c2
      try clear c2b0
      try clear c2b1
      try clear p2
      try clear c3
      try clear c3b0
      try clear c4
      try clear c4b0
      try clear c5
      try clear c6
      try clear p6
      try clear hx137_0
      try clear p137
      try clear p2
      try clear q137
      obtain ⟨x5_2, rfl, HA, HK2, ⟨m2, rfl⟩⟩ := hrel
      cases gk with
      | zero => exact absurd HA.out (by simp [hostlerref09_Check.l1])
      | succ k2 =>
       have H := HA.out
       clear HA
       simp only [hostlerref09_Check.l1] at H
       by_cases c7 : x5_2 < (l0.length : Int)
       ·rw [if_pos c7] at H
        have c7b0 : decide (x5_2 < (l0.length : Int)) = true := decide_eq_true c7
        clear c7
        by_cases c8 : 0 ≤ x5_2
        ·rw [if_pos c8] at H
         have c8b0 := eq_true c8
         have c8b1 : decide (0 ≤ x5_2) = true := decide_eq_true c8
         clear c8
         by_cases c9 : x5_2 ≤ (l0.length : Int)
         ·rw [if_pos c9] at H
          have c9b0 := eq_true c9
          have c9b1 : decide (x5_2 ≤ (l0.length : Int)) = true := decide_eq_true c9
          clear c9
          replace H := Option.bind_eq_some_iff.mp H
          obtain ⟨t141, A100, H⟩ := H
          replace H : (if t141 = true then (some 6) else (hostlerref09_Check.l1 k2 l0 (wrap64 (x5_2 + 1)))) = some r := H
          have A10 := as0 A100
          clear A100
          by_cases c11 : t141 = true
          ·subst c11
           have H1 : (some 6) = some r := by rw [if_pos rfl] at H; exact H
           clear H
           have H := H1
           clear H1
           obtain rfl := Option.some.inj H
           obtain ⟨i012, hi012, _, hsz12, _⟩ := info_parts z53
           obtain ⟨hcut12, hA12, hC12⟩ := zn3 (P := Tryz.prog) Value.string (⟨#[]⟩ : ByteArray) 27 9 .i64 Tryz.underlying27 hi012 hsz12 A0 c0 l0 x5_2 (of_decide_eq_true (by first | (with_reducible assumption) | assumption)) (of_decide_eq_true (by first | (with_reducible assumption) | assumption)) HC0.out
           have HR139 := as0 (Kd.C_of_reads (h1 := fun _ => rfl) (hA12 _ (Kd.reads_of_C HR0.out)))
           have HC139 := as0 hC12
           clear hA12 hC12 hi012 hsz12
           have p140 : 0 ≤ (x5_2 : Int) := of_decide_eq_true (by first | (with_reducible assumption) | assumption)
           have q140 : x5_2 < (l0.length : Int) := of_decide_eq_true (by first | (with_reducible assumption) | assumption)
           obtain ⟨ad140, e140, hx140_0⟩ := Kd.at_string HR0.out x5_2 p140 q140
           cases e140
           replace p140 := eq_true p140
           replace q140 := eq_true q140
           go_wp2_with (first | (go_at_call 59; refine zj1 (args' := #[.slice (some ad140) (l0.take (x5_2 : Int).toNat).length c0, .string (rdOf ByteArray.empty l0 x5_2)]) (by first | (rw [show (l0.take (x5_2 : Int).toNat).length = x5_2.toNat from (by rw [List.length_take]; have h_ : (x5_2 : Int) ≤ (l0.length : Int) := of_decide_eq_true (by first | (with_reducible assumption) | assumption); omega)] <;> rfl) | rfl) ?_; (with_reducible refine (hostlerref09_Has.calls k2 _ _ (l0.take (x5_2 : Int).toNat) (rdOf ByteArray.empty l0 x5_2) true _ ?side1 ?side2 A10.out).mono ?_); (case side1 => repeat (first | exact HR139.out | (with_reducible refine Kd.C_alloc ?_ _) | (with_reducible refine Kd.C_drewN ?_ _) | (with_reducible refine Kd.C_drew ?_))); (case side2 => exact HC139.out); rintro e w' ⟨rfl, ⟨nd, rfl⟩⟩; (try first | exact ⟨rfl, _, World.drewN_drewN _ _ _⟩ | exact ⟨rfl, _, Eq.trans (World.drewN_drewN _ _ _) (congrArg (World.drewN _) (Nat.add_assoc _ _ _))⟩)))
           repeat (go_quiet (first | (go_at_call 59; refine zj1 (args' := #[.slice (some ad140) (l0.take (x5_2 : Int).toNat).length c0, .string (rdOf ByteArray.empty l0 x5_2)]) (by first | (rw [show (l0.take (x5_2 : Int).toNat).length = x5_2.toNat from (by rw [List.length_take]; have h_ : (x5_2 : Int) ≤ (l0.length : Int) := of_decide_eq_true (by first | (with_reducible assumption) | assumption); omega)] <;> rfl) | rfl) ?_; (with_reducible refine (hostlerref09_Has.calls k2 _ _ (l0.take (x5_2 : Int).toNat) (rdOf ByteArray.empty l0 x5_2) true _ ?side1 ?side2 A10.out).mono ?_); (case side1 => repeat (first | exact HR139.out | (with_reducible refine Kd.C_alloc ?_ _) | (with_reducible refine Kd.C_drewN ?_ _) | (with_reducible refine Kd.C_drew ?_))); (case side2 => exact HC139.out); rintro e w' ⟨rfl, ⟨nd, rfl⟩⟩; (try first | exact ⟨rfl, _, World.drewN_drewN _ _ _⟩ | exact ⟨rfl, _, Eq.trans (World.drewN_drewN _ _ _) (congrArg (World.drewN _) (Nat.add_assoc _ _ _))⟩))); try go_wp2_with (first | (go_at_call 59; refine zj1 (args' := #[.slice (some ad140) (l0.take (x5_2 : Int).toNat).length c0, .string (rdOf ByteArray.empty l0 x5_2)]) (by first | (rw [show (l0.take (x5_2 : Int).toNat).length = x5_2.toNat from (by rw [List.length_take]; have h_ : (x5_2 : Int) ≤ (l0.length : Int) := of_decide_eq_true (by first | (with_reducible assumption) | assumption); omega)] <;> rfl) | rfl) ?_; (with_reducible refine (hostlerref09_Has.calls k2 _ _ (l0.take (x5_2 : Int).toNat) (rdOf ByteArray.empty l0 x5_2) true _ ?side1 ?side2 A10.out).mono ?_); (case side1 => repeat (first | exact HR139.out | (with_reducible refine Kd.C_alloc ?_ _) | (with_reducible refine Kd.C_drewN ?_ _) | (with_reducible refine Kd.C_drew ?_))); (case side2 => exact HC139.out); rintro e w' ⟨rfl, ⟨nd, rfl⟩⟩; (try first | exact ⟨rfl, _, World.drewN_drewN _ _ _⟩ | exact ⟨rfl, _, Eq.trans (World.drewN_drewN _ _ _) (congrArg (World.drewN _) (Nat.add_assoc _ _ _))⟩))))
           go_ret
           exact ⟨by first | rfl | (simp; done) | (simp [*]; done), by repeat (first | exact Drawn0.refl _ | apply Drawn0.step)⟩
          ·replace c11 := Bool.eq_false_iff.mpr c11
           subst c11
           have H1 : (hostlerref09_Check.l1 k2 l0 (wrap64 (x5_2 + 1))) = some r := by rw [if_neg (show ¬ (false = true) by decide)] at H; exact H
           clear H
           have H := H1
           clear H1
           have H' := as0 H
           clear H
           obtain ⟨i013, hi013, _, hsz13, _⟩ := info_parts z53
           obtain ⟨hcut13, hA13, hC13⟩ := zn3 (P := Tryz.prog) Value.string (⟨#[]⟩ : ByteArray) 27 9 .i64 Tryz.underlying27 hi013 hsz13 A0 c0 l0 x5_2 (of_decide_eq_true (by first | (with_reducible assumption) | assumption)) (of_decide_eq_true (by first | (with_reducible assumption) | assumption)) HC0.out
           have HR139 := as0 (Kd.C_of_reads (h1 := fun _ => rfl) (hA13 _ (Kd.reads_of_C HR0.out)))
           have HC139 := as0 hC13
           clear hA13 hC13 hi013 hsz13
           have p140 : 0 ≤ (x5_2 : Int) := of_decide_eq_true (by first | (with_reducible assumption) | assumption)
           have q140 : x5_2 < (l0.length : Int) := of_decide_eq_true (by first | (with_reducible assumption) | assumption)
           obtain ⟨ad140, e140, hx140_0⟩ := Kd.at_string HR0.out x5_2 p140 q140
           cases e140
           replace p140 := eq_true p140
           replace q140 := eq_true q140
           go_wp2_with (first | (go_at_call 59; refine zj1 (args' := #[.slice (some ad140) (l0.take (x5_2 : Int).toNat).length c0, .string (rdOf ByteArray.empty l0 x5_2)]) (by first | (rw [show (l0.take (x5_2 : Int).toNat).length = x5_2.toNat from (by rw [List.length_take]; have h_ : (x5_2 : Int) ≤ (l0.length : Int) := of_decide_eq_true (by first | (with_reducible assumption) | assumption); omega)] <;> rfl) | rfl) ?_; (with_reducible refine (hostlerref09_Has.calls k2 _ _ (l0.take (x5_2 : Int).toNat) (rdOf ByteArray.empty l0 x5_2) false _ ?side1 ?side2 A10.out).mono ?_); (case side1 => repeat (first | exact HR139.out | (with_reducible refine Kd.C_alloc ?_ _) | (with_reducible refine Kd.C_drewN ?_ _) | (with_reducible refine Kd.C_drew ?_))); (case side2 => exact HC139.out); rintro e w' ⟨rfl, ⟨nd, rfl⟩⟩; (try first | exact ⟨rfl, _, World.drewN_drewN _ _ _⟩ | exact ⟨rfl, _, Eq.trans (World.drewN_drewN _ _ _) (congrArg (World.drewN _) (Nat.add_assoc _ _ _))⟩)))
           repeat (go_quiet (first | (go_at_call 59; refine zj1 (args' := #[.slice (some ad140) (l0.take (x5_2 : Int).toNat).length c0, .string (rdOf ByteArray.empty l0 x5_2)]) (by first | (rw [show (l0.take (x5_2 : Int).toNat).length = x5_2.toNat from (by rw [List.length_take]; have h_ : (x5_2 : Int) ≤ (l0.length : Int) := of_decide_eq_true (by first | (with_reducible assumption) | assumption); omega)] <;> rfl) | rfl) ?_; (with_reducible refine (hostlerref09_Has.calls k2 _ _ (l0.take (x5_2 : Int).toNat) (rdOf ByteArray.empty l0 x5_2) false _ ?side1 ?side2 A10.out).mono ?_); (case side1 => repeat (first | exact HR139.out | (with_reducible refine Kd.C_alloc ?_ _) | (with_reducible refine Kd.C_drewN ?_ _) | (with_reducible refine Kd.C_drew ?_))); (case side2 => exact HC139.out); rintro e w' ⟨rfl, ⟨nd, rfl⟩⟩; (try first | exact ⟨rfl, _, World.drewN_drewN _ _ _⟩ | exact ⟨rfl, _, Eq.trans (World.drewN_drewN _ _ _) (congrArg (World.drewN _) (Nat.add_assoc _ _ _))⟩))); try go_wp2_with (first | (go_at_call 59; refine zj1 (args' := #[.slice (some ad140) (l0.take (x5_2 : Int).toNat).length c0, .string (rdOf ByteArray.empty l0 x5_2)]) (by first | (rw [show (l0.take (x5_2 : Int).toNat).length = x5_2.toNat from (by rw [List.length_take]; have h_ : (x5_2 : Int) ≤ (l0.length : Int) := of_decide_eq_true (by first | (with_reducible assumption) | assumption); omega)] <;> rfl) | rfl) ?_; (with_reducible refine (hostlerref09_Has.calls k2 _ _ (l0.take (x5_2 : Int).toNat) (rdOf ByteArray.empty l0 x5_2) false _ ?side1 ?side2 A10.out).mono ?_); (case side1 => repeat (first | exact HR139.out | (with_reducible refine Kd.C_alloc ?_ _) | (with_reducible refine Kd.C_drewN ?_ _) | (with_reducible refine Kd.C_drew ?_))); (case side2 => exact HC139.out); rintro e w' ⟨rfl, ⟨nd, rfl⟩⟩; (try first | exact ⟨rfl, _, World.drewN_drewN _ _ _⟩ | exact ⟨rfl, _, Eq.trans (World.drewN_drewN _ _ _) (congrArg (World.drewN _) (Nat.add_assoc _ _ _))⟩))))
           go_roundg k2
           case measure => have := HK1.out; have := HK2.out; omega
           case rel => exact ⟨(wrap64 (x5_2 + 1)), (by first | rfl | (simp; done) | (simp [*]; done)), H', ⟨by have := HK1.out; have := HK2.out; omega⟩, by repeat (first | exact Drawn0.refl _ | apply Drawn0.step)⟩
         ·rw [if_neg c9] at H
          exact absurd H (by simp)
        ·rw [if_neg c8] at H
         exact absurd H (by simp)
       ·rw [if_neg c7] at H
        have c7b0 : decide (x5_2 < (l0.length : Int)) = false := decide_eq_false c7
        clear c7
        obtain rfl := Option.some.inj H
        go_wp2
        repeat (go_quiet (fail); try go_wp2)
        go_ret
        exact ⟨by first | rfl | (simp; done) | (simp [*]; done), by repeat (first | exact Drawn0.refl _ | apply Drawn0.step)⟩
end
end Go.Proofs.YtmlmiocomlehgaaGreat.PR
end
section
namespace Go.Proofs.YtmlmiocomlehgaaGreat.Man
open Go.RowKit Go.Proofs.YtmlmiocomlehgaaGreatW.PrintWords Go.Proofs.YtmlmiocomlehgaaGreatW.PrintLast Go.Proofs.YtmlmiocomlehgaaGreatW.PrintMore Go.Proofs.YtmlmiocomlehgaaGreat.PA Go.Proofs.YtmlmiocomlehgaaGreat.PR Go.Proofs.YtmlmiocomlehgaaGreat.Na Go.Proofs.YtmlmiocomlehgaaGreat.Hid
section
def Rd {α : Type} (enc : α → Value) (h1 : ∀ x, (enc x).oneCell' = true) (e : Nat) (b : Nat → Prop) (W : World) (v : Value) (xs : List α) : Prop :=
 ∃ A c, v = .slice A xs.length c ∧ xs.length ≤ c ∧ (Kd.scalar enc h1).C W A xs.length xs ∧ ∀ ad, A = some ad → b ad.block ∧ ∃ cells : Array Value, W.heap[ad.block]? = some (Obj.cells cells e (0, 0))
abbrev FrB (b : Nat → Prop) (n : Nat) : Prop := ∀ k, n ≤ k → b k
theorem zf1 {b : Nat → Prop} {n m : Nat} (h : FrB b n) (hm : n ≤ m) : FrB b m := fun k hk => h k (Nat.le_trans hm hk)
section
variable {α : Type} {enc : α → Value} {h1 : ∀ x, (enc x).oneCell' = true} {e : Nat} {b : Nat → Prop} {W W1 : World} {v : Value} {xs : List α}
theorem Rd.step (h : Rd enc h1 e b W v xs) (hk : ∀ (k : Nat) (cells : Array Value), W.heap[k]? = some (Obj.cells cells e (0, 0)) → b k → W1.heap[k]? = W.heap[k]?) : Rd enc h1 e b W1 v xs := by
 obtain ⟨A, c, rfl, hc, hC, hA⟩ := h
 refine ⟨A, c, rfl, hc, ⟨hC.1, hC.2.1, fun hn => ?_⟩, fun ad he => ?_⟩
 ·obtain ⟨ad, hae, hcell⟩ := hC.2.2 hn
  obtain ⟨hb, cells, hcs⟩ := hA ad hae
  have hs := hk ad.block cells hcs hb
  refine ⟨ad, hae, fun j p hj => ?_⟩
  obtain ⟨cs, hcs1, hK, hcc⟩ := hcell j p hj
  refine ⟨cs, hcs1, hK, fun i u hu => ?_⟩
  rw [← hcc i u hu]
  exact World.cell?_of_block (by
   have hbk : ∀ (x : Nat), (ad.add x).block = ad.block := fun x => by unfold Addr.add; split <;> rfl
   rw [hbk]
   exact hs)
 ·obtain ⟨hb, cells, hcs⟩ := hA ad he
  exact ⟨hb, cells, (hk ad.block cells hcs hb).trans hcs⟩
theorem Rd.below (h : Rd enc h1 e b W v xs) (hb : Below W.heap.size W W1) : Rd enc h1 e b W1 v xs := h.step (fun k cells hk _ => hb.block k (z70 hk))
theorem Rd.of_R {base : Nat} {ok : Nat → Prop} (h : (Kd.scalar enc h1).R e W base ok v xs) : Rd enc h1 e (fun k => base ≤ k) W v xs := by
 obtain ⟨A, c, rfl, hc, hC⟩ := Kd.R_reads h
 refine ⟨A, c, rfl, hc, hC, fun ad he => ?_⟩
 subst he
 obtain ⟨_, inner, hown, _⟩ := h
 rcases hown.2 with ⟨hv, _⟩ | ⟨g, cap, cur, hv, hb, hh, _⟩
 ·cases hv
 ·injection hv with hv
  injection hv with hv
  rw [hv]
  exact ⟨hb, cur, hh⟩
theorem Rd.lower {b' : Nat → Prop} (h : Rd enc h1 e b W v xs) (hb : ∀ k, b k → b' k) : Rd enc h1 e b' W v xs := by
 obtain ⟨A, c, hv, hc, hC, hA⟩ := h
 exact ⟨A, c, hv, hc, hC, fun ad he => ⟨hb _ (hA ad he).1, (hA ad he).2⟩⟩
theorem Rd.reads (h : Rd enc h1 e b W v xs) : ∃ A c, v = .slice A xs.length c ∧ xs.length ≤ c ∧ (Kd.scalar enc h1).C W A xs.length xs := by
 obtain ⟨A, c, hv, hc, hC, _⟩ := h
 exact ⟨A, c, hv, hc, hC⟩
end
abbrev RdS (b : Nat → Prop) (W : World) (v : Value) (xs : List ByteArray) : Prop := Rd Value.string (fun _ => rfl) 9 b W v xs
abbrev RdI (b : Nat → Prop) (W : World) (v : Value) (xs : List Int) : Prop := Rd (Value.int .i64) (fun _ => rfl) 3 b W v xs
theorem z84 (nm : ByteArray) (xs : List ByteArray) (hm : xs.length ≤ 9223372036854775807) (d : Nat) : ∀ (k j : Nat), j ≤ xs.length → xs.length - j = d → d < k → hostlerref13_Place.l0 k xs nm (j : Int) = some (idxOf (xs.drop j) nm j) := by
 induction d with
 | zero =>
  intro k j hj hd hk
  obtain ⟨k, rfl⟩ : ∃ m, k = m + 1 := ⟨k - 1, by omega⟩
  simp only [hostlerref13_Place.l0]
  rw [if_neg (by omega), List.drop_eq_nil_of_le (by omega)]
  rfl
 | succ d ih =>
  intro k j hj hd hk
  obtain ⟨k, rfl⟩ : ∃ m, k = m + 1 := ⟨k - 1, by omega⟩
  have hlt : j < xs.length := by omega
  simp only [hostlerref13_Place.l0]
  rw [if_pos (by omega), if_pos (by omega), List.drop_eq_getElem_cons hlt]
  have e : rdOf ByteArray.empty xs (j : Int) = xs[j] := by simp [rdOf, List.getD, hlt]
  rw [e]
  have ih' := ih k (j + 1) (by omega) (by omega) (by omega)
  rw [show ((j + 1 : Nat) : Int) = (j : Int) + 1 by omega] at ih'
  have hw : wrap64 ((j : Int) + 1) = (j : Int) + 1 := by unfold wrap64; omega
  simp only [idxOf]
  rw [hw]
  by_cases c : nm.toList = xs[j].toList
  ·rw [if_pos c, if_pos c.symm]
  ·rw [if_neg c, if_neg (fun h => c h.symm)]
   exact ih'
theorem z31 (nm : ByteArray) (xs : List ByteArray) (A : Option Addr) (c : Nat) (w : World) (hC : Kd.C Kd.string w A xs.length xs) (hc : xs.length ≤ c) : Calls Tryz.prog 38 #[.slice A xs.length c, .string nm] w fun e w' => e = .returned (.int .i64 (idxOf xs nm 0)) ∧ Drawn0 w w' :=
 hostlerref13_Place.calls (xs.length + 1) A c xs nm _ w hC hc (by
  have := z84 nm xs hC.2.1 xs.length (xs.length + 1) 0 (by omega) (by omega) (by omega)
  simpa [hostlerref13_Place.f] using this)
end
section
theorem zo8 (nm : ByteArray) (xs : List ByteArray) (A : Option Addr) (c : Nat) (w : World) (hC : Kd.C Kd.string w A xs.length xs) (hc : xs.length ≤ c) (hl : xs.length ≤ 1000000) :
  Calls Tryz.prog 89 #[.slice A xs.length c, .string nm] w fun e w' => ∃ v0_ : Value, e = .returned v0_ ∧ Kd.R Kd.string 9 w' w.heap.size (fun _ => True) v0_ (xs ++ [nm]) ∧ Below w.heap.size w w' :=
 hostlerref13_with.calls A c xs nm _ w hC hc (by
  unfold hostlerref13_with.f
  rw [if_pos (by simp; omega), Option.bind_some, if_pos (by simp; omega)]
  rfl)
theorem z74 (nm : ByteArray) (xs : List ByteArray) (hm : xs.length ≤ 1000000) (d : Nat) : ∀ (k j : Nat) (acc : List ByteArray), j ≤ xs.length → xs.length - j = d → d < k → acc.length ≤ j → hostlerref13_without.l0 k xs nm acc (j : Int) = some (acc ++ (xs.drop j).filter (fun x => !decide (x = nm))) := by
 induction d with
 | zero =>
  intro k j acc hj hd hk ha
  obtain ⟨k, rfl⟩ : ∃ m, k = m + 1 := ⟨k - 1, by omega⟩
  simp only [hostlerref13_without.l0]
  rw [if_neg (by omega), List.drop_eq_nil_of_le (by omega)]
  simp
 | succ d ih =>
  intro k j acc hj hd hk ha
  obtain ⟨k, rfl⟩ : ∃ m, k = m + 1 := ⟨k - 1, by omega⟩
  have hlt : j < xs.length := by omega
  have hd1 := List.drop_eq_getElem_cons hlt
  simp only [hostlerref13_without.l0]
  have e : rdOf ByteArray.empty xs (j : Int) = xs[j] := by simp [rdOf, List.getD, hlt]
  have hw : wrap64 ((j : Int) + 1) = ((j + 1 : Nat) : Int) := by unfold wrap64; omega
  rw [if_pos (by omega), if_pos (by omega), e, hw, hd1, List.filter_cons]
  by_cases c : xs[j] = nm
  ·rw [if_pos (z72.2 c), if_neg (by simp [c])]
   exact ih k (j + 1) acc (by omega) (by omega) (by omega) (by omega)
  ·rw [if_neg (fun h => c (z72.1 h)), if_pos (by omega), if_pos (by simp [c]), ih k (j + 1) _ (by omega) (by omega) (by omega) (by simp; omega)]
   rw [List.append_assoc]
   rfl
theorem z78 (nm : ByteArray) (xs : List ByteArray) (A : Option Addr) (c : Nat) (w : World) (hC : Kd.C Kd.string w A xs.length xs) (hc : xs.length ≤ c) (hl : xs.length ≤ 1000000) :
  Calls Tryz.prog 109 #[.slice A xs.length c, .string nm] w fun e w' => ∃ v0_ : Value, e = .returned v0_ ∧ Kd.R Kd.string 9 w' w.heap.size (fun _ => True) v0_ (xs.filter (fun x => !decide (x = nm))) ∧ Below w.heap.size w w' :=
 hostlerref13_without.calls (xs.length + 1) A c xs nm _ w hC hc (by
  have := z74 nm xs hl xs.length (xs.length + 1) 0 [] (by omega) (by omega) (by omega) (by simp)
  simpa [hostlerref13_without.f] using this)
end
section
theorem bt_byte (s : ByteArray) (j : Nat) (h : j < s.size) : bt s (j : Int) = (byteAt s j : Int) := by
 unfold bt byteAt
 rw [dif_pos (by simpa using h)]
 congr 2
 show s[j] = s.get! j
 cases s with
 | mk a =>
  have h' : j < a.size := h
  show a[j] = a[j]!
  rw [getElem!_pos a j h']
theorem zka (b : Int) (L : Option Bool) :
  (if b ≥ 97 then (if b ≤ 122 then L else (if b ≥ 48 then (if b ≤ 57 then L else (if b = 46 then L else (if b = 45 then L else some false))) else (if b = 46 then L else (if b = 45 then L else some false)))) else (if b ≥ 48 then (if b ≤ 57 then L else (if b = 46 then L else (if b = 45 then L else some false))) else (if b = 46 then L else (if b = 45 then L else some false)))) = if (97 ≤ b ∧ b ≤ 122 ∨ 48 ≤ b ∧ b ≤ 57 ∨ b = 46 ∨ b = 45) then L else some false := by
 by_cases h : (97 ≤ b ∧ b ≤ 122 ∨ 48 ≤ b ∧ b ≤ 57 ∨ b = 46 ∨ b = 45)
 ·rw [if_pos h]
  (repeat' split) <;> first | rfl | (exfalso; omega)
 ·rw [if_neg h]
  (repeat' split) <;> first | rfl | (exfalso; omega)
theorem zrb (n : Nat) : okB n = true ↔ (97 ≤ (n : Int) ∧ (n : Int) ≤ 122 ∨ 48 ≤ (n : Int) ∧ (n : Int) ≤ 57 ∨ (n : Int) = 46 ∨ (n : Int) = 45) := by
 unfold okB
 rw [decide_eq_true_iff]
 omega
theorem z87 (s : ByteArray) (hm : s.size ≤ 9223372036854775807) (d : Nat) : ∀ (k j : Nat), j ≤ s.size → s.size - j = d → d < k → ((∀ i, j ≤ i → i < s.size → okB (byteAt s i) = true) → hostlerref09_Name.l0 k s (j : Int) = some (decide (1 ≤ s.size) && decide (s.size ≤ 16))) ∧ (¬ (∀ i, j ≤ i → i < s.size → okB (byteAt s i) = true) → hostlerref09_Name.l0 k s (j : Int) = some false) := by
 induction d with
 | zero =>
  intro k j hj hd hk
  obtain ⟨k, rfl⟩ : ∃ m, k = m + 1 := ⟨k - 1, by omega⟩
  refine ⟨fun _ => ?_, fun h => absurd (fun i h1 h2 => by omega) h⟩
  simp only [hostlerref09_Name.l0]
  rw [if_neg (by omega)]
  by_cases h1 : 1 ≤ s.size
  ·rw [if_pos (by omega), decide_eq_true h1, Bool.true_and]
   congr 1
   by_cases h2 : s.size ≤ 16
   ·rw [decide_eq_true h2, decide_eq_true (by omega)]
   ·rw [decide_eq_false h2, decide_eq_false (by omega)]
  ·rw [if_neg (by omega), decide_eq_false h1]
   rfl
 | succ d ih =>
  intro k j hj hd hk
  obtain ⟨k, rfl⟩ : ∃ m, k = m + 1 := ⟨k - 1, by omega⟩
  have hlt : j < s.size := by omega
  have hw : wrap64 ((j : Int) + 1) = ((j + 1 : Nat) : Int) := by unfold wrap64; omega
  obtain ⟨i1, i2⟩ := ih k (j + 1) (by omega) (by omega) (by omega)
  simp only [hostlerref09_Name.l0]
  rw [if_pos (by omega), if_pos (by omega), hw, bt_byte s j hlt, zka]
  by_cases hb : okB (byteAt s j) = true
  ·rw [if_pos ((zrb _).1 hb)]
   refine ⟨fun h => i1 (fun i h1 h2 => h i (by omega) h2), fun h => i2 (fun h3 => h (fun i h1 h2 => ?_))⟩
   rcases Nat.eq_or_lt_of_le h1 with rfl | h4
   ·exact hb
   ·exact h3 i h4 h2
  ·rw [if_neg (fun h => hb ((zrb _).2 h))]
   exact ⟨fun h => absurd (h j (Nat.le_refl _) hlt) hb, fun _ => rfl⟩
theorem zr1 (s : ByteArray) (hm : s.size ≤ 9223372036854775807) (w : World) : Calls Tryz.prog 87 #[.string s] w fun e w' => e = .returned (.bool (nameB s)) ∧ Drawn0 w w' := by
 refine hostlerref09_Name.calls (s.size + 1) s _ w ?_
 obtain ⟨h1, h2⟩ := z87 s hm s.size (s.size + 1) 0 (by omega) (by omega) (by omega)
 unfold hostlerref09_Name.f nameB
 by_cases h : ∀ i, i < s.size → okB (byteAt s i) = true
 ·rw [decide_eq_true h, Bool.and_true]
  exact h1 (fun i _ hi => h i hi)
 ·rw [decide_eq_false h, Bool.and_false]
  exact h2 (fun h3 => h (fun i hi => h3 i (by omega) hi))
end
section
def B3 (W : World) (g : Nat) (a b c : Value) : Prop := W.heap[g]? = some (.cells #[a, b, c] 31 (0, 0))
theorem B3.below {W W1 : World} {g : Nat} {a b c : Value} (h : B3 W g a b c) (hb : Below W.heap.size W W1) : B3 W1 g a b c := z20 h hb
theorem B3.far {W : World} {g : Nat} {a b c : Value} (h : B3 W g a b c) {g2 j : Nat} (hn : g ≠ g2) (u : Value) : B3 (W.setCell ⟨g2, j, none⟩ u) g a b c := zt5 h hn u
theorem B3.put0 {W : World} {g : Nat} {a b c : Value} (h : B3 W g a b c) (u : Value) : B3 (W.setCell ⟨g, 0, none⟩ u) g u b c := zz1 (cs := #[a, b, c]) h 0 u rfl
theorem B3.put1 {W : World} {g : Nat} {a b c : Value} (h : B3 W g a b c) (u : Value) : B3 (W.setCell ⟨g, 1, none⟩ u) g a u c := zz1 (cs := #[a, b, c]) h 1 u rfl
theorem B3.put2 {W : World} {g : Nat} {a b c : Value} (h : B3 W g a b c) (u : Value) : B3 (W.setCell ⟨g, 2, none⟩ u) g a b u := zz1 (cs := #[a, b, c]) h 2 u rfl
theorem B3.all {W : World} {g : Nat} {a b c : Value} (h : B3 W g a b c) (x y z : Value) : B3 (((W.setCell ⟨g, 0, none⟩ x).setCell ⟨g, 1, none⟩ y).setCell ⟨g, 2, none⟩ z) g x y z := ((h.put0 x).put1 y).put2 z
theorem B3.cells {W : World} {g : Nat} {a b c : Value} (h : B3 W g a b c) : W.cell? ⟨g, 0, none⟩ = some a ∧ W.cell? ⟨g, 1, none⟩ = some b ∧ W.cell? ⟨g, 2, none⟩ = some c ∧ W.frozen? ⟨g, 0, none⟩ = false ∧ W.frozen? ⟨g, 1, none⟩ = false ∧ W.frozen? ⟨g, 2, none⟩ = false :=
 ⟨(z60 h 0).trans rfl, (z60 h 1).trans rfl, (z60 h 2).trans rfl, z40 h 0, z40 h 1, z40 h 2⟩
theorem Rd.put {α : Type} {enc : α → Value} {h1 : ∀ x, (enc x).oneCell' = true} {e : Nat} {b : Nat → Prop} {W : World} {v : Value} {xs : List α} (h : Rd enc h1 e b W v xs) {g j : Nat} {x y z : Value} (hB : B3 W g x y z) (he : e ≠ 31) (u : Value) : Rd enc h1 e b (W.setCell ⟨g, j, none⟩ u) v xs :=
 h.step (fun k cells hk _ => Below.heap_setCell W ⟨g, j, none⟩ u k (by
  intro h0
  have h2 : k = g := h0
  rw [h2, show W.heap[g]? = _ from hB] at hk
  injection hk with hk
  injection hk with _ hk _
  exact he hk.symm))
theorem Rd.putAll {α : Type} {enc : α → Value} {h1 : ∀ x, (enc x).oneCell' = true} {e : Nat} {b : Nat → Prop} {W : World} {v : Value} {xs : List α} (h : Rd enc h1 e b W v xs) {g : Nat} {x y z : Value} (hB : B3 W g x y z) (he : e ≠ 31) (p q r : Value) : Rd enc h1 e b (((W.setCell ⟨g, 0, none⟩ p).setCell ⟨g, 1, none⟩ q).setCell ⟨g, 2, none⟩ r) v xs :=
 ((h.put hB he p).put (hB.put0 p) he q).put ((hB.put0 p).put1 q) he r
theorem Rd.C {α : Type} {enc : α → Value} {h1 : ∀ x, (enc x).oneCell' = true} {e n c : Nat} {b : Nat → Prop} {W : World} {A : Option Addr} {xs : List α} (h : Rd enc h1 e b W (.slice A n c) xs) : (Kd.scalar enc h1).C W A xs.length xs := by
 obtain ⟨A', c', hv, _, hC, _⟩ := h
 injection hv with hA _ _
 rw [hA]
 exact hC
theorem Rd.grown {α β : Type} {enc : α → Value} {h1 : ∀ x, (enc x).oneCell' = true} {d : Kd β} {e e2 base : Nat} {b : Nat → Prop} {ok : Nat → Prop} {W W1 : World} {v v2 : Value} {xs : List α} {ys : List β} (h : Rd enc h1 e b W v xs) (hR : d.R e2 W base ok v2 ys) (hg : W.grownBy W1 v2.ownBlock) (he : e2 ≠ e) : Rd enc h1 e b W1 v xs :=
 h.step (fun k cells hk _ => hg.block k (z70 hk) (Kd.R_ne hR hk he))
theorem B3.grown {β : Type} {d : Kd β} {e2 base g : Nat} {ok : Nat → Prop} {W W1 : World} {x y z v2 : Value} {ys : List β} (h : B3 W g x y z) (hR : d.R e2 W base ok v2 ys) (hg : W.grownBy W1 v2.ownBlock) (he : e2 ≠ 31) : B3 W1 g x y z :=
 (hg.block g (z70 h) (Kd.R_ne hR h he)).trans h
theorem z62 {w W : World} {g : Nat} (h : Below w.heap.size w W) (hg : w.heap.size ≤ g) (p q r : Value) : Below w.heap.size w (((W.setCell ⟨g, 0, none⟩ p).setCell ⟨g, 1, none⟩ q).setCell ⟨g, 2, none⟩ r) :=
 zc0 (zc0 (zc0 h hg) hg) hg
def Back (b : Nat → Prop) (w w' : World) (vs : Value) (r : Rf) : Prop := ∃ v0 v1 v2 : Value, vs = .agg #[v0, v1, v2] ∧ RdS b w' v0 r.w ∧ RdS b w' v1 r.u ∧ RdI b w' v2 r.a ∧ Below w.heap.size w w'
variable {w : World} {b : Nat → Prop}
theorem zv2 (nm : ByteArray) (l : List ByteArray) : hasB nm l = decide (0 ≤ idxOf l nm 0) := by
 have key : ∀ (l : List ByteArray) (j : Int), 0 ≤ j → nm ∈ l → 0 ≤ idxOf l nm j := by
  intro l
  induction l with
  | nil => intro j _ h; simp at h
  | cons x l ih =>
   intro j hj hm
   unfold idxOf
   split
   ·exact hj
   ·rename_i hne
    rcases List.mem_cons.1 hm with rfl | hm
    ·exact absurd rfl hne
    ·exact ih (j + 1) (by omega) hm
 by_cases hm : nm ∈ l
 ·rw [(ze2 nm l).2 hm, decide_eq_true (key l 0 (by omega) hm)]
 ·rw [z14 nm l hm, decide_eq_false (by rw [zm4 nm l 0 hm]; omega)]
theorem zya (nm : ByteArray) (hs : nm.size ≤ 100) {lw lu : List ByteArray} {la : List Int} {v0 v1 v2 : Value} (h0 : RdS b w v0 lw) (h1 : RdS b w v1 lu) (h2 : RdI b w v2 la) (hb : FrB b w.heap.size) (hn : nameB nm = false) :
  Calls Tryz.prog 66 #[.agg #[v0, v1, v2], .string nm] w fun e w' => ∃ vs, e = .returned (.tuple #[vs, .int .i64 11]) ∧ Back b w w' vs ⟨lw, lu, la⟩ := by
 have NS := as0 hs
 obtain ⟨A0, c0, rfl, hc0, hC0⟩ := h0.reads
 obtain ⟨A1, c1, rfl, hc1, hC1⟩ := h1.reads
 obtain ⟨A2, c2, rfl, hc2, hC2⟩ := h2.reads
 have H0 := as0 h0
 have H1 := as0 h1
 have H2 := as0 h2
 have HC0 := as0 hC0
 have HC1 := as0 hC1
 have HC2 := as0 hC2
 have L0 := as0 hc0
 have L1 := as0 hc1
 have L2 := as0 hc2
 clear h0 h1 h2 hC0 hC1 hC2 hc0 hc1 hc2
 have HN := as0 (fun W => zr1 nm (by omega) W)
 rw [hn] at HN
 clear hn
 go_enter Tryz.func66, Tryz.ntmps66
 go_wp2_with (first
  | ((with_reducible refine za1 (N := 2) rfl ?_); refine z51 ?hg (N := 2) ?hd (cs := #[.slice A0 lw.length c0, .slice A1 lu.length c1, .slice A2 la.length c2]) (t := 31) ?hr ?_; (case hd => rfl); (case hg => rfl); (case hr => first | (go_simp; done) | (go_simp; rfl)); intro g1 hg w1 hbox hb; have BK1 := as0 (show B3 w1 g1 _ _ _ from hbox); have HB1 := as0 hb; have GE1 := as0 (show w.heap.size ≤ g1 by rw [hg]; exact Nat.le_refl _); clear hbox hb hg)
  | ((with_reducible refine za1 (N := 4) rfl ?_); refine z51 ?hg (N := 4) ?hd (cs := #[.slice none 0 0, .slice none 0 0, .slice none 0 0]) (t := 31) ?hr ?_; (case hd => rfl); (case hg => rfl); (case hr => first | (go_simp; done) | (go_simp; rfl)); intro g2 hg w2 hbox hb; have BK2 := as0 (show B3 w2 g2 _ _ _ from hbox); have BK1b := as0 (BK1.out.below hb); have HB2 := as0 (z10 HB1.out hb); have GE2 := as0 (show w.heap.size ≤ g2 by rw [hg]; exact HB1.out.size); have NB := as0 (show g1 ≠ g2 by rw [hg]; exact Nat.ne_of_lt (z70 BK1.out)); clear hbox hb hg)
  | (go_at_call 87; (with_reducible refine (HN.out _).mono ?_); rintro e wa ⟨rfl, hb0⟩; have hba := Drawn0.below hb0; clear hb0; have BK1a := as0 (BK1b.out.below hba); have BK2a := as0 (BK2.out.below hba); have HBa := as0 (z10 HB2.out hba); clear hba; obtain ⟨ca0, ca1, ca2, fa0, fa1, fa2⟩ := BK1a.out.cells; obtain ⟨cb0, cb1, cb2, fb0, fb1, fb2⟩ := BK2a.out.cells; have nb := NB.out; have nc := NB.out.symm))
 refine bodyPost_ret (zn0 rfl _ _ g2 31 #[.slice A0 lw.length c0, .slice A1 lu.length c1, .slice A2 la.length c2] (0, 0) _ rfl (B3.all BK2a.out _ _ _) Tryz.underlying31 rfl (by kernel_rfl)) rfl ?_
 exact ⟨_, rfl, _, _, _, rfl, (H0.out.below HBa.out).putAll BK2a.out (by decide) _ _ _, (H1.out.below HBa.out).putAll BK2a.out (by decide) _ _ _, (H2.out.below HBa.out).putAll BK2a.out (by decide) _ _ _, z62 HBa.out GE2.out _ _ _⟩
theorem za7 (nm : ByteArray) (hs : nm.size ≤ 100) {lw lu : List ByteArray} {la : List Int} {v0 v1 v2 : Value} (h0 : RdS b w v0 lw) (h1 : RdS b w v1 lu) (h2 : RdI b w v2 la) (hb : FrB b w.heap.size) (hn : nameB nm = true) (hi : 0 ≤ idxOf lw nm 0) :
  Calls Tryz.prog 66 #[.agg #[v0, v1, v2], .string nm] w fun e w' => ∃ vs, e = .returned (.tuple #[vs, .int .i64 6]) ∧ Back b w w' vs ⟨lw, lu, la⟩ := by
 have NS := as0 hs
 obtain ⟨A0, c0, rfl, hc0, hC0⟩ := h0.reads
 obtain ⟨A1, c1, rfl, hc1, hC1⟩ := h1.reads
 obtain ⟨A2, c2, rfl, hc2, hC2⟩ := h2.reads
 have H0 := as0 h0
 have H1 := as0 h1
 have H2 := as0 h2
 have HC0 := as0 hC0
 have HC1 := as0 hC1
 have HC2 := as0 hC2
 have L0 := as0 hc0
 have L1 := as0 hc1
 have L2 := as0 hc2
 clear h0 h1 h2 hC0 hC1 hC2 hc0 hc1 hc2
 have HN := as0 (fun W => zr1 nm (by omega) W)
 rw [hn] at HN
 clear hn
 have HP0 := as0 (fun W (h : Below w.heap.size w W) => z31 nm lw A0 c0 W (Kd.C_below HC0.out h) L0.out)
 have HP1 := as0 (fun W (h : Below w.heap.size w W) => z31 nm lu A1 c1 W (Kd.C_below HC1.out h) L1.out)
 generalize idxOf lw nm 0 = i0 at HP0 hi
 have hd0 : decide (0 ≤ i0) = true := decide_eq_true hi
 go_enter Tryz.func66, Tryz.ntmps66
 go_wp2_with (first
  | ((with_reducible refine za1 (N := 2) rfl ?_); refine z51 ?hg (N := 2) ?hd (cs := #[.slice A0 lw.length c0, .slice A1 lu.length c1, .slice A2 la.length c2]) (t := 31) ?hr ?_; (case hd => rfl); (case hg => rfl); (case hr => first | (go_simp; done) | (go_simp; rfl)); intro g1 hg w1 hbox hb; have BK1 := as0 (show B3 w1 g1 _ _ _ from hbox); have HB1 := as0 hb; have GE1 := as0 (show w.heap.size ≤ g1 by rw [hg]; exact Nat.le_refl _); clear hbox hb hg)
  | ((with_reducible refine za1 (N := 4) rfl ?_); refine z51 ?hg (N := 4) ?hd (cs := #[.slice none 0 0, .slice none 0 0, .slice none 0 0]) (t := 31) ?hr ?_; (case hd => rfl); (case hg => rfl); (case hr => first | (go_simp; done) | (go_simp; rfl)); intro g2 hg w2 hbox hb; have BK2 := as0 (show B3 w2 g2 _ _ _ from hbox); have BK1b := as0 (BK1.out.below hb); have HB2 := as0 (z10 HB1.out hb); have GE2 := as0 (show w.heap.size ≤ g2 by rw [hg]; exact HB1.out.size); have NB := as0 (show g1 ≠ g2 by rw [hg]; exact Nat.ne_of_lt (z70 BK1.out)); clear hbox hb hg)
  | (go_at_call 87; (with_reducible refine (HN.out _).mono ?_); rintro e wa ⟨rfl, hb0⟩; have hba := Drawn0.below hb0; clear hb0; have BK1a := as0 (BK1b.out.below hba); have BK2a := as0 (BK2.out.below hba); have HBa := as0 (z10 HB2.out hba); clear hba; obtain ⟨ca0, ca1, ca2, fa0, fa1, fa2⟩ := BK1a.out.cells; obtain ⟨cb0, cb1, cb2, fb0, fb1, fb2⟩ := BK2a.out.cells; have nb := NB.out; have nc := NB.out.symm)
  | (go_at_call 38; (with_reducible refine (HP0.out _ HBa.out).mono ?_); rintro e wc ⟨rfl, hb0⟩; have hbc := Drawn0.below hb0; clear hb0; have BK1c := as0 (BK1a.out.below hbc); have BK2c := as0 (BK2a.out.below hbc); have HBc := as0 (z10 HBa.out hbc); clear hbc; obtain ⟨ca0, ca1, ca2, fa0, fa1, fa2⟩ := BK1c.out.cells; obtain ⟨cb0, cb1, cb2, fb0, fb1, fb2⟩ := BK2c.out.cells; have nb := NB.out; have nc := NB.out.symm))
 refine bodyPost_ret (zn0 rfl _ _ g2 31 #[.slice A0 lw.length c0, .slice A1 lu.length c1, .slice A2 la.length c2] (0, 0) _ rfl (B3.all BK2c.out _ _ _) Tryz.underlying31 rfl (by kernel_rfl)) rfl ?_
 exact ⟨_, rfl, _, _, _, rfl, (H0.out.below HBc.out).putAll BK2c.out (by decide) _ _ _, (H1.out.below HBc.out).putAll BK2c.out (by decide) _ _ _, (H2.out.below HBc.out).putAll BK2c.out (by decide) _ _ _, z62 HBc.out GE2.out _ _ _⟩
theorem zw7 (nm : ByteArray) (hs : nm.size ≤ 100) {lw lu : List ByteArray} {la : List Int} {v0 v1 v2 : Value} (h0 : RdS b w v0 lw) (h1 : RdS b w v1 lu) (h2 : RdI b w v2 la) (hb : FrB b w.heap.size) (hn : nameB nm = true) (hi : idxOf lw nm 0 < 0) (hj : 0 ≤ idxOf lu nm 0) :
  Calls Tryz.prog 66 #[.agg #[v0, v1, v2], .string nm] w fun e w' => ∃ vs, e = .returned (.tuple #[vs, .int .i64 6]) ∧ Back b w w' vs ⟨lw, lu, la⟩ := by
 have NS := as0 hs
 obtain ⟨A0, c0, rfl, hc0, hC0⟩ := h0.reads
 obtain ⟨A1, c1, rfl, hc1, hC1⟩ := h1.reads
 obtain ⟨A2, c2, rfl, hc2, hC2⟩ := h2.reads
 have H0 := as0 h0
 have H1 := as0 h1
 have H2 := as0 h2
 have HC0 := as0 hC0
 have HC1 := as0 hC1
 have HC2 := as0 hC2
 have L0 := as0 hc0
 have L1 := as0 hc1
 have L2 := as0 hc2
 clear h0 h1 h2 hC0 hC1 hC2 hc0 hc1 hc2
 have HN := as0 (fun W => zr1 nm (by omega) W)
 rw [hn] at HN
 clear hn
 have HP0 := as0 (fun W (h : Below w.heap.size w W) => z31 nm lw A0 c0 W (Kd.C_below HC0.out h) L0.out)
 have HP1 := as0 (fun W (h : Below w.heap.size w W) => z31 nm lu A1 c1 W (Kd.C_below HC1.out h) L1.out)
 generalize idxOf lw nm 0 = i0 at HP0 hi
 generalize idxOf lu nm 0 = i1 at HP1 hj
 have hd0 : decide (0 ≤ i0) = false := decide_eq_false (by omega)
 have hd1 : decide (0 ≤ i1) = true := decide_eq_true hj
 go_enter Tryz.func66, Tryz.ntmps66
 go_wp2_with (first
  | ((with_reducible refine za1 (N := 2) rfl ?_); refine z51 ?hg (N := 2) ?hd (cs := #[.slice A0 lw.length c0, .slice A1 lu.length c1, .slice A2 la.length c2]) (t := 31) ?hr ?_; (case hd => rfl); (case hg => rfl); (case hr => first | (go_simp; done) | (go_simp; rfl)); intro g1 hg w1 hbox hb; have BK1 := as0 (show B3 w1 g1 _ _ _ from hbox); have HB1 := as0 hb; have GE1 := as0 (show w.heap.size ≤ g1 by rw [hg]; exact Nat.le_refl _); clear hbox hb hg)
  | ((with_reducible refine za1 (N := 4) rfl ?_); refine z51 ?hg (N := 4) ?hd (cs := #[.slice none 0 0, .slice none 0 0, .slice none 0 0]) (t := 31) ?hr ?_; (case hd => rfl); (case hg => rfl); (case hr => first | (go_simp; done) | (go_simp; rfl)); intro g2 hg w2 hbox hb; have BK2 := as0 (show B3 w2 g2 _ _ _ from hbox); have BK1b := as0 (BK1.out.below hb); have HB2 := as0 (z10 HB1.out hb); have GE2 := as0 (show w.heap.size ≤ g2 by rw [hg]; exact HB1.out.size); have NB := as0 (show g1 ≠ g2 by rw [hg]; exact Nat.ne_of_lt (z70 BK1.out)); clear hbox hb hg)
  | (go_at_call 87; (with_reducible refine (HN.out _).mono ?_); rintro e wa ⟨rfl, hb0⟩; have hba := Drawn0.below hb0; clear hb0; have BK1a := as0 (BK1b.out.below hba); have BK2a := as0 (BK2.out.below hba); have HBa := as0 (z10 HB2.out hba); clear hba; obtain ⟨ca0, ca1, ca2, fa0, fa1, fa2⟩ := BK1a.out.cells; obtain ⟨cb0, cb1, cb2, fb0, fb1, fb2⟩ := BK2a.out.cells; have nb := NB.out; have nc := NB.out.symm)
  | (go_at_call 38; (with_reducible refine (HP0.out _ HBa.out).mono ?_); rintro e wc ⟨rfl, hb0⟩; have hbc := Drawn0.below hb0; clear hb0; have BK1c := as0 (BK1a.out.below hbc); have BK2c := as0 (BK2a.out.below hbc); have HBc := as0 (z10 HBa.out hbc); clear hbc; obtain ⟨ca0, ca1, ca2, fa0, fa1, fa2⟩ := BK1c.out.cells; obtain ⟨cb0, cb1, cb2, fb0, fb1, fb2⟩ := BK2c.out.cells; have nb := NB.out; have nc := NB.out.symm)
  | (go_at_call 38; (with_reducible refine (HP1.out _ HBc.out).mono ?_); rintro e wd ⟨rfl, hb0⟩; have hbd := Drawn0.below hb0; clear hb0; have BK1d := as0 (BK1c.out.below hbd); have BK2d := as0 (BK2c.out.below hbd); have HBd := as0 (z10 HBc.out hbd); clear hbd; obtain ⟨ca0, ca1, ca2, fa0, fa1, fa2⟩ := BK1d.out.cells; obtain ⟨cb0, cb1, cb2, fb0, fb1, fb2⟩ := BK2d.out.cells; have nb := NB.out; have nc := NB.out.symm))
 refine bodyPost_ret (zn0 rfl _ _ g2 31 #[.slice A0 lw.length c0, .slice A1 lu.length c1, .slice A2 la.length c2] (0, 0) _ rfl (B3.all BK2d.out _ _ _) Tryz.underlying31 rfl (by kernel_rfl)) rfl ?_
 exact ⟨_, rfl, _, _, _, rfl, (H0.out.below HBd.out).putAll BK2d.out (by decide) _ _ _, (H1.out.below HBd.out).putAll BK2d.out (by decide) _ _ _, (H2.out.below HBd.out).putAll BK2d.out (by decide) _ _ _, z62 HBd.out GE2.out _ _ _⟩
theorem zi9 (nm : ByteArray) (hs : nm.size ≤ 100) {lw lu : List ByteArray} {la : List Int} {v0 v1 v2 : Value} (h0 : RdS b w v0 lw) (h1 : RdS b w v1 lu) (h2 : RdI b w v2 la) (hb : FrB b w.heap.size) (hn : nameB nm = true) (hi : idxOf lw nm 0 < 0) (hj : idxOf lu nm 0 < 0) (hl : ¬ lw.length < 16) :
  Calls Tryz.prog 66 #[.agg #[v0, v1, v2], .string nm] w fun e w' => ∃ vs, e = .returned (.tuple #[vs, .int .i64 7]) ∧ Back b w w' vs ⟨lw, lu, la⟩ := by
 have NS := as0 hs
 obtain ⟨A0, c0, rfl, hc0, hC0⟩ := h0.reads
 obtain ⟨A1, c1, rfl, hc1, hC1⟩ := h1.reads
 obtain ⟨A2, c2, rfl, hc2, hC2⟩ := h2.reads
 have H0 := as0 h0
 have H1 := as0 h1
 have H2 := as0 h2
 have HC0 := as0 hC0
 have HC1 := as0 hC1
 have HC2 := as0 hC2
 have L0 := as0 hc0
 have L1 := as0 hc1
 have L2 := as0 hc2
 clear h0 h1 h2 hC0 hC1 hC2 hc0 hc1 hc2
 have HN := as0 (fun W => zr1 nm (by omega) W)
 rw [hn] at HN
 clear hn
 have HP0 := as0 (fun W (h : Below w.heap.size w W) => z31 nm lw A0 c0 W (Kd.C_below HC0.out h) L0.out)
 have HP1 := as0 (fun W (h : Below w.heap.size w W) => z31 nm lu A1 c1 W (Kd.C_below HC1.out h) L1.out)
 generalize idxOf lw nm 0 = i0 at HP0 hi
 generalize idxOf lu nm 0 = i1 at HP1 hj
 have hd0 : decide (0 ≤ i0) = false := decide_eq_false (by omega)
 have hd1 : decide (0 ≤ i1) = false := decide_eq_false (by omega)
 have hl2 : decide ((16 : Int) ≤ (lw.length : Int)) = true := decide_eq_true (by omega)
 have hl3 : decide (16 ≤ lw.length) = true := decide_eq_true (by omega)
 go_enter Tryz.func66, Tryz.ntmps66
 go_wp2_with (first
  | ((with_reducible refine za1 (N := 2) rfl ?_); refine z51 ?hg (N := 2) ?hd (cs := #[.slice A0 lw.length c0, .slice A1 lu.length c1, .slice A2 la.length c2]) (t := 31) ?hr ?_; (case hd => rfl); (case hg => rfl); (case hr => first | (go_simp; done) | (go_simp; rfl)); intro g1 hg w1 hbox hb; have BK1 := as0 (show B3 w1 g1 _ _ _ from hbox); have HB1 := as0 hb; have GE1 := as0 (show w.heap.size ≤ g1 by rw [hg]; exact Nat.le_refl _); clear hbox hb hg)
  | ((with_reducible refine za1 (N := 4) rfl ?_); refine z51 ?hg (N := 4) ?hd (cs := #[.slice none 0 0, .slice none 0 0, .slice none 0 0]) (t := 31) ?hr ?_; (case hd => rfl); (case hg => rfl); (case hr => first | (go_simp; done) | (go_simp; rfl)); intro g2 hg w2 hbox hb; have BK2 := as0 (show B3 w2 g2 _ _ _ from hbox); have BK1b := as0 (BK1.out.below hb); have HB2 := as0 (z10 HB1.out hb); have GE2 := as0 (show w.heap.size ≤ g2 by rw [hg]; exact HB1.out.size); have NB := as0 (show g1 ≠ g2 by rw [hg]; exact Nat.ne_of_lt (z70 BK1.out)); clear hbox hb hg)
  | (go_at_call 87; (with_reducible refine (HN.out _).mono ?_); rintro e wa ⟨rfl, hb0⟩; have hba := Drawn0.below hb0; clear hb0; have BK1a := as0 (BK1b.out.below hba); have BK2a := as0 (BK2.out.below hba); have HBa := as0 (z10 HB2.out hba); clear hba; obtain ⟨ca0, ca1, ca2, fa0, fa1, fa2⟩ := BK1a.out.cells; obtain ⟨cb0, cb1, cb2, fb0, fb1, fb2⟩ := BK2a.out.cells; have nb := NB.out; have nc := NB.out.symm)
  | (go_at_call 38; (with_reducible refine (HP0.out _ HBa.out).mono ?_); rintro e wc ⟨rfl, hb0⟩; have hbc := Drawn0.below hb0; clear hb0; have BK1c := as0 (BK1a.out.below hbc); have BK2c := as0 (BK2a.out.below hbc); have HBc := as0 (z10 HBa.out hbc); clear hbc; obtain ⟨ca0, ca1, ca2, fa0, fa1, fa2⟩ := BK1c.out.cells; obtain ⟨cb0, cb1, cb2, fb0, fb1, fb2⟩ := BK2c.out.cells; have nb := NB.out; have nc := NB.out.symm)
  | (go_at_call 38; (with_reducible refine (HP1.out _ HBc.out).mono ?_); rintro e wd ⟨rfl, hb0⟩; have hbd := Drawn0.below hb0; clear hb0; have BK1d := as0 (BK1c.out.below hbd); have BK2d := as0 (BK2c.out.below hbd); have HBd := as0 (z10 HBc.out hbd); clear hbd; obtain ⟨ca0, ca1, ca2, fa0, fa1, fa2⟩ := BK1d.out.cells; obtain ⟨cb0, cb1, cb2, fb0, fb1, fb2⟩ := BK2d.out.cells; have nb := NB.out; have nc := NB.out.symm))
 refine bodyPost_ret (zn0 rfl _ _ g2 31 #[.slice A0 lw.length c0, .slice A1 lu.length c1, .slice A2 la.length c2] (0, 0) _ rfl (B3.all BK2d.out _ _ _) Tryz.underlying31 rfl (by kernel_rfl)) rfl ?_
 exact ⟨_, rfl, _, _, _, rfl, (H0.out.below HBd.out).putAll BK2d.out (by decide) _ _ _, (H1.out.below HBd.out).putAll BK2d.out (by decide) _ _ _, (H2.out.below HBd.out).putAll BK2d.out (by decide) _ _ _, z62 HBd.out GE2.out _ _ _⟩
theorem ask21_ok (nm : ByteArray) (hs : nm.size ≤ 100) {lw lu : List ByteArray} {la : List Int} {v0 v1 v2 : Value} (h0 : RdS b w v0 lw) (h1 : RdS b w v1 lu) (h2 : RdI b w v2 la) (hb : FrB b w.heap.size) (hn : nameB nm = true) (hi : idxOf lw nm 0 < 0) (hj : idxOf lu nm 0 < 0) (hl : lw.length < 16) :
  Calls Tryz.prog 66 #[.agg #[v0, v1, v2], .string nm] w fun e w' => ∃ vs, e = .returned (.tuple #[vs, .int .i64 0]) ∧ Back b w w' vs ⟨lw ++ [nm], lu, la⟩ := by
 have NS := as0 hs
 obtain ⟨A0, c0, rfl, hc0, hC0⟩ := h0.reads
 obtain ⟨A1, c1, rfl, hc1, hC1⟩ := h1.reads
 obtain ⟨A2, c2, rfl, hc2, hC2⟩ := h2.reads
 have H0 := as0 h0
 have H1 := as0 h1
 have H2 := as0 h2
 have HC0 := as0 hC0
 have HC1 := as0 hC1
 have HC2 := as0 hC2
 have L0 := as0 hc0
 have L1 := as0 hc1
 have L2 := as0 hc2
 clear h0 h1 h2 hC0 hC1 hC2 hc0 hc1 hc2
 have HN := as0 (fun W => zr1 nm (by omega) W)
 rw [hn] at HN
 clear hn
 have HP0 := as0 (fun W (h : Below w.heap.size w W) => z31 nm lw A0 c0 W (Kd.C_below HC0.out h) L0.out)
 have HP1 := as0 (fun W (h : Below w.heap.size w W) => z31 nm lu A1 c1 W (Kd.C_below HC1.out h) L1.out)
 generalize idxOf lw nm 0 = i0 at HP0 hi
 generalize idxOf lu nm 0 = i1 at HP1 hj
 have HW := as0 (fun W (h : Below w.heap.size w W) => zo8 nm lw A0 c0 W (Kd.C_below HC0.out h) L0.out (by omega))
 generalize lw ++ [nm] = ln at HW ⊢
 have hd0 : decide (0 ≤ i0) = false := decide_eq_false (by omega)
 have hd1 : decide (0 ≤ i1) = false := decide_eq_false (by omega)
 have hl2 : decide ((16 : Int) ≤ (lw.length : Int)) = false := decide_eq_false (by omega)
 have hl3 : decide (16 ≤ lw.length) = false := decide_eq_false (by omega)
 go_enter Tryz.func66, Tryz.ntmps66
 go_wp2_with (first
  | ((with_reducible refine za1 (N := 2) rfl ?_); refine z51 ?hg (N := 2) ?hd (cs := #[.slice A0 lw.length c0, .slice A1 lu.length c1, .slice A2 la.length c2]) (t := 31) ?hr ?_; (case hd => rfl); (case hg => rfl); (case hr => first | (go_simp; done) | (go_simp; rfl)); intro g1 hg w1 hbox hb; have BK1 := as0 (show B3 w1 g1 _ _ _ from hbox); have HB1 := as0 hb; have GE1 := as0 (show w.heap.size ≤ g1 by rw [hg]; exact Nat.le_refl _); clear hbox hb hg)
  | ((with_reducible refine za1 (N := 4) rfl ?_); refine z51 ?hg (N := 4) ?hd (cs := #[.slice none 0 0, .slice none 0 0, .slice none 0 0]) (t := 31) ?hr ?_; (case hd => rfl); (case hg => rfl); (case hr => first | (go_simp; done) | (go_simp; rfl)); intro g2 hg w2 hbox hb; have BK2 := as0 (show B3 w2 g2 _ _ _ from hbox); have BK1b := as0 (BK1.out.below hb); have HB2 := as0 (z10 HB1.out hb); have GE2 := as0 (show w.heap.size ≤ g2 by rw [hg]; exact HB1.out.size); have NB := as0 (show g1 ≠ g2 by rw [hg]; exact Nat.ne_of_lt (z70 BK1.out)); clear hbox hb hg)
  | (go_at_call 87; (with_reducible refine (HN.out _).mono ?_); rintro e wa ⟨rfl, hb0⟩; have hba := Drawn0.below hb0; clear hb0; have BK1a := as0 (BK1b.out.below hba); have BK2a := as0 (BK2.out.below hba); have HBa := as0 (z10 HB2.out hba); clear hba; obtain ⟨ca0, ca1, ca2, fa0, fa1, fa2⟩ := BK1a.out.cells; obtain ⟨cb0, cb1, cb2, fb0, fb1, fb2⟩ := BK2a.out.cells; have nb := NB.out; have nc := NB.out.symm)
  | (go_at_call 38; (with_reducible refine (HP0.out _ HBa.out).mono ?_); rintro e wc ⟨rfl, hb0⟩; have hbc := Drawn0.below hb0; clear hb0; have BK1c := as0 (BK1a.out.below hbc); have BK2c := as0 (BK2a.out.below hbc); have HBc := as0 (z10 HBa.out hbc); clear hbc; obtain ⟨ca0, ca1, ca2, fa0, fa1, fa2⟩ := BK1c.out.cells; obtain ⟨cb0, cb1, cb2, fb0, fb1, fb2⟩ := BK2c.out.cells; have nb := NB.out; have nc := NB.out.symm)
  | (go_at_call 38; (with_reducible refine (HP1.out _ HBc.out).mono ?_); rintro e wd ⟨rfl, hb0⟩; have hbd := Drawn0.below hb0; clear hb0; have BK1d := as0 (BK1c.out.below hbd); have BK2d := as0 (BK2c.out.below hbd); have HBd := as0 (z10 HBc.out hbd); clear hbd; obtain ⟨ca0, ca1, ca2, fa0, fa1, fa2⟩ := BK1d.out.cells; obtain ⟨cb0, cb1, cb2, fb0, fb1, fb2⟩ := BK2d.out.cells; have nb := NB.out; have nc := NB.out.symm)
  | (go_at_call 89; (with_reducible refine (HW.out _ HBd.out).mono ?_); rintro e wf ⟨v3, rfl, hR, hbf⟩; have BK1f := as0 (BK1d.out.below hbf); have BK2f := as0 (BK2d.out.below hbf); have HBf := as0 (z10 HBd.out hbf); clear hbf; obtain ⟨ca0, ca1, ca2, fa0, fa1, fa2⟩ := BK1f.out.cells; obtain ⟨cb0, cb1, cb2, fb0, fb1, fb2⟩ := BK2f.out.cells; have nb := NB.out; have nc := NB.out.symm; have HR := as0 ((Rd.of_R hR).lower (zf1 hb HBd.out.size)); obtain ⟨A3, n3, rfl⟩ := Kd.R_slice hR; clear hR))
 refine bodyPost_ret (zn0 rfl _ _ g2 31 #[.slice A3 ln.length n3, .slice A1 lu.length c1, .slice A2 la.length c2] (0, 0) _ rfl (B3.all (BK2f.out.far NB.out.symm _) _ _ _) Tryz.underlying31 rfl (by kernel_rfl)) rfl ?_
 exact ⟨_, rfl, _, _, _, rfl, (HR.out.put BK1f.out (by decide) _).putAll (BK2f.out.far NB.out.symm _) (by decide) _ _ _, ((H1.out.below HBf.out).put BK1f.out (by decide) _).putAll (BK2f.out.far NB.out.symm _) (by decide) _ _ _, ((H2.out.below HBf.out).put BK1f.out (by decide) _).putAll (BK2f.out.far NB.out.symm _) (by decide) _ _ _, z62 (zc0 HBf.out GE1.out) GE2.out _ _ _⟩
theorem ref_ask (nm : ByteArray) (hs : nm.size ≤ 100) (r : Rf) {v0 v1 v2 : Value} (h0 : RdS b w v0 r.w) (h1 : RdS b w v1 r.u) (h2 : RdI b w v2 r.a) (hb : FrB b w.heap.size) :
  Calls Tryz.prog 66 #[.agg #[v0, v1, v2], .string nm] w fun e w' => ∃ vs, e = .returned (.tuple #[vs, .int .i64 (refAsk r nm).1]) ∧ Back b w w' vs (refAsk r nm).2 := by
 unfold refAsk
 by_cases hn : nameB nm = true
 ·rw [if_pos hn]
  by_cases hi : 0 ≤ idxOf r.w nm 0
  ·rw [zv2 nm r.w, decide_eq_true hi]
   exact za7 nm hs h0 h1 h2 hb hn hi
  ·by_cases hj : 0 ≤ idxOf r.u nm 0
   ·rw [zv2 nm r.u, decide_eq_true hj, Bool.or_true]
    exact zw7 nm hs h0 h1 h2 hb hn (by omega) hj
   ·rw [zv2 nm r.w, zv2 nm r.u, decide_eq_false hi, decide_eq_false hj, if_neg (by decide)]
    by_cases hl : r.w.length < 16
    ·rw [if_pos hl]
     exact ask21_ok nm hs h0 h1 h2 hb hn (by omega) (by omega) hl
    ·rw [if_neg hl]
     exact zi9 nm hs h0 h1 h2 hb hn (by omega) (by omega) hl
 ·rw [if_neg hn]
  exact zya nm hs h0 h1 h2 hb (Bool.eq_false_iff.2 hn)
end
section
variable {w : World} {b : Nat → Prop}
theorem zoc (dl : Int) : hostlerref01_Cut.f dl = some (mn (mx dl 0) 1099511627776) := by
 unfold hostlerref01_Cut.f mn mx
 by_cases h : dl < 0
 ·simp [h]
 ·by_cases h2 : dl > 1099511627776
  ·simp [h, h2]
  ·simp [h, h2]
theorem z0c (nm : ByteArray) (dl : Int) (hs : nm.size ≤ 100) {lw lu : List ByteArray} {la : List Int} {v0 v1 v2 : Value} (h0 : RdS b w v0 lw) (h1 : RdS b w v1 lu) (h2 : RdI b w v2 la) (hb : FrB b w.heap.size) (hn : nameB nm = false) :
  Calls Tryz.prog 90 #[.agg #[v0, v1, v2], .string nm, .int .i64 dl] w fun e w' => ∃ vs, e = .returned (.tuple #[vs, .int .i64 11]) ∧ Back b w w' vs ⟨lw, lu, la⟩ := by
 have NS := as0 hs
 obtain ⟨A0, c0, rfl, hc0, hC0⟩ := h0.reads
 obtain ⟨A1, c1, rfl, hc1, hC1⟩ := h1.reads
 obtain ⟨A2, c2, rfl, hc2, hC2⟩ := h2.reads
 have H0 := as0 h0
 have H1 := as0 h1
 have H2 := as0 h2
 have HC0 := as0 hC0
 have HC1 := as0 hC1
 have HC2 := as0 hC2
 have L0 := as0 hc0
 have L1 := as0 hc1
 have L2 := as0 hc2
 clear h0 h1 h2 hC0 hC1 hC2 hc0 hc1 hc2
 have HN := as0 (fun W => zr1 nm (by omega) W)
 rw [hn] at HN
 clear hn
 have HP0 := as0 (fun W (h : Below w.heap.size w W) => z31 nm lw A0 c0 W (Kd.C_below HC0.out h) L0.out)
 have HP1 := as0 (fun W (h : Below w.heap.size w W) => z31 nm lu A1 c1 W (Kd.C_below HC1.out h) L1.out)
 go_enter Tryz.func90, Tryz.ntmps90
 go_wp2_with (first
  | ((with_reducible refine za1 (N := 3) rfl ?_); refine z51 ?hg (N := 3) ?hd (cs := #[.slice A0 lw.length c0, .slice A1 lu.length c1, .slice A2 la.length c2]) (t := 31) ?hr ?_; (case hd => rfl); (case hg => rfl); (case hr => first | (go_simp; done) | (go_simp; rfl)); intro g1 hg w1 hbox hb; have BK1 := as0 (show B3 w1 g1 _ _ _ from hbox); have HB1 := as0 hb; have GE1 := as0 (show w.heap.size ≤ g1 by rw [hg]; exact Nat.le_refl _); clear hbox hb hg)
  | ((with_reducible refine za1 (N := 6) rfl ?_); refine z51 ?hg (N := 6) ?hd (cs := #[.slice none 0 0, .slice none 0 0, .slice none 0 0]) (t := 31) ?hr ?_; (case hd => rfl); (case hg => rfl); (case hr => first | (go_simp; done) | (go_simp; rfl)); intro g2 hg w2 hbox hb; have BK2 := as0 (show B3 w2 g2 _ _ _ from hbox); have BK1b := as0 (BK1.out.below hb); have HB2 := as0 (z10 HB1.out hb); have GE2 := as0 (show w.heap.size ≤ g2 by rw [hg]; exact HB1.out.size); have NB := as0 (show g1 ≠ g2 by rw [hg]; exact Nat.ne_of_lt (z70 BK1.out)); clear hbox hb hg)
  | (go_at_call 87; (with_reducible refine (HN.out _).mono ?_); rintro e wa ⟨rfl, hb0⟩; have hba := Drawn0.below hb0; clear hb0; have BK1a := as0 (BK1b.out.below hba); have BK2a := as0 (BK2.out.below hba); have HBa := as0 (z10 HB2.out hba); clear hba; obtain ⟨ca0, ca1, ca2, fa0, fa1, fa2⟩ := BK1a.out.cells; obtain ⟨cb0, cb1, cb2, fb0, fb1, fb2⟩ := BK2a.out.cells; have nb := NB.out; have nc := NB.out.symm))
 refine bodyPost_ret (zn0 rfl _ _ g2 31 #[.slice A0 lw.length c0, .slice A1 lu.length c1, .slice A2 la.length c2] (0, 0) _ rfl (B3.all BK2a.out _ _ _) Tryz.underlying31 rfl (by kernel_rfl)) rfl ?_
 exact ⟨_, rfl, _, _, _, rfl, (H0.out.below HBa.out).putAll BK2a.out (by decide) _ _ _, (H1.out.below HBa.out).putAll BK2a.out (by decide) _ _ _, (H2.out.below HBa.out).putAll BK2a.out (by decide) _ _ _, z62 HBa.out GE2.out _ _ _⟩
theorem zc8 (nm : ByteArray) (dl : Int) (hs : nm.size ≤ 100) {lw lu : List ByteArray} {la : List Int} {v0 v1 v2 : Value} (h0 : RdS b w v0 lw) (h1 : RdS b w v1 lu) (h2 : RdI b w v2 la) (hb : FrB b w.heap.size) (hn : nameB nm = true) (hj : 0 ≤ idxOf lu nm 0) :
  Calls Tryz.prog 90 #[.agg #[v0, v1, v2], .string nm, .int .i64 dl] w fun e w' => ∃ vs, e = .returned (.tuple #[vs, .int .i64 6]) ∧ Back b w w' vs ⟨lw, lu, la⟩ := by
 have NS := as0 hs
 obtain ⟨A0, c0, rfl, hc0, hC0⟩ := h0.reads
 obtain ⟨A1, c1, rfl, hc1, hC1⟩ := h1.reads
 obtain ⟨A2, c2, rfl, hc2, hC2⟩ := h2.reads
 have H0 := as0 h0
 have H1 := as0 h1
 have H2 := as0 h2
 have HC0 := as0 hC0
 have HC1 := as0 hC1
 have HC2 := as0 hC2
 have L0 := as0 hc0
 have L1 := as0 hc1
 have L2 := as0 hc2
 clear h0 h1 h2 hC0 hC1 hC2 hc0 hc1 hc2
 have HN := as0 (fun W => zr1 nm (by omega) W)
 rw [hn] at HN
 clear hn
 have HP0 := as0 (fun W (h : Below w.heap.size w W) => z31 nm lw A0 c0 W (Kd.C_below HC0.out h) L0.out)
 have HP1 := as0 (fun W (h : Below w.heap.size w W) => z31 nm lu A1 c1 W (Kd.C_below HC1.out h) L1.out)
 generalize idxOf lu nm 0 = i1 at HP1 hj
 have hd1 : decide (0 ≤ i1) = true := decide_eq_true hj
 go_enter Tryz.func90, Tryz.ntmps90
 go_wp2_with (first
  | ((with_reducible refine za1 (N := 3) rfl ?_); refine z51 ?hg (N := 3) ?hd (cs := #[.slice A0 lw.length c0, .slice A1 lu.length c1, .slice A2 la.length c2]) (t := 31) ?hr ?_; (case hd => rfl); (case hg => rfl); (case hr => first | (go_simp; done) | (go_simp; rfl)); intro g1 hg w1 hbox hb; have BK1 := as0 (show B3 w1 g1 _ _ _ from hbox); have HB1 := as0 hb; have GE1 := as0 (show w.heap.size ≤ g1 by rw [hg]; exact Nat.le_refl _); clear hbox hb hg)
  | ((with_reducible refine za1 (N := 6) rfl ?_); refine z51 ?hg (N := 6) ?hd (cs := #[.slice none 0 0, .slice none 0 0, .slice none 0 0]) (t := 31) ?hr ?_; (case hd => rfl); (case hg => rfl); (case hr => first | (go_simp; done) | (go_simp; rfl)); intro g2 hg w2 hbox hb; have BK2 := as0 (show B3 w2 g2 _ _ _ from hbox); have BK1b := as0 (BK1.out.below hb); have HB2 := as0 (z10 HB1.out hb); have GE2 := as0 (show w.heap.size ≤ g2 by rw [hg]; exact HB1.out.size); have NB := as0 (show g1 ≠ g2 by rw [hg]; exact Nat.ne_of_lt (z70 BK1.out)); clear hbox hb hg)
  | (go_at_call 87; (with_reducible refine (HN.out _).mono ?_); rintro e wa ⟨rfl, hb0⟩; have hba := Drawn0.below hb0; clear hb0; have BK1a := as0 (BK1b.out.below hba); have BK2a := as0 (BK2.out.below hba); have HBa := as0 (z10 HB2.out hba); clear hba; obtain ⟨ca0, ca1, ca2, fa0, fa1, fa2⟩ := BK1a.out.cells; obtain ⟨cb0, cb1, cb2, fb0, fb1, fb2⟩ := BK2a.out.cells; have nb := NB.out; have nc := NB.out.symm)
  | (go_at_call 38; (with_reducible refine (HP1.out _ HBa.out).mono ?_); rintro e wc ⟨rfl, hb0⟩; have hbc := Drawn0.below hb0; clear hb0; have BK1c := as0 (BK1a.out.below hbc); have BK2c := as0 (BK2a.out.below hbc); have HBc := as0 (z10 HBa.out hbc); clear hbc; obtain ⟨ca0, ca1, ca2, fa0, fa1, fa2⟩ := BK1c.out.cells; obtain ⟨cb0, cb1, cb2, fb0, fb1, fb2⟩ := BK2c.out.cells; have nb := NB.out; have nc := NB.out.symm))
 refine bodyPost_ret (zn0 rfl _ _ g2 31 #[.slice A0 lw.length c0, .slice A1 lu.length c1, .slice A2 la.length c2] (0, 0) _ rfl (B3.all BK2c.out _ _ _) Tryz.underlying31 rfl (by kernel_rfl)) rfl ?_
 exact ⟨_, rfl, _, _, _, rfl, (H0.out.below HBc.out).putAll BK2c.out (by decide) _ _ _, (H1.out.below HBc.out).putAll BK2c.out (by decide) _ _ _, (H2.out.below HBc.out).putAll BK2c.out (by decide) _ _ _, z62 HBc.out GE2.out _ _ _⟩
theorem beg22_ok (nm : ByteArray) (dl : Int) (hs : nm.size ≤ 100) {lw lu : List ByteArray} {la : List Int} {v0 v1 v2 : Value} (h0 : RdS b w v0 lw) (h1 : RdS b w v1 lu) (h2 : RdI b w v2 la) (hb : FrB b w.heap.size) (hn : nameB nm = true) (hj : idxOf lu nm 0 < 0) (hl0 : lw.length ≤ 1000000) (hl1 : lu.length ≤ 1000000) (hl2 : la.length ≤ 1000000) :
  Calls Tryz.prog 90 #[.agg #[v0, v1, v2], .string nm, .int .i64 dl] w fun e w' => ∃ vs, e = .returned (.tuple #[vs, .int .i64 0]) ∧ Back b w w' vs ⟨lw.filter (fun x => !decide (x = nm)), lu ++ [nm], la ++ [mn (mx dl 0) 1099511627776]⟩ := by
 have NS := as0 hs
 obtain ⟨A0, c0, rfl, hc0, hC0⟩ := h0.reads
 obtain ⟨A1, c1, rfl, hc1, hC1⟩ := h1.reads
 obtain ⟨A2, c2, rfl, hc2, hC2⟩ := h2.reads
 have H0 := as0 h0
 have H1 := as0 h1
 have H2 := as0 h2
 have HC0 := as0 hC0
 have HC1 := as0 hC1
 have HC2 := as0 hC2
 have L0 := as0 hc0
 have L1 := as0 hc1
 have L2 := as0 hc2
 clear h0 h1 h2 hC0 hC1 hC2 hc0 hc1 hc2
 have HN := as0 (fun W => zr1 nm (by omega) W)
 rw [hn] at HN
 clear hn
 have HP0 := as0 (fun W (h : Below w.heap.size w W) => z31 nm lw A0 c0 W (Kd.C_below HC0.out h) L0.out)
 have HP1 := as0 (fun W (h : Below w.heap.size w W) => z31 nm lu A1 c1 W (Kd.C_below HC1.out h) L1.out)
 generalize idxOf lu nm 0 = i1 at HP1 hj
 have hd1 : decide (0 ≤ i1) = false := decide_eq_false (by omega)
 have HX := as0 (fun W (h : Below w.heap.size w W) => z78 nm lw A0 c0 W (Kd.C_below HC0.out h) L0.out (by omega))
 have HW := as0 (fun W (h : RdS b W (.slice A1 lu.length c1) lu) => zo8 nm lu A1 c1 W h.C L1.out (by omega))
 have HCV : Aside0 (hostlerref01_Cut.f dl = some (mn (mx dl 0) 1099511627776)) := ⟨zoc dl⟩
 generalize mn (mx dl 0) 1099511627776 = cv at HCV ⊢
 generalize (lw.filter (fun x => !decide (x = nm))) = l1 at HX ⊢
 generalize lu ++ [nm] = l2 at HW ⊢
 obtain ⟨l3, hl3⟩ : ∃ l, l = la ++ [cv] := ⟨_, rfl⟩
 rw [← hl3]
 have HL3 := as0 hl3
 clear hl3
 go_enter Tryz.func90, Tryz.ntmps90
 go_wp2_with (first
  | ((with_reducible refine za1 (N := 3) rfl ?_); refine z51 ?hg (N := 3) ?hd (cs := #[.slice A0 lw.length c0, .slice A1 lu.length c1, .slice A2 la.length c2]) (t := 31) ?hr ?_; (case hd => rfl); (case hg => rfl); (case hr => first | (go_simp; done) | (go_simp; rfl)); intro g1 hg w1 hbox hb; have BK1 := as0 (show B3 w1 g1 _ _ _ from hbox); have HB1 := as0 hb; have GE1 := as0 (show w.heap.size ≤ g1 by rw [hg]; exact Nat.le_refl _); clear hbox hb hg)
  | ((with_reducible refine za1 (N := 6) rfl ?_); refine z51 ?hg (N := 6) ?hd (cs := #[.slice none 0 0, .slice none 0 0, .slice none 0 0]) (t := 31) ?hr ?_; (case hd => rfl); (case hg => rfl); (case hr => first | (go_simp; done) | (go_simp; rfl)); intro g2 hg w2 hbox hb; have BK2 := as0 (show B3 w2 g2 _ _ _ from hbox); have BK1b := as0 (BK1.out.below hb); have HB2 := as0 (z10 HB1.out hb); have GE2 := as0 (show w.heap.size ≤ g2 by rw [hg]; exact HB1.out.size); have NB := as0 (show g1 ≠ g2 by rw [hg]; exact Nat.ne_of_lt (z70 BK1.out)); clear hbox hb hg)
  | (go_at_call 87; (with_reducible refine (HN.out _).mono ?_); rintro e wa ⟨rfl, hb0⟩; have hba := Drawn0.below hb0; clear hb0; have BK1a := as0 (BK1b.out.below hba); have BK2a := as0 (BK2.out.below hba); have HBa := as0 (z10 HB2.out hba); clear hba; obtain ⟨ca0, ca1, ca2, fa0, fa1, fa2⟩ := BK1a.out.cells; obtain ⟨cb0, cb1, cb2, fb0, fb1, fb2⟩ := BK2a.out.cells; have nb := NB.out; have nc := NB.out.symm)
  | (go_at_call 38; (with_reducible refine (HP1.out _ HBa.out).mono ?_); rintro e wc ⟨rfl, hb0⟩; have hbc := Drawn0.below hb0; clear hb0; have BK1c := as0 (BK1a.out.below hbc); have BK2c := as0 (BK2a.out.below hbc); have HBc := as0 (z10 HBa.out hbc); clear hbc; obtain ⟨ca0, ca1, ca2, fa0, fa1, fa2⟩ := BK1c.out.cells; obtain ⟨cb0, cb1, cb2, fb0, fb1, fb2⟩ := BK2c.out.cells; have nb := NB.out; have nc := NB.out.symm)
  | (go_at_call 109; (with_reducible refine (HX.out _ HBc.out).mono ?_); rintro e wf ⟨v3, rfl, hR, hbf⟩; have BK1f := as0 (BK1c.out.below hbf); have BK2f := as0 (BK2c.out.below hbf); have HBf := as0 (z10 HBc.out hbf); clear hbf; obtain ⟨ca0, ca1, ca2, fa0, fa1, fa2⟩ := BK1f.out.cells; obtain ⟨cb0, cb1, cb2, fb0, fb1, fb2⟩ := BK2f.out.cells; have nb := NB.out; have nc := NB.out.symm; have HR3 := as0 ((Rd.of_R hR).lower (zf1 hb HBc.out.size)); obtain ⟨A3, n3, rfl⟩ := Kd.R_slice hR; clear hR)
  | (go_at_call 89; (refine (HW.out _ ((H1.out.below HBf.out).put BK1f.out (by decide) _)).mono ?_); rintro e wh ⟨v4, rfl, hR, hbh⟩; have BK1h := as0 (B3.below (BK1f.out.put0 _) hbh); have BK2h := as0 (B3.below (BK2f.out.far NB.out.symm _) hbh); have HBh := as0 (z10 (zc0 HBf.out GE1.out) hbh); obtain ⟨ca0, ca1, ca2, fa0, fa1, fa2⟩ := BK1h.out.cells; obtain ⟨cb0, cb1, cb2, fb0, fb1, fb2⟩ := BK2h.out.cells; have nb := NB.out; have nc := NB.out.symm; have HR3h := as0 ((HR3.out.put BK1f.out (by decide) _).below hbh); have HR4 := as0 ((Rd.of_R hR).lower (zf1 hb (zc0 (j := 0) HBf.out GE1.out (v := .slice A3 l1.length n3)).size)); obtain ⟨A4, n4, rfl⟩ := Kd.R_slice hR; clear hR; clear hbh)
  | ((with_reducible refine zm0 (b := .append) (xs := #[.tmp 31, .tmp 33]) rfl ?_); at_builtin; refine Kd.R_append_rows (Kd.int .i64) (w0 := w) w.heap.size rfl (.tmp 31) (.tmp 33) 28 3 (.int .i64 0) 8 rfl Tryz.underlying28 z76 rfl (by decide) (by omega) (.slice none 0 0) ([] : List Int) la _ _ _ (fun _ => True) (fun _ => False) rfl rfl ?aO ?aR (fun _ _ h => h) (fun _ h => h.elim) ?aF ?aB ?aS ?aL ?_; (case aR => exact ((H2.out.below HBh.out).put BK1h.out (by decide) _).C); (case aB => exact zc0 HBh.out GE1.out); (case aF => exact (fun _ _ => trivial)); (case aO => exact ((Kd.R_nil _ _ _ _ (fun _ => True)))); (case aS => exact (zc0 HBh.out GE1.out).size); (case aL => have := hl2; simp; omega); intro v5 wi ho hbi hgi hat; rw [List.nil_append] at ho; have HR5 := as0 ho; have HBi := as0 hbi; have BK1i := as0 ((BK1h.out.put1 _).grown (Kd.R_nil (Kd.int .i64) 3 _ w.heap.size (fun _ => True)) hgi (by decide)); have BK2i := as0 ((BK2h.out.far NB.out.symm _).grown (Kd.R_nil (Kd.int .i64) 3 _ w.heap.size (fun _ => True)) hgi (by decide)); have HR3i := as0 ((HR3h.out.put BK1h.out (by decide) _).grown (Kd.R_nil (Kd.int .i64) 3 _ w.heap.size (fun _ => True)) hgi (by decide)); have HR4i := as0 ((HR4.out.put BK1h.out (by decide) _).grown (Kd.R_nil (Kd.int .i64) 3 _ w.heap.size (fun _ => True)) hgi (by decide)); clear ho hbi hgi hat)
  | (go_at_call 97; (refine (hostlerref01_Cut.calls dl cv _ HCV.out).mono ?_); rintro e wj ⟨rfl, hb0⟩; have hbj := Drawn0.below hb0; clear hb0; have BK1j := as0 (BK1i.out.below hbj); have BK2j := as0 (BK2i.out.below hbj); have HBj := as0 (z10 HBi.out hbj); have HR3j := as0 (HR3i.out.below hbj); have HR4j := as0 (HR4i.out.below hbj); have HR5j := as0 (Kd.R_below HR5.out hbj); clear hbj; obtain ⟨ca0, ca1, ca2, fa0, fa1, fa2⟩ := BK1j.out.cells; obtain ⟨cb0, cb1, cb2, fb0, fb1, fb2⟩ := BK2j.out.cells; have nb := NB.out; have nc := NB.out.symm)
  | ((with_reducible refine zm0 (b := .append) (xs := #[.tmp 35, .tmp 38]) rfl ?_); at_builtin; refine Kd.R_append (Kd.int .i64) (w0 := w) w.heap.size rfl (.tmp 35) (.tmp 38) 28 3 (.int .i64 0) 8 rfl Tryz.underlying28 z76 rfl (by decide) (by omega) v5 la cv [.int .i64 cv] (fun _ => True) (fun _ => False) rfl rfl ?aP (fun _ hk => hk.elim) ?aF ?aO ?aB ?aS ?aL ?_; (case aP => exact rfl); (case aB => exact HBj.out); (case aF => exact (fun _ _ => trivial)); (case aO => exact HR5j.out); (case aS => exact HBj.out.size); (case aL => have := hl2; omega); intro v6 wk ho hbk hgk hat; rw [← HL3.out] at ho; have HR6 := as0 ((Rd.of_R ho).lower hb); have HBk := as0 hbk; have BK1k := as0 (BK1j.out.grown HR5j.out hgk (by decide)); have BK2k := as0 (BK2j.out.grown HR5j.out hgk (by decide)); have HR3k := as0 (HR3j.out.grown HR5j.out hgk (by decide)); have HR4k := as0 (HR4j.out.grown HR5j.out hgk (by decide)); obtain ⟨A6, n6, rfl⟩ := Kd.R_slice ho; clear ho hbk hgk hat; obtain ⟨ca0, ca1, ca2, fa0, fa1, fa2⟩ := BK1k.out.cells; obtain ⟨cb0, cb1, cb2, fb0, fb1, fb2⟩ := BK2k.out.cells; have nb := NB.out; have nc := NB.out.symm))
 refine bodyPost_ret (zn0 rfl _ _ g2 31 #[.slice A3 l1.length n3, .slice A4 l2.length n4, .slice A6 l3.length n6] (0, 0) _ rfl (B3.all (BK2k.out.far NB.out.symm _) _ _ _) Tryz.underlying31 rfl (by kernel_rfl)) rfl ?_
 exact ⟨_, rfl, _, _, _, rfl, (HR3k.out.put BK1k.out (by decide) _).putAll (BK2k.out.far NB.out.symm _) (by decide) _ _ _, (HR4k.out.put BK1k.out (by decide) _).putAll (BK2k.out.far NB.out.symm _) (by decide) _ _ _, (HR6.out.put BK1k.out (by decide) _).putAll (BK2k.out.far NB.out.symm _) (by decide) _ _ _, z62 (zc0 HBk.out GE1.out) GE2.out _ _ _⟩
theorem zpc (nm : ByteArray) (dl : Int) (hs : nm.size ≤ 100) (r : Rf) {v0 v1 v2 : Value} (h0 : RdS b w v0 r.w) (h1 : RdS b w v1 r.u) (h2 : RdI b w v2 r.a) (hb : FrB b w.heap.size) (hl0 : r.w.length ≤ 1000000) (hl1 : r.u.length ≤ 1000000) (hl2 : r.a.length ≤ 1000000) :
  Calls Tryz.prog 90 #[.agg #[v0, v1, v2], .string nm, .int .i64 dl] w fun e w' => ∃ vs, e = .returned (.tuple #[vs, .int .i64 (refBegin r nm dl).1]) ∧ Back b w w' vs (refBegin r nm dl).2 := by
 unfold refBegin
 by_cases hn : nameB nm = true
 ·rw [if_pos hn]
  by_cases hj : 0 ≤ idxOf r.u nm 0
  ·rw [zv2 nm r.u, decide_eq_true hj]
   exact zc8 nm dl hs h0 h1 h2 hb hn hj
  ·rw [zv2 nm r.u, decide_eq_false hj, if_neg (by decide)]
   exact beg22_ok nm dl hs h0 h1 h2 hb hn (by omega) hl0 hl1 hl2
 ·rw [if_neg hn]
  exact z0c nm dl hs h0 h1 h2 hb (Bool.eq_false_iff.2 hn)
end
section
variable {w : World} {b : Nat → Prop}
theorem z27 (nm : ByteArray) (xs : List ByteArray) (hm : xs.length ≤ 1000000) (k : Nat) (hk : xs.length < k) : hostlerref13_without.f k xs nm = some (xs.filter (fun x => !decide (x = nm))) := by
 have := z74 nm xs hm xs.length k 0 [] (by omega) (by omega) hk (by simp)
 simpa [hostlerref13_without.f] using this
theorem z7c (nm : ByteArray) (xs : List ByteArray) (hm : xs.length ≤ 1000000) (k : Nat) (hk : xs.length < k) : hostlerref13_Place.f k xs nm = some (idxOf xs nm 0) := by
 have := z84 nm xs (by omega) xs.length k 0 (by omega) (by omega) hk
 simpa [hostlerref13_Place.f] using this
theorem end_loop (nm : ByteArray) (was : Bool) (lw lu : List ByteArray) (la : List Int) (hm : lu.length ≤ 1000000) (he : lu.length = la.length) (d : Nat) : ∀ (k j : Nat) (acc : List Int), j ≤ lu.length → lu.length - j = d → d + lu.length + 1 < k → acc.length ≤ j → hostlerref13_End.l0 k nm was acc (j : Int) lw lu la = some (lw, lu.filter (fun x => !decide (x = nm)), acc ++ (((lu.drop j).zip (la.drop j)).filter (fun p => !decide (p.1 = nm))).map (·.2), was) := by
 induction d with
 | zero =>
  intro k j acc hj hd hk ha
  obtain ⟨k, rfl⟩ : ∃ m, k = m + 1 := ⟨k - 1, by omega⟩
  simp only [hostlerref13_End.l0]
  rw [if_neg (by omega), List.drop_eq_nil_of_le (by omega), z27 nm lu hm k (by omega)]
  simp
 | succ d ih =>
  intro k j acc hj hd hk ha
  obtain ⟨k, rfl⟩ : ∃ m, k = m + 1 := ⟨k - 1, by omega⟩
  have hlt : j < lu.length := by omega
  have hlt2 : j < la.length := by omega
  simp only [hostlerref13_End.l0]
  have e : rdOf ByteArray.empty lu (j : Int) = lu[j] := by simp [rdOf, List.getD, hlt]
  have e2 : rd la (j : Int) = la[j] := by simp [rd, List.getD, hlt2]
  have hw : wrap64 ((j : Int) + 1) = ((j + 1 : Nat) : Int) := by unfold wrap64; omega
  rw [if_pos (by omega), if_pos (by omega), e, e2, hw, List.drop_eq_getElem_cons hlt, List.drop_eq_getElem_cons hlt2, List.zip_cons_cons, List.filter_cons]
  by_cases c : lu[j] = nm
  ·rw [if_pos (z72.2 c), if_neg (by simp [c])]
   exact ih k (j + 1) acc (by omega) (by omega) (by omega) (by omega)
  ·rw [if_neg (fun h => c (z72.1 h)), if_pos (by omega), if_pos (by omega), if_pos (by simp [c]), ih k (j + 1) _ (by omega) (by omega) (by omega) (by simp; omega), List.append_assoc]
   rfl
theorem ref_end (nm : ByteArray) (r : Rf) {v0 v1 v2 : Value} (h0 : RdS b w v0 r.w) (h1 : RdS b w v1 r.u) (h2 : RdI b w v2 r.a) (hb : FrB b w.heap.size) (hl0 : r.w.length ≤ 1000000) (hl1 : r.u.length ≤ 1000000) (he : r.u.length = r.a.length) :
  Calls Tryz.prog 88 #[.agg #[v0, v1, v2], .string nm] w fun e w' => ∃ vs, e = .returned (.tuple #[vs, .bool (refEnd r nm).1]) ∧ Back b w w' vs (refEnd r nm).2 := by
 obtain ⟨A0, c0, rfl, hc0, hC0⟩ := h0.reads
 obtain ⟨A1, c1, rfl, hc1, hC1⟩ := h1.reads
 obtain ⟨A2, c2, rfl, hc2, hC2⟩ := h2.reads
 have hj : ∀ was, hostlerref13_End.j0 3000002 nm was r.w r.u r.a = some (r.w.filter (fun x => !decide (x = nm)), r.u.filter (fun x => !decide (x = nm)), ((r.u.zip r.a).filter (fun p => !decide (p.1 = nm))).map (·.2), was) := fun was => by
  simp only [hostlerref13_End.j0]
  rw [z27 nm r.w hl0 3000001 (by omega), Option.bind_some]
  have := end_loop nm was (r.w.filter (fun x => !decide (x = nm))) r.u r.a hl1 he r.u.length 3000001 0 [] (by omega) (by omega) (by omega) (by simp)
  simpa using this
 have hf : hostlerref13_End.f 3000002 r.w r.u r.a nm = some ((refEnd r nm).2.w, (refEnd r nm).2.u, (refEnd r nm).2.a, (refEnd r nm).1) := by
  unfold hostlerref13_End.f refEnd
  rw [z7c nm r.w hl0 3000002 (by omega), Option.bind_some, zv2, zv2]
  by_cases hi : 0 ≤ idxOf r.w nm 0
  ·rw [if_pos hi, hj, decide_eq_true hi, Bool.true_or]
  ·rw [if_neg hi, z7c nm r.u hl1 3000002 (by omega), Option.bind_some, hj, decide_eq_false hi, Bool.false_or]
 refine (hostlerref13_End.calls 3000002 A0 c0 r.w A1 c1 r.u A2 c2 r.a nm _ _ _ _ w hC0 hc0 hC1 hc1 hC2 hc2 hf).mono ?_
 rintro e w' ⟨u0, u1, u2, rfl, k0, k1, k2, hbl⟩
 exact ⟨_, rfl, u0, u1, u2, rfl, (Rd.of_R k0).lower hb, (Rd.of_R k1).lower hb, (Rd.of_R k2).lower hb, hbl⟩
theorem past_f (now x : Int) : hostlerref01_Past.f now x = some (pastB now x) := by
 unfold hostlerref01_Past.f
 rw [zoc, zoc, Option.bind_some, Option.bind_some]
 congr 1
theorem due_loop (now : Int) (lw lu : List ByteArray) (la : List Int) (hm : lu.length ≤ 1000000) (he : lu.length = la.length) (d : Nat) : ∀ (k j : Nat) (acc : List ByteArray), j ≤ lu.length → lu.length - j = d → d < k → acc.length ≤ j → hostlerref13_Due.l0 k now acc (j : Int) lw lu la = some (acc ++ (((lu.drop j).zip (la.drop j)).filter (fun p => pastB now p.2)).map (·.1)) := by
 induction d with
 | zero =>
  intro k j acc hj hd hk ha
  obtain ⟨k, rfl⟩ : ∃ m, k = m + 1 := ⟨k - 1, by omega⟩
  simp only [hostlerref13_Due.l0]
  rw [if_neg (by omega), List.drop_eq_nil_of_le (by omega)]
  simp
 | succ d ih =>
  intro k j acc hj hd hk ha
  obtain ⟨k, rfl⟩ : ∃ m, k = m + 1 := ⟨k - 1, by omega⟩
  have hlt : j < lu.length := by omega
  have hlt2 : j < la.length := by omega
  simp only [hostlerref13_Due.l0]
  have e : rdOf ByteArray.empty lu (j : Int) = lu[j] := by simp [rdOf, List.getD, hlt]
  have e2 : rd la (j : Int) = la[j] := by simp [rd, List.getD, hlt2]
  have hw : wrap64 ((j : Int) + 1) = ((j + 1 : Nat) : Int) := by unfold wrap64; omega
  rw [if_pos (by omega), if_pos (by omega), if_pos (by omega), e, e2, hw, past_f, Option.bind_some, List.drop_eq_getElem_cons hlt, List.drop_eq_getElem_cons hlt2, List.zip_cons_cons, List.filter_cons]
  cases c : pastB now la[j] with
  | true =>
   rw [if_pos rfl, if_pos (by omega), if_pos rfl, ih k (j + 1) _ (by omega) (by omega) (by omega) (by simp; omega), List.append_assoc]
   rfl
  | false =>
   rw [if_neg (by decide), if_neg (by decide)]
   exact ih k (j + 1) acc (by omega) (by omega) (by omega) (by omega)
theorem ref_due (now : Int) (r : Rf) {v0 v1 v2 : Value} (h0 : RdS b w v0 r.w) (h1 : RdS b w v1 r.u) (h2 : RdI b w v2 r.a) (hl1 : r.u.length ≤ 1000000) (he : r.u.length = r.a.length) :
  Calls Tryz.prog 37 #[.agg #[v0, v1, v2], .int .i64 now] w fun e w' => ∃ v, e = .returned v ∧ Kd.R Kd.string 9 w' w.heap.size (fun _ => True) v (refDue r now) ∧ Below w.heap.size w w' := by
 obtain ⟨A0, c0, rfl, hc0, hC0⟩ := h0.reads
 obtain ⟨A1, c1, rfl, hc1, hC1⟩ := h1.reads
 obtain ⟨A2, c2, rfl, hc2, hC2⟩ := h2.reads
 have hf : hostlerref13_Due.f (r.u.length + 1) r.w r.u r.a now = some (refDue r now) := by
  unfold hostlerref13_Due.f refDue
  have := due_loop now r.w r.u r.a hl1 he r.u.length (r.u.length + 1) 0 [] (by omega) (by omega) (by omega) (by simp)
  simpa using this
 exact hostlerref13_Due.calls (r.u.length + 1) A0 c0 r.w A1 c1 r.u A2 c2 r.a now _ w hC0 hc0 hC1 hc1 hC2 hc2 hf
end
end Go.Proofs.YtmlmiocomlehgaaGreat.Man
end
