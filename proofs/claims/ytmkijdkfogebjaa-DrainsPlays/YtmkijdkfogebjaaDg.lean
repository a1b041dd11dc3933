/-
  Contracts of the drains' New, place, Ahead and Due. Conditions: none.
-/
import Derived.Test.YtmkijdkfogebjaaDf
import Derived.Test.YtmkijdkfogebjaaPCx1
set_option linter.unusedVariables false
set_option linter.unusedSimpArgs false
namespace Go.Proofs.Ytmkijdkfogebjaa.Man
open Go.RowKit Go.Proofs.YtmkijdkfogebjaaW.PrintWords Go.Proofs.YtmkijdkfogebjaaW.PrintLast Go.Proofs.YtmkijdkfogebjaaW.PrintMore Go.Proofs.Ytmkijdkfogebjaa.PA Go.Proofs.Ytmkijdkfogebjaa.PB Go.Proofs.Ytmkijdkfogebjaa.PC Go.Proofs.Ytmkijdkfogebjaa.PF Go.Proofs.Ytmkijdkfogebjaa.Hid Go.Proofs.Ytmkijdkfogebjaa.Na
variable {w0 w : World} {g : Nat} {s : DS}
theorem drains_Drains_place.calls (g : Nat) (s : DS) (a1 : ByteArray) (r1 : Int) (s' : DS) (w0 w : World) (hI : IsS66 w0 w g s) (hB : Below w0.heap.size w0 w) (h : drains_Drains_place.f s a1 = some (r1, s')) :
    Calls Try.prog 33 #[.pointer (some ⟨g, 0, none⟩), .string a1] w fun e w' => e = .returned (.int .i64 r1) ∧ IsS66 w0 w' g s' ∧ Below w0.heap.size w0 w' ∧ KeptH TD w w' := by
  obtain ⟨rfl, rfl⟩ := Prod.mk.inj (Option.some.inj h)
  refine (place_raw a1 hI).mono ?_
  rintro e w' ⟨rfl, hb⟩
  exact ⟨rfl, done_below hI hB hb⟩
def drains_DNew.f : Option DS := some ⟨[]⟩
set_option maxHeartbeats 1000000 in
theorem new_raw (w : World) : Calls Try.prog 9 #[] w fun e w' => e = .returned (.pointer (some ⟨w.heap.size, 0, none⟩)) ∧ w' = w.alloc (.cells #[.slice none 0 0] 66) := by
  go_enter Try.func9, Try.ntmps9
  go_wp2
  go_ret
  exact ⟨rfl, rfl⟩
theorem drains_DNew.calls (r : DS) (w0 w : World) (hB : Below w0.heap.size w0 w) (h : drains_DNew.f = some r) :
    Calls Try.prog 9 #[] w fun e w' => ∃ g_ : Nat, e = .returned (.pointer (some ⟨g_, 0, none⟩)) ∧ IsS66 w0 w' g_ r ∧ Below w0.heap.size w0 w' ∧ Below w.heap.size w w' := by
  obtain rfl := Option.some.inj h
  refine (new_raw w).mono ?_
  rintro e w' ⟨rfl, rfl⟩
  refine ⟨_, rfl, ⟨.slice none 0 0, heap_alloc_new w _, hB.size, Kd.R_nil _ _ _ _ _⟩, below_alloc hB _, below_alloc (Below.refl _ w) _⟩
/-! #### Ahead -/
/-- Where a name is in a list of names. -/
def idxOf : List ByteArray → ByteArray → Int → Int
  | [], _, _ => -1
  | x :: l, nm, j => if nm.toList = x.toList then j else idxOf l nm (j + 1)
theorem idx_loop (nm : ByteArray) (xs : List ByteArray) (hm : xs.length ≤ 9223372036854775807) (d : Nat) : ∀ (k j : Nat), j ≤ xs.length → xs.length - j = d → d < k → slices_Index_string_string.l0 k xs nm (xs.length : Int) (j : Int) = some (idxOf (xs.drop j) nm j) := by
  induction d with
  | zero =>
    intro k j hj hd hk
    obtain ⟨k, rfl⟩ : ∃ m, k = m + 1 := ⟨k - 1, by omega⟩
    simp only [slices_Index_string_string.l0]
    rw [if_neg (by omega), List.drop_eq_nil_of_le (by omega)]
    rfl
  | succ d ih =>
    intro k j hj hd hk
    obtain ⟨k, rfl⟩ : ∃ m, k = m + 1 := ⟨k - 1, by omega⟩
    have hlt : j < xs.length := by omega
    simp only [slices_Index_string_string.l0]
    rw [if_pos (by omega), if_pos (by omega), if_pos (by omega), List.drop_eq_getElem_cons hlt]
    have e : rdOf ByteArray.empty xs (j : Int) = xs[j] := by simp [rdOf, List.getD, hlt]
    rw [e]
    have ih' := ih k (j + 1) (by omega) (by omega) (by omega)
    rw [show ((j + 1 : Nat) : Int) = (j : Int) + 1 by omega] at ih'
    have hw : wrap64 ((j : Int) + 1) = (j : Int) + 1 := by unfold wrap64; omega
    simp only [idxOf]
    rw [hw]
    by_cases c : nm.toList = xs[j].toList
    · rw [if_pos c, if_pos c]
    · rw [if_neg c, if_neg c]
      exact ih'
theorem idx_some (nm : ByteArray) (xs : List ByteArray) (hm : xs.length ≤ 9223372036854775807) : slices_Index_string_string.f (xs.length + 1) xs nm = some (idxOf xs nm 0) := by
  have := idx_loop nm xs hm xs.length (xs.length + 1) 0 (by omega) (by omega) (by omega)
  simpa [slices_Index_string_string.f] using this
def drains_Drains_Ahead.f (s : DS) (nm : ByteArray) : Option (Int × DS) := if s.row.length < 1099511627776 then some (idxOf (namesOf s.row false) nm 0, s) else none
set_option maxHeartbeats 1000000 in
theorem ahead_raw (nm : ByteArray) (hlb : s.row.length < 1099511627776) (hI : IsS66 w0 w g s) :
    Calls Try.prog 30 #[.pointer (some ⟨g, 0, none⟩), .string nm] w fun e w' => e = .returned (.int .i64 (idxOf (namesOf s.row false) nm 0)) ∧ Below w.heap.size w w' := by
  have HW := Aside0.mk (waits_raw hlb hI)
  clear hI
  generalize namesOf s.row false = xs at HW
  go_enter Try.func30, Try.ntmps30
  go_wp2_with (first
    | (go_at_call 15; refine HW.out.mono ?_; rintro e w1 ⟨v1, rfl, hR, hb1⟩; have HB1 := Aside0.mk hb1; clear hb1; obtain ⟨A, n, rfl⟩ := Kd.R_slice hR; obtain ⟨_, hn, hC⟩ := Kd.R_reads' hR; have HI := Aside0.mk (slices_Index_string_string.calls (xs.length + 1) A n xs nm _ w1 hC hn (idx_some nm xs hC.2.1)); clear hR hC)
    | (go_at_call 47; refine HI.out.mono ?_; rintro e w2 ⟨rfl, hb2⟩))
  go_ret
  exact ⟨rfl, below_step HB1.out (Drawn0.below hb2)⟩
theorem drains_Drains_Ahead.calls (g : Nat) (s : DS) (a1 : ByteArray) (r1 : Int) (s' : DS) (w0 w : World) (hI : IsS66 w0 w g s) (hB : Below w0.heap.size w0 w) (h : drains_Drains_Ahead.f s a1 = some (r1, s')) :
    Calls Try.prog 30 #[.pointer (some ⟨g, 0, none⟩), .string a1] w fun e w' => e = .returned (.int .i64 r1) ∧ IsS66 w0 w' g s' ∧ Below w0.heap.size w0 w' ∧ KeptH TD w w' := by
  unfold drains_Drains_Ahead.f at h
  by_cases hl : s.row.length < 1099511627776
  · rw [if_pos hl] at h
    obtain ⟨rfl, rfl⟩ := Prod.mk.inj (Option.some.inj h)
    refine (ahead_raw a1 hl hI).mono ?_
    rintro e w' ⟨rfl, hb⟩
    exact ⟨rfl, done_below hI hB hb⟩
  · rw [if_neg hl] at h
    cases h
/-! #### Due -/
def cutT (x : Int) : Int := mn (mx x 0) 1099511627776
def pastB (now at_ : Int) : Bool := decide (cutT at_ ≤ cutT now)
theorem past_some (now at_ : Int) : sat_Past.f now at_ = some (pastB now at_) := by
  unfold sat_Past.f sat_Sub.f sat_Cut.f pastB cutT
  simp only [Option.bind_some, Option.some.injEq]
  have h1 : 0 ≤ mn (mx at_ 0) 1099511627776 ∧ mn (mx at_ 0) 1099511627776 ≤ 1099511627776 := by unfold mn mx; constructor <;> (repeat' split) <;> omega
  have h2 : 0 ≤ mn (mx now 0) 1099511627776 ∧ mn (mx now 0) 1099511627776 ≤ 1099511627776 := by unfold mn mx; constructor <;> (repeat' split) <;> omega
  generalize mn (mx at_ 0) 1099511627776 = x at h1 ⊢
  generalize mn (mx now 0) 1099511627776 = y at h2 ⊢
  have hw : wrap64 (x - y) = x - y := by unfold wrap64; omega
  rw [hw]
  unfold mx
  by_cases c : x ≤ y
  · rw [decide_eq_true c]
    split
    · rfl
    · simp; omega
  · rw [decide_eq_false c]
    split
    · omega
    · simp; omega
/-- Is a name's deadline not past? -/
def delB (s : DS) (now : Int) (nm : ByteArray) : Bool := !pastB now (deadOf s nm).1
/-- The cells of the closure's two variables, and the drains. -/
def Caps (w0 W : World) (g D M : Nat) (s : DS) (now : Int) : Prop := W.heap[D]? = some (.cells #[.pointer (some ⟨g, 0, none⟩)] 24 (0, 0)) ∧ W.heap[M]? = some (.cells #[.int .i64 now] 3 (0, 0)) ∧ IsS66 w0 W g s
theorem Caps.move {W W' : World} {D M : Nat} {now : Int} (h : Caps w0 W g D M s now) (hb : ∀ k : Nat, (∃ (cs : Array Value) (t : TypeId), W.heap[k]? = some (Obj.cells cs t (0, 0)) ∧ t ≠ 9) → W'.heap[k]? = W.heap[k]?) : Caps w0 W' g D M s now := by
  obtain ⟨h1, h2, h3⟩ := h
  refine ⟨(hb D ⟨_, _, h1, by decide⟩).trans h1, (hb M ⟨_, _, h2, by decide⟩).trans h2, ?_⟩
  obtain ⟨v, hv, hg, hR⟩ := h3
  refine ⟨v, (hb g ⟨_, _, hv, by decide⟩).trans hv, hg, ?_⟩
  refine Kd.R_mono (Kd.R_move (Kd.R_bound hR) (fun k hk => ?_)) (fun _ _ => trivial)
  obtain ⟨_, _, _, q, hq, cells, hq2⟩ := hk
  have : q = 69 := by simpa [k69, Kd.iso, Kd.pair, Kd.int, Kd.scalar, Kd.string, Kd.bool] using hq
  subst this
  exact hb k ⟨_, _, hq2, by decide⟩
theorem Caps.below {W W' : World} {D M : Nat} {now : Int} (h : Caps w0 W g D M s now) (hb : Below W.heap.size W W') : Caps w0 W' g D M s now := h.move (fun k hk => by obtain ⟨_, _, hk, _⟩ := hk; exact hb.block k (blk_lt hk))
theorem Caps.grown {W W' : World} {D M : Nat} {now : Int} {b : Nat} (h : Caps w0 W g D M s now) (hg : W.grownBy W' (some b)) {cs : Array Value} (hb : W.heap[b]? = some (.cells cs 9 (0, 0))) : Caps w0 W' g D M s now := h.move (fun k hk => by
  obtain ⟨cs', t, hk, ht⟩ := hk
  refine hg.block k (blk_lt hk) ?_
  intro e
  injection e with e
  subst e
  rw [hb] at hk
  injection hk with hk
  injection hk with _ hk
  exact ht hk.symm)
set_option maxHeartbeats 1000000 in
theorem due1_raw {W : World} {D M : Nat} {now : Int} (nm : ByteArray) (h : Caps w0 W g D M s now) :
    Calls Try.prog 39 #[.string nm, .pointer (some ⟨D, 0, none⟩), .pointer (some ⟨M, 0, none⟩)] W fun e w' => e = .returned (.bool (delB s now nm)) ∧ Below W.heap.size W w' := by
  have hD : W.cell? ⟨D, 0, none⟩ = some (.pointer (some ⟨g, 0, none⟩)) := (blk_cell h.1 0).trans rfl
  have hM : W.cell? ⟨M, 0, none⟩ = some (.int .i64 now) := (blk_cell h.2.1 0).trans rfl
  have HDL := Aside0.mk (deadline_raw nm h.2.2)
  have hMl : M < W.heap.size := blk_lt h.2.1
  have HP := Aside0.mk (fun W' => sat_Past.calls now (deadOf s nm).1 _ W' (past_some now (deadOf s nm).1))
  unfold delB
  generalize deadOf s nm = d at HDL HP
  obtain ⟨at_, is⟩ := d
  clear h
  go_enter Try.func39, Try.ntmps39
  go_wp2_with (first
    | (go_at_call 28; refine HDL.out.mono ?_; rintro e w1 ⟨rfl, hb1⟩; have HB1 := Aside0.mk hb1; have hM1 : w1.cell? ⟨M, 0, none⟩ = some (.int .i64 now) := (hb1.cell (p := ⟨M, 0, none⟩) hMl).trans hM; clear hb1)
    | (go_at_call 40; refine (HP.out _).mono ?_; rintro e w2 ⟨rfl, hb2⟩))
  go_ret
  exact ⟨rfl, below_step HB1.out hb2⟩
/-- The first one that is so. -/
def fstOf (dl : ByteArray → Bool) : List ByteArray → Int → Int
  | [], _ => -1
  | x :: l, j => if dl x = true then j else fstOf dl l (j + 1)
theorem fst_none (dl : ByteArray → Bool) : ∀ (xs : List ByteArray) (j : Int), 0 ≤ j → fstOf dl xs j = -1 → ∀ x ∈ xs, dl x = false
  | [], _, _, _ => fun x hx => by simp at hx
  | y :: l, j, hj, h => fun x hx => by
    unfold fstOf at h
    by_cases c : dl y = true
    · rw [if_pos c] at h; omega
    · rw [if_neg c] at h
      rcases List.mem_cons.1 hx with rfl | hx
      · simpa using c
      · exact fst_none dl l (j + 1) (by omega) h x hx
theorem fst_bd (dl : ByteArray → Bool) : ∀ (xs : List ByteArray) (j : Int), fstOf dl xs j = -1 ∨ ∃ i : Nat, fstOf dl xs j = j + i ∧ i < xs.length ∧ (∀ k (h : k < xs.length), k < i → dl xs[k] = false) ∧ ∀ h : i < xs.length, dl xs[i] = true
  | [], _ => .inl rfl
  | y :: l, j => by
    unfold fstOf
    by_cases c : dl y = true
    · rw [if_pos c]
      exact .inr ⟨0, by simp, by simp, fun k _ h => by omega, fun _ => c⟩
    · rw [if_neg c]
      rcases fst_bd dl l (j + 1) with h | ⟨i, h1, h2, h3, h4⟩
      · exact .inl h
      · refine .inr ⟨i + 1, by rw [h1]; omega, by simpa using h2, fun k hk hki => ?_, fun h => by simpa using h4 h2⟩
        cases k with
        | zero => simpa using c
        | succ k => simpa using h3 k (by simpa using hk) (by omega)
/-- What a closure over the drains answers, as a fact of every world behind. -/
abbrev Ans (W : World) (f : Nat) (xs : Array Value) (dl : ByteArray → Bool) (x : ByteArray) : Prop := Calls Try.prog f (#[.string x] ++ xs) W fun e w' => e = .returned (.bool (dl x)) ∧ Below W.heap.size W w'
set_option maxHeartbeats 2000000 in
theorem idx53_raw (dl : ByteArray → Bool) (D M : Nat) (xs : List ByteArray) (A : Option Addr) (n : Nat) (hC : Kd.C Kd.string w A xs.length xs) (hn : xs.length ≤ n)
    (HD : ∀ W, Below w.heap.size w W → ∀ x, Calls Try.prog 39 #[.string x, .pointer (some ⟨D, 0, none⟩), .pointer (some ⟨M, 0, none⟩)] W fun e w' => e = .returned (.bool (dl x)) ∧ Below W.heap.size W w') :
    Calls Try.prog 53 #[.slice A xs.length n, .func (.func 39) #[] #[.pointer (some ⟨D, 0, none⟩), .pointer (some ⟨M, 0, none⟩)]] w fun e w' => e = .returned (.int .i64 (fstOf dl xs 0)) ∧ Below w.heap.size w w' := by
  have HC := Aside0.mk hC
  have HDD := Aside0.mk HD
  have hlen : xs.length ≤ 9223372036854775807 := hC.2.1
  obtain ⟨RES, hres⟩ : ∃ R, R = fstOf dl xs 0 := ⟨_, rfl⟩
  rw [← hres]
  have HRES := Aside0.mk hres.symm
  clear hC HD hres
  go_enter Try.func53, Try.ntmps53
  go_wp2
  go_loopw [8] (fun v8 wr => ∃ k : Nat, k ≤ xs.length ∧ v8 = .int .i64 k ∧ Aside0 (fstOf dl (xs.drop k) k = RES) ∧ Aside0 (Below w.heap.size w wr)) (fun v8 _ => xs.length - (intOf v8).toNat)
  case atStart => exact ⟨0, Nat.zero_le _, rfl, HRES, ⟨Below.refl _ _⟩⟩
  case round =>
    obtain ⟨k, hk, rfl, HF, HB⟩ := hrel
    by_cases hlt : k < xs.length
    · obtain ⟨ad, rfl, hx0⟩ := Kd.at_string (Kd.C_below HC.out HB.out) (k : Int) (by omega) (by omega)
      obtain ⟨x, hxe⟩ : ∃ x, x = rdOf ByteArray.empty xs (k : Int) := ⟨_, rfl⟩
      rw [← hxe, Int.toNat_natCast] at hx0
      have hxg : xs[k] = x := by rw [hxe]; simp [rdOf, List.getD, hlt]
      have hF := HF.out
      rw [List.drop_eq_getElem_cons hlt, hxg, fstOf] at hF
      have h0k : (0 : Int) ≤ (k : Int) := by omega
      have hkl : (k : Int) < (xs.length : Int) := by omega
      clear hxe hxg HF
      cases hd : dl x with
      | true =>
        rw [hd, if_pos rfl] at hF
        subst hF
        go_wp2_with (go_at_call 39; refine (HDD.out _ HB.out x).mono ?_; rintro e w2 ⟨rfl, hb2⟩; rw [hd])
        go_ret
        exact ⟨rfl, below_step HB.out hb2⟩
      | false =>
        rw [hd, if_neg (by decide)] at hF
        have HF := Aside0.mk hF
        clear hF
        go_wp2_with (go_at_call 39; refine (HDD.out _ HB.out x).mono ?_; rintro e w2 ⟨rfl, hb2⟩; rw [hd])
        exact ⟨⟨k + 1, by omega, by rw [show ((k : Int) + 1) = ((k + 1 : Nat) : Int) by omega], ⟨by rw [← HF.out]; rfl⟩, ⟨below_step HB.out hb2⟩⟩, by simp [intOf]; omega⟩
    · have hke : k = xs.length := by omega
      subst hke
      have hF := HF.out
      rw [List.drop_length] at hF
      have hF2 : -1 = RES := hF
      subst hF2
      clear hk HF hF
      go_wp2
      go_ret
      exact ⟨rfl, HB.out⟩
theorem zeroCells_str (v : Value) (m : Nat) : Builtin.zeroCells #[v] m = Array.replicate m v := by
  apply Array.ext
  · simp [Builtin.zeroCells]
  · intro i h1 h2
    simp [Builtin.zeroCells, Nat.mod_one]
theorem run_clear_str {P : Program} (w : World) (t e ty : TypeId) (z : Value) (hz : z.cells = #[z]) (ht : P.underlying t = some (.slice e)) (hv : ∀ w, (zeroValue e).run P w = .ok z w) (h1 : z.oneCell' = true) (b o m c : Nat)
    (hc : ∀ j, j < m → (w.cell? ⟨b, o + j, none⟩).isSome = true) (hf : ∀ j, j < m → w.frozen? ⟨b, o + j, none⟩ = false) :
    (Builtin.clear_ #[t] ty #[.slice (some ⟨b, o, none⟩) m c]).run P w = .ok (.tuple #[]) (w.setCells b o (List.replicate m z)) := by
  have hst := run_storeCells_cells (P := P) b o (List.replicate m z) 0 w (by simpa using hc) (by simpa using hf) (by intro u hu; rw [List.eq_of_mem_replicate hu]; exact h1)
  simp only [Nat.add_zero] at hst
  cases m with
  | zero => simp [Builtin.clear_, run_underlying ht]; rfl
  | succ m => simp [Builtin.clear_, run_underlying ht, hv, hz, zeroCells_str, hst]
/-- Those that stay, of the first so many. -/
def keptOf (dl : ByteArray → Bool) (xs : List ByteArray) : List ByteArray := xs.filter (fun x => !dl x)
set_option maxHeartbeats 1000000 in
theorem delFunc_none (dl : ByteArray → Bool) (D M : Nat) (xs : List ByteArray) (A : Option Addr) (n base : Nat) (hR : Kd.R Kd.string 9 w base (fun _ => True) (.slice A xs.length n) xs)
    (HD : ∀ W, Below w.heap.size w W → ∀ x, Calls Try.prog 39 #[.string x, .pointer (some ⟨D, 0, none⟩), .pointer (some ⟨M, 0, none⟩)] W fun e w' => e = .returned (.bool (dl x)) ∧ Below W.heap.size W w') (h : fstOf dl xs 0 = -1) :
    Calls Try.prog 38 #[.slice A xs.length n, .func (.func 39) #[] #[.pointer (some ⟨D, 0, none⟩), .pointer (some ⟨M, 0, none⟩)]] w fun e w' => e = .returned (.slice A xs.length n) ∧
      Kd.R Kd.string 9 w' base (fun _ => True) (.slice A xs.length n) (keptOf dl xs) ∧ Below w.heap.size w w' := by
  have hnC := Kd.R_reads' hR
  have HX := Aside0.mk (idx53_raw (w := w) dl D M xs A n hnC.2.2 hnC.2.1 HD)
  have HR0 := Aside0.mk hR
  clear hnC hR HD
  have hall := fst_none dl xs 0 (by omega) h
  have hk : keptOf dl xs = xs := by
    unfold keptOf
    rw [List.filter_eq_self]
    intro x hx
    simp [hall x hx]
  rw [hk]
  rw [h] at HX
  clear h hall hk
  go_enter Try.func38, Try.ntmps38
  go_wp2_with (go_at_call 53; refine HX.out.mono ?_; rintro e w' ⟨rfl, hb⟩)
  go_ret
  exact ⟨rfl, Kd.R_below HR0.out hb, hb⟩
set_option maxHeartbeats 4000000 in
theorem delFunc_raw (dl : ByteArray → Bool) (D M : Nat) (xs : List ByteArray) (b n base : Nat) (hR : Kd.R Kd.string 9 w base (fun _ => True) (.slice (some ⟨b, 0, none⟩) xs.length n) xs)
    (HD : ∀ W, w.grownBy W (some b) → ∀ x, Calls Try.prog 39 #[.string x, .pointer (some ⟨D, 0, none⟩), .pointer (some ⟨M, 0, none⟩)] W fun e w' => e = .returned (.bool (dl x)) ∧ Below W.heap.size W w') :
    Calls Try.prog 38 #[.slice (some ⟨b, 0, none⟩) xs.length n, .func (.func 39) #[] #[.pointer (some ⟨D, 0, none⟩), .pointer (some ⟨M, 0, none⟩)]] w fun e w' => ∃ m : Nat, e = .returned (.slice (some ⟨b, 0, none⟩) m n) ∧
      Kd.R Kd.string 9 w' base (fun _ => True) (.slice (some ⟨b, 0, none⟩) m n) (keptOf dl xs) ∧ w.grownBy w' (some b) := by
  have hnC := Kd.R_reads' hR
  have hn : xs.length ≤ n := hnC.2.1
  have hlen : xs.length ≤ 9223372036854775807 := hnC.2.2.2.1
  have HX := Aside0.mk (idx53_raw (w := w) dl D M xs (some ⟨b, 0, none⟩) n hnC.2.2 hn (fun W hb => HD W ⟨hb.os, hb.tape, hb.output, hb.size, fun k hk _ => hb.block k hk⟩))
  have HR0 := Aside0.mk hR
  have HDD := Aside0.mk HD
  clear hnC hR HD
  rcases fst_bd dl xs 0 with h | ⟨i0, h1, h2, h3, h4⟩
  · have hall := fst_none dl xs 0 (by omega) h
    have hk : keptOf dl xs = xs := by
      unfold keptOf
      rw [List.filter_eq_self]
      intro x hx
      simp [hall x hx]
    rw [hk]
    rw [h] at HX
    clear h hall hk
    go_enter Try.func38, Try.ntmps38
    go_wp2_with (go_at_call 53; refine HX.out.mono ?_; rintro e w' ⟨rfl, hb⟩)
    go_ret
    exact ⟨_, rfl, Kd.R_below HR0.out hb, ⟨hb.os, hb.tape, hb.output, hb.size, fun k hk _ => hb.block k hk⟩⟩
  · rw [h1] at HX
    have HPRE : Aside0 (keptOf dl (xs.take (i0 + 1)) = xs.take i0) := ⟨by
      rw [List.take_succ_eq_append_getElem h2]
      unfold keptOf
      rw [List.filter_append, List.filter_eq_self.2 (fun x hx => ?_)]
      · simp [h4 h2]
      · obtain ⟨k, hk, rfl⟩ := List.mem_take_iff_getElem.1 hx
        have := h3 k (by omega) (by omega)
        simp [this]⟩
    have hi0 : ((0 : Int) + (i0 : Int)) = ((i0 : Nat) : Int) := by omega
    rw [hi0] at HX
    clear h1 h3 h4 hi0
    have hne : ((i0 : Int) = -1) = False := eq_false (by omega)
    have hne2 : decide ((i0 : Int) = -1) = false := decide_eq_false (by omega)
    have hne3 : ((i0 : Int) == -1) = false := by rw [beq_eq_false_iff_ne]; omega
    go_enter Try.func38, Try.ntmps38
    go_wp2_with (go_at_call 53; refine HX.out.mono ?_; rintro e w1 ⟨rfl, hb1⟩; have HB1 := Aside0.mk hb1; clear hb1)
    have HG1 : Aside0 (w.grownBy w1 (some b)) := ⟨⟨HB1.out.os, HB1.out.tape, HB1.out.output, HB1.out.size, fun k hk _ => HB1.out.block k hk⟩⟩
    have HR1 := Aside0.mk (Kd.R_below HR0.out HB1.out)
    go_loopw [5, 6] (fun v5 v6 wr => ∃ (i k : Nat) (cur : List ByteArray), i < k ∧ k ≤ xs.length ∧ v5 = .int .i64 i ∧ v6 = .int .i64 k ∧ cur.length = xs.length ∧ Aside0 (cur.take i = keptOf dl (xs.take k)) ∧ Aside0 (cur.drop k = xs.drop k) ∧ Aside0 (Kd.R Kd.string 9 wr base (fun _ => True) (.slice (some ⟨b, 0, none⟩) cur.length n) cur) ∧ Aside0 (w.grownBy wr (some b))) (fun _ v6 _ => xs.length - (intOf v6).toNat)
    case atStart => exact ⟨i0, i0 + 1, xs, by omega, by omega, rfl, by simp, rfl, ⟨HPRE.out.symm⟩, ⟨rfl⟩, HR1, HG1⟩
    case round =>
      obtain ⟨i, k, cur, hik, hk, rfl, rfl, hcl, HT, HDR, HR, HG⟩ := hrel
      obtain ⟨cs9, hb9⟩ := Kd.R_typed HR.out b rfl
      by_cases hlt : k < xs.length
      · obtain ⟨hx0, hxf⟩ := Kd.R_cell ByteArray.empty HR.out (k : Int) (by omega) (by omega)
        obtain ⟨hy0, hyf⟩ := Kd.R_cell ByteArray.empty HR.out (i : Int) (by omega) (by omega)
        have hxg : rdOf ByteArray.empty cur (k : Int) = xs[k] := by
          have h5 := congrArg (fun l : List ByteArray => l[0]?) HDR.out
          simp only [List.getElem?_drop, Nat.add_zero] at h5
          rw [List.getElem?_eq_getElem (by omega), List.getElem?_eq_getElem hlt] at h5
          simp only [rdOf, Int.toNat_natCast, List.getD, List.getElem?_eq_getElem (show k < cur.length by omega)]
          exact Option.some.inj h5
        obtain ⟨x, hxe⟩ : ∃ x, x = xs[k] := ⟨_, rfl⟩
        rw [hxg, ← hxe, Int.toNat_natCast] at hx0
        rw [Int.toNat_natCast] at hxf hy0 hyf
        have HST := Aside0.mk (Kd.R_put HR.out (i : Int) x)
        rw [Int.toNat_natCast] at HST
        have HTK : Aside0 (keptOf dl (xs.take (k + 1)) = keptOf dl (xs.take k) ++ (if dl x = true then [] else [x])) := ⟨by
          rw [List.take_succ_eq_append_getElem hlt, ← hxe]
          unfold keptOf
          rw [List.filter_append]
          cases hd : dl x <;> simp [hd]⟩
        have HDR1 : Aside0 (cur.drop (k + 1) = xs.drop (k + 1)) := ⟨by
          have := congrArg (List.drop 1) HDR.out
          simpa [List.drop_drop, Nat.add_comm] using this⟩
        have h0k : (0 : Int) ≤ (k : Int) := by omega
        have hkl : (k : Int) < (xs.length : Int) := by omega
        have h0i : (0 : Int) ≤ (i : Int) := by omega
        have hil : (i : Int) < (xs.length : Int) := by omega
        have hbl : b < wr.heap.size := blk_lt hb9
        have HB9 := Aside0.mk hb9
        clear hxe hxg hb9 HDR
        cases hd : dl x with
        | true =>
          rw [hd, if_pos rfl, List.append_nil] at HTK
          go_wp2_with (go_at_call 39; refine (HDD.out _ HG.out x).mono ?_; rintro e w2 ⟨rfl, hb2⟩; rw [hd])
          go_roundw
          case measure => simp [intOf]; omega
          case rel => exact ⟨i, k + 1, cur, by omega, by omega, rfl, by rw [show ((k : Int) + 1) = ((k + 1 : Nat) : Int) by omega], hcl, ⟨by rw [HTK.out]; exact HT.out⟩, HDR1, ⟨Kd.R_below HR.out hb2⟩, ⟨Ko.grown_trans HG.out ⟨hb2.os, hb2.tape, hb2.output, hb2.size, fun k hk _ => hb2.block k hk⟩⟩⟩
        | false =>
          rw [hd, if_neg (by decide)] at HTK
          go_wp2_with (go_at_call 39; refine (HDD.out _ HG.out x).mono ?_; rintro e w2 ⟨rfl, hb2⟩; rw [hd]; have hy2 : w2.cell? ⟨b, i, none⟩ = _ := (hb2.cell (p := ⟨b, i, none⟩) hbl).trans hy0; have hyf2 : w2.frozen? ⟨b, i, none⟩ = false := (hb2.frozen (p := ⟨b, i, none⟩) hbl).trans hyf; have HB2 := Aside0.mk hb2; clear hb2)
          have hst2 := Kd.R_put (Kd.R_below HR.out HB2.out) (i : Int) x
          rw [Int.toNat_natCast] at hst2
          have hg2 : w.grownBy w2 (some b) := Ko.grown_trans HG.out ⟨HB2.out.os, HB2.out.tape, HB2.out.output, HB2.out.size, fun k hk _ => HB2.out.block k hk⟩
          go_roundw
          case measure => simp [intOf]; omega
          case rel => exact ⟨i + 1, k + 1, cur.set i x, by omega, by omega, by rw [show ((i : Int) + 1) = ((i + 1 : Nat) : Int) by omega], by rw [show ((k : Int) + 1) = ((k + 1 : Nat) : Int) by omega], by rw [List.length_set]; exact hcl, ⟨by
              rw [HTK.out, List.take_succ_eq_append_getElem (by rw [List.length_set]; omega), List.take_set_of_le (Nat.le_refl _), HT.out]
              simp⟩, ⟨by rw [List.drop_set_of_lt (by omega)]; exact HDR1.out⟩, ⟨by rw [List.length_set]; exact hst2.1⟩, ⟨Ko.grown_trans hg2 hst2.2⟩⟩
      · have hke : k = xs.length := by omega
        subst hke
        have hT := HT.out
        rw [List.take_length] at hT
        have hR2 := Kd.R_take HR.out (m := i) (by omega)
        rw [hT] at hR2
        have hblk : ∃ cs : Array Value, wr.heap[b]? = some (.cells cs 9 (0, 0)) ∧ cs.size = n := by
          obtain ⟨_, inner, hown, _⟩ := HR.out
          rcases hown.2 with ⟨hv, _⟩ | ⟨g', cap', cur', hv, hb, hh, _, hcm, hcs, htake⟩
          · cases hv
          injection hv with ha _ hc
          injection ha with ha
          injection ha with hg
          subst hg; subst hc
          exact ⟨cur', hh, by rw [hcs]; simp [Kd.string, Kd.scalar]⟩
        obtain ⟨cs, hcs, hcsz⟩ := hblk
        have hcz : (n = i) = False := eq_false (by omega)
        have hcz2 : decide (n = i) = false := decide_eq_false (by omega)
        have h0i : (0 : Int) ≤ (i : Int) := by omega
        have hil : (i : Int) ≤ (xs.length : Int) := by omega
        have hin : i ≤ n := by omega
        have hii : i ≤ xs.length := by omega
        have hcl2 : ∀ ty, (Builtin.clear_ #[27] ty #[.slice (some ⟨b, i, none⟩) (xs.length - i) (n - i)]).run Try.prog wr = .ok (.tuple #[]) (wr.setCells b i (List.replicate (xs.length - i) (.string ⟨#[]⟩))) := fun ty =>
          run_clear_str (P := Try.prog) wr 27 9 ty (.string ⟨#[]⟩) rfl Try.underlying27 (fun w => by kernel_rfl) rfl b i (xs.length - i) (n - i) (fun j hj => by rw [blk_cell hcs]; simp [hcsz]; omega) (fun j hj => blk_frozen hcs _)
        have hK := Ko.R_tail hR2 (List.replicate (xs.length - i) (.string ⟨#[]⟩)) (o := i) (by simp [Kd.string, Kd.scalar]) (by simp [Kd.string, Kd.scalar]; omega)
        have HK := Aside0.mk hK
        clear hK hR2 hT hcs hcsz HDR HT HR hcl hik hb9
        go_wp2
        go_ret
        exact ⟨_, rfl, HK.out.1, Ko.grown_trans HG.out HK.out.2⟩
theorem delFunc_any (dl : ByteArray → Bool) (D M : Nat) (xs : List ByteArray) (v : Value) (base : Nat) (hR : Kd.R Kd.string 9 w base (fun _ => True) v xs)
    (HD : ∀ W, w.grownBy W v.ownBlock → ∀ x, Calls Try.prog 39 #[.string x, .pointer (some ⟨D, 0, none⟩), .pointer (some ⟨M, 0, none⟩)] W fun e w' => e = .returned (.bool (dl x)) ∧ Below W.heap.size W w') :
    Calls Try.prog 38 #[v, .func (.func 39) #[] #[.pointer (some ⟨D, 0, none⟩), .pointer (some ⟨M, 0, none⟩)]] w fun e w' => ∃ v' : Value, e = .returned v' ∧
      Kd.R Kd.string 9 w' base (fun _ => True) v' (keptOf dl xs) ∧ w.grownBy w' v.ownBlock := by
  rcases fst_bd dl xs 0 with h | ⟨i, h1, h2, _⟩
  · obtain ⟨A, n, rfl⟩ := Kd.R_slice hR
    refine (delFunc_none dl D M xs A n base hR (fun W hb => HD W ⟨hb.os, hb.tape, hb.output, hb.size, fun k hk _ => hb.block k hk⟩) h).mono ?_
    rintro e w' ⟨rfl, h1, hb⟩
    exact ⟨_, rfl, h1, ⟨hb.os, hb.tape, hb.output, hb.size, fun k hk _ => hb.block k hk⟩⟩
  · obtain ⟨b, n, rfl, _⟩ := Kd.R_form hR (by omega)
    refine (delFunc_raw dl D M xs b n base hR (fun W hg => HD W hg)).mono ?_
    rintro e w' ⟨m, rfl, h1, hb⟩
    exact ⟨_, rfl, h1, hb⟩
def dueOf (s : DS) (now : Int) : List ByteArray := (namesOf s.row true).filter (fun nm => pastB now (deadOf s nm).1)
theorem kept_due (s : DS) (now : Int) : keptOf (delB s now) (namesOf s.row true) = dueOf s now := by
  unfold keptOf dueOf delB
  simp
def drains_Drains_Due.f (s : DS) (now : Int) : Option (List ByteArray × DS) := if s.row.length < 1099511627776 then some (dueOf s now, s) else none
set_option maxHeartbeats 2000000 in
theorem due_raw (now : Int) (hlb : s.row.length < 1099511627776) (hI : IsS66 w0 w g s) :
    Calls Try.prog 19 #[.pointer (some ⟨g, 0, none⟩), .int .i64 now] w fun e w' => ∃ v1_ : Value, e = .returned v1_ ∧ Kd.R Kd.string 9 w' w.heap.size (fun _ => True) v1_ (dueOf s now) ∧ Below w.heap.size w w' := by
  rw [← kept_due]
  have HI := Aside0.mk hI
  have HU := Aside0.mk (fun W (h : IsS66 w0 W g s) => under_raw hlb h)
  generalize namesOf s.row true = xs at HU
  clear hI
  obtain ⟨W2, hW2⟩ : ∃ W2, W2 = (w.alloc (.cells #[.pointer (some ⟨g, 0, none⟩)] 24)).alloc (.cells #[.int .i64 now] 3) := ⟨_, rfl⟩
  have HB2 : Aside0 (Below w.heap.size w W2) := ⟨by rw [hW2]; exact below_alloc (below_alloc (Below.refl _ w) _) _⟩
  have HC2 : Aside0 (Caps w0 W2 g w.heap.size (w.heap.size + 1) s now) := ⟨by
    refine ⟨?_, ?_, HI.out.below HB2.out⟩
    · rw [hW2, Below.heap_alloc _ _ _ (by simp)]
      exact heap_alloc_new w _
    · rw [hW2]
      have := heap_alloc_new (w.alloc (.cells #[.pointer (some ⟨g, 0, none⟩)] 24)) (.cells #[.int .i64 now] 3)
      simpa using this⟩
  have HSZ : Aside0 (W2.heap.size = w.heap.size + 2) := ⟨by rw [hW2]; simp⟩
  have hD2 : W2.cell? ⟨w.heap.size, 0, none⟩ = some (.pointer (some ⟨g, 0, none⟩)) := (blk_cell HC2.out.1 0).trans rfl
  go_enter Try.func19, Try.ntmps19
  go_wp2_with (first
    | (go_at_call 16; rw [← hW2]; refine (HU.out _ (HI.out.below HB2.out)).mono ?_; rintro e w3 ⟨v3, rfl, hR3, hb3⟩; have HR3 := Aside0.mk hR3; have HB3 := Aside0.mk hb3; have HC3 := Aside0.mk (HC2.out.below hb3); clear hR3 hb3)
    | (go_at_call 38; refine (delFunc_any (delB s now) w.heap.size (w.heap.size + 1) xs v3 W2.heap.size HR3.out (fun W hg x => due1_raw x (by
        rcases Nat.eq_zero_or_pos xs.length with h0 | hp
        · rcases HR3.out.2 with ⟨inner, hown, _⟩
          rcases hown.2 with ⟨hv, _⟩ | ⟨b, cap, cur, hv, _, hh, _⟩
          · subst hv
            exact HC3.out.move (fun k hk => by obtain ⟨_, _, hk, _⟩ := hk; exact hg.block k (blk_lt hk) (by simp [Value.ownBlock]))
          · subst hv
            exact HC3.out.grown hg hh
        · obtain ⟨b, cap, rfl, _, _, cs, hh⟩ := Kd.R_form HR3.out hp
          exact HC3.out.grown hg hh))).mono ?_; rintro e w4 ⟨v4, rfl, hR4, hg4⟩))
  have hB4 : Below w.heap.size w w4 := (HB2.out.trans (HB3.out.mono HB2.out.size)).grown hg4 (Nat.le_trans HB2.out.size HB3.out.size) (fun k hk => Nat.le_trans HB2.out.size (Kd.R_base HR3.out k hk))
  go_ret
  exact ⟨_, rfl, Kd.R_lower hR4 HB2.out.size, hB4⟩
theorem drains_Drains_Due.calls (g : Nat) (s : DS) (a1 : Int) (r1 : List ByteArray) (s' : DS) (w0 w : World) (hI : IsS66 w0 w g s) (hB : Below w0.heap.size w0 w) (h : drains_Drains_Due.f s a1 = some (r1, s')) :
    Calls Try.prog 19 #[.pointer (some ⟨g, 0, none⟩), .int .i64 a1] w fun e w' => ∃ v1_ : Value, e = .returned v1_ ∧ Kd.R Kd.string 9 w' w.heap.size (fun _ => True) v1_ r1 ∧ IsS66 w0 w' g s' ∧ Below w0.heap.size w0 w' ∧ KeptH TD w w' := by
  unfold drains_Drains_Due.f at h
  by_cases hl : s.row.length < 1099511627776
  · rw [if_pos hl] at h
    obtain ⟨rfl, rfl⟩ := Prod.mk.inj (Option.some.inj h)
    refine (due_raw a1 hl hI).mono ?_
    rintro e w' ⟨v, rfl, hR, hb⟩
    exact ⟨v, rfl, hR, done_below hI hB hb⟩
  · rw [if_neg hl] at h
    cases h
end Go.Proofs.Ytmkijdkfogebjaa.Man
