/-
  Scripts of the pool's laws: steps, the first hundred, their kinds; lists with and without a number. Conditions: none.
-/
import Derived.Test.YteagjolmikbllaaLn
import Derived.Test.YteagjolmikbllaaPAx1
set_option linter.unusedVariables false
set_option linter.unusedSimpArgs false
namespace Go.Proofs.Yteagjolmikbllaa.Ob
open Go.RowKit Go.Proofs.YteagjolmikbllaaW.PrintWords Go.Proofs.YteagjolmikbllaaW.PrintLast Go.Proofs.YteagjolmikbllaaW.PrintMore Go.Proofs.Yteagjolmikbllaa.Hid Go.Proofs.Yteagjolmikbllaa.Mp Go.Proofs.Yteagjolmikbllaa.PA
/-- A step: its kind, its connection. -/
structure S39 where
  f0 : Int
  f1 : Int
def z39 : S39 := ⟨(0 : Int), (0 : Int)⟩
def k39 : Kd S39 := Kd.iso (Kd.pair (Kd.int .i64) (Kd.int .i64)) (fun x : S39 => (x.f0, x.f1))
theorem k39_open {w : World} {x : S39} {cs : List Value} (h : k39.K w x cs) : cs = [.int .i64 x.f0, .int .i64 x.f1] := by
  obtain ⟨_, _, rfl, rfl, rfl⟩ := h
  exact rfl
def rd_T39 (xs : List S39) (i : Int) : S39 := xs.getD i.toNat z39
theorem at_T39 {w : World} {A : Option Addr} {n : Nat} {xs : List S39} (h : Kd.C k39 w A n xs) (i : Int) (h0 : 0 ≤ i) (h1 : i < n) : ∃ ad , A = some ad ∧ w.cell? (ad.add (i.toNat * 2)) = some (.int .i64 (rd_T39 xs i).f0) ∧ w.cell? ⟨(ad.add (i.toNat * 2)).block, (ad.add (i.toNat * 2)).off + 1, none⟩ = some (.int .i64 (rd_T39 xs i).f1) := by
  obtain ⟨ad, c, e, _, hK, hc0⟩ := Kd.C_get h z39 i h0 h1
  have hc : ∀ j u, c[j]? = some u → w.cell? (ad.add (i.toNat * 2 + j)) = some u := hc0
  obtain rfl := k39_open hK
  exact ⟨ad, e, hc 0 _ rfl, by rw [← add_field _ _ 1 (by omega)]; exact hc 1 _ rfl⟩
theorem rd39_mem {l : List S39} {k : Nat} (h : k < l.length) : rd_T39 l (k : Int) ∈ l := by
  have : rd_T39 l (k : Int) = l[k] := by simp [rd_T39, List.getD, h]
  rw [this]
  exact List.getElem_mem h
theorem info39 : (Try.prog.info? 39).map (fun i => (i.zero, i.size, i.bytes)) = some (some (.agg #[(.int .i64 0), (.int .i64 0)]), 2, 16) := by kernel_rfl
set_option maxHeartbeats 2000000 in
theorem early_raw (A0 : Option Addr) (len c0 n : Nat) (w : World) (hn : n = min len 100) (hc : len ≤ c0) :
    Calls Try.prog 17 #[.slice A0 len c0] w fun e w' => e = .returned (.slice A0 n c0) ∧ w = w' := by
  obtain ⟨j, hj⟩ : ∃ j : Int, min (len : Int) 100 = j := ⟨_, rfl⟩
  have hjn : j = (n : Int) := by omega
  have c3 : 0 ≤ j := by omega
  have q5 : j ≤ (len : Int) := by omega
  have c3b0 := eq_true c3
  have c3b1 : decide (0 ≤ j) = true := decide_eq_true c3
  have c4b0 := eq_true q5
  have c4b1 : decide (j ≤ (len : Int)) = true := decide_eq_true q5
  obtain ⟨i05, hi05, _, hsz5, _⟩ := info_parts info39
  have hcut5 := cut_to (P := Try.prog) 36 39 .i64 Try.underlying36 hi05 A0 len c0 j c3 q5 hc
  have hjt : j.toNat = n := by omega
  rw [hjt] at hcut5
  clear hi05 hsz5 hn c3 q5 hjn hjt
  go_enter Try.func17, Try.ntmps17
  go_wp2
  go_ret
  exact ⟨rfl, rfl⟩
theorem kind_raw (x : S39) : ∃ κ : Nat, κ < 6 ∧ ∀ w, Calls Try.prog 18 #[.agg #[.int .i64 x.f0, .int .i64 x.f1]] w fun e w' => e = .returned (.int .i64 (κ : Int)) ∧ Below w.heap.size w w' := by
  have hw : 0 ≤ IntKind.u64.wrap x.f0 := by
    unfold IntKind.wrap
    simp [IntKind.bits, IntKind.signed]
    omega
  have h1 : 0 ≤ Int.tmod (IntKind.u64.wrap x.f0) (6 : Int) := Int.tmod_nonneg _ hw
  have h2 : Int.tmod (IntKind.u64.wrap x.f0) (6 : Int) < 6 := Int.tmod_lt_of_pos _ (by omega)
  refine ⟨(Int.tmod (IntKind.u64.wrap x.f0) (6 : Int)).toNat, by omega, fun w => hostlerlaw16_Step_kind.calls x.f0 x.f1 _ w ?_⟩
  unfold hostlerlaw16_Step_kind.f
  congr 1
  unfold wrap64
  omega
/-! #### lists -/
theorem has_loop (id : Int) (xs : List Int) (hm : xs.length ≤ 1000) (d : Nat) : ∀ (k j : Nat), j ≤ xs.length → xs.length - j = d → d < k → hostlerref16_Has.l0 k xs id (j : Int) = some (decide (id ∈ xs.drop j)) := by
  induction d with
  | zero =>
    intro k j hj hd hk
    obtain ⟨k, rfl⟩ : ∃ m, k = m + 1 := ⟨k - 1, by omega⟩
    simp only [hostlerref16_Has.l0]
    rw [if_neg (by omega), List.drop_eq_nil_of_le (by omega)]
    simp
  | succ d ih =>
    intro k j hj hd hk
    obtain ⟨k, rfl⟩ : ∃ m, k = m + 1 := ⟨k - 1, by omega⟩
    have hlt : j < xs.length := by omega
    have e : rd xs (j : Int) = xs[j] := by simp [rd, List.getD, hlt]
    have hw : wrap64 ((j : Int) + 1) = ((j + 1 : Nat) : Int) := by unfold wrap64; omega
    simp only [hostlerref16_Has.l0]
    have hm2 : id ∈ xs.drop j ↔ (id = xs[j] ∨ id ∈ xs.drop (j + 1)) := by rw [List.drop_eq_getElem_cons hlt, List.mem_cons]
    rw [if_pos (by omega), if_pos (by omega), e, hw, ih k (j + 1) (by omega) (by omega) (by omega)]
    by_cases c : xs[j] = id
    · rw [if_pos c, decide_eq_true (hm2.2 (.inl c.symm))]
    · rw [if_neg c]
      congr 1
      by_cases h : id ∈ xs.drop (j + 1)
      · rw [decide_eq_true h, decide_eq_true (hm2.2 (.inr h))]
      · rw [decide_eq_false h, decide_eq_false (fun h2 => (hm2.1 h2).elim (fun e => c e.symm) h)]
theorem has16 (id : Int) (xs : List Int) (A : Option Addr) (c : Nat) (w : World) (hC : kI.C w A xs.length xs) (hc : xs.length ≤ c) (hl : xs.length ≤ 1000) :
    Calls Try.prog 13 #[.slice A xs.length c, .int .i64 id] w fun e w' => e = .returned (.bool (decide (id ∈ xs))) ∧ Below w.heap.size w w' := by
  refine (hostlerref16_Has.calls (xs.length + 1) A c xs id _ w hC hc (by
    have := has_loop id xs hl xs.length (xs.length + 1) 0 (by omega) (by omega) (by omega)
    simpa [hostlerref16_Has.f] using this)).mono ?_
  rintro e w' ⟨rfl, hb⟩
  exact ⟨rfl, Drawn0.below hb⟩
theorem less_loop (id : Int) (xs : List Int) (hm : xs.length ≤ 1000) (d : Nat) : ∀ (k j : Nat) (acc : List Int), j ≤ xs.length → xs.length - j = d → d < k → acc.length ≤ j → hostlerref16_Less.l0 k xs id acc (j : Int) = some (acc ++ dropRow (xs.drop j) id) := by
  induction d with
  | zero =>
    intro k j acc hj hd hk ha
    obtain ⟨k, rfl⟩ : ∃ m, k = m + 1 := ⟨k - 1, by omega⟩
    simp only [hostlerref16_Less.l0]
    rw [if_neg (by omega), List.drop_eq_nil_of_le (by omega)]
    simp [dropRow]
  | succ d ih =>
    intro k j acc hj hd hk ha
    obtain ⟨k, rfl⟩ : ∃ m, k = m + 1 := ⟨k - 1, by omega⟩
    have hlt : j < xs.length := by omega
    have e : rd xs (j : Int) = xs[j] := by simp [rd, List.getD, hlt]
    have hw : wrap64 ((j : Int) + 1) = ((j + 1 : Nat) : Int) := by unfold wrap64; omega
    simp only [hostlerref16_Less.l0]
    rw [if_pos (by omega), if_pos (by omega), e, hw, List.drop_eq_getElem_cons hlt]
    unfold dropRow
    rw [List.filter_cons]
    by_cases c : xs[j] = id
    · rw [if_pos c, if_neg (by simp [c])]
      exact ih k (j + 1) acc (by omega) (by omega) (by omega) (by omega)
    · rw [if_neg c, if_pos (by omega), if_pos (by simp [c]), ih k (j + 1) _ (by omega) (by omega) (by omega) (by simp; omega)]
      rw [List.append_assoc]
      rfl
theorem less16 (id : Int) (xs : List Int) (A : Option Addr) (c : Nat) (w : World) (hC : kI.C w A xs.length xs) (hc : xs.length ≤ c) (hl : xs.length ≤ 1000) :
    Calls Try.prog 23 #[.slice A xs.length c, .int .i64 id] w fun e w' => ∃ v0_ : Value, e = .returned v0_ ∧ kI.R 3 w' w.heap.size (fun _ => True) v0_ (dropRow xs id) ∧ Below w.heap.size w w' :=
  hostlerref16_Less.calls (xs.length + 1) A c xs id _ w hC hc (by
    have := less_loop id xs hl xs.length (xs.length + 1) 0 [] (by omega) (by omega) (by omega) (by simp)
    simpa [hostlerref16_Less.f] using this)
theorem same_loop (a : List Int) (ha : a.length ≤ 100000) : ∀ (d i k : Nat), a.length - i = d → i ≤ a.length → d < k → hostlerref01_Same.l0 k a a (i : Int) = some true := by
  intro d
  induction d with
  | zero =>
    intro i k hd hi hk
    obtain ⟨k, rfl⟩ : ∃ m, k = m + 1 := ⟨k - 1, by omega⟩
    rw [hostlerref01_Same.l0, if_neg (by omega)]
  | succ d ih =>
    intro i k hd hi hk
    obtain ⟨k, rfl⟩ : ∃ m, k = m + 1 := ⟨k - 1, by omega⟩
    have hw : wrap64 ((i : Int) + 1) = ((i + 1 : Nat) : Int) := by unfold wrap64; omega
    rw [hostlerref01_Same.l0, if_pos (by omega), if_pos (by omega), if_pos (by omega), if_pos rfl, hw]
    exact ih (i + 1) k (by omega) (by omega) (by omega)
theorem same16 (a : List Int) (A B : Option Addr) (c d : Nat) (w : World) (hA : kI.C w A a.length a) (ha : a.length ≤ c) (hB : kI.C w B a.length a) (hb : a.length ≤ d) (hl : a.length ≤ 1000) :
    Calls Try.prog 20 #[.slice A a.length c, .slice B a.length d] w fun e w' => e = .returned (.bool true) ∧ Below w.heap.size w w' := by
  refine (hostlerref01_Same.calls (a.length + 1) A c a B d a true w hA ha hB hb ?_).mono ?_
  · unfold hostlerref01_Same.f
    rw [if_pos rfl]
    exact same_loop a (by omega) a.length 0 _ (by omega) (by omega) (by omega)
  · rintro e w' ⟨rfl, hb⟩
    exact ⟨rfl, Drawn0.below hb⟩
end Go.Proofs.Yteagjolmikbllaa.Ob
