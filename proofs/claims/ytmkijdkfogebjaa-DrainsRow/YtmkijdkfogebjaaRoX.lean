/-
  Drains asked one behind the other: good names, plain facts, the law's closure, the walk of DrainsRow. Conditions: none.
-/
import Derived.Test.YtmkijdkfogebjaaOnA
import Derived.Test.YtmkijdkfogebjaaNil
import Derived.Test.YtmkijdkfogebjaaWTab
set_option linter.unusedVariables false
set_option linter.unusedSimpArgs false
namespace Go.Proofs.Ytmkijdkfogebjaa.Man
open Go.RowKit Go.Proofs.YtmkijdkfogebjaaW.PrintWords Go.Proofs.YtmkijdkfogebjaaW.PrintLast Go.Proofs.Ytmkijdkfogebjaa.PA Go.Proofs.Ytmkijdkfogebjaa.Na
def six : List ByteArray := [⟨#[104, 48]⟩, ⟨#[104, 49]⟩, ⟨#[104, 50]⟩, ⟨#[104, 51]⟩, ⟨#[104, 52]⟩, ⟨#[104, 53]⟩]
theorem has_any (x : ByteArray) (l : List ByteArray) (k : Nat) (hm : l.length ≤ 9223372036854775807) (hk : l.length < k) : hostlerref09_Has.f k l x = some (hasB x l) := by
  have := has_loop x l hm l.length k 0 (by omega) (by omega) hk
  simpa [hostlerref09_Has.f] using this
theorem len_le {α : Type} [DecidableEq α] : ∀ (s l : List α), l.Nodup → (∀ x ∈ l, x ∈ s) → l.length ≤ s.length
  | [], l, _, h => by
    cases l with
    | nil => simp
    | cons x l => exact absurd (h x (by simp)) (by simp)
  | a :: s, l, hn, h => by
    have h1 : (l.filter (fun x => !decide (x = a))).length ≤ s.length := len_le s _ (hn.sublist List.filter_sublist) (fun x hx => by
      have h2 := List.mem_filter.1 hx
      rcases List.mem_cons.1 (h x h2.1) with rfl | h3
      · simp at h2
      · exact h3)
    have h4 : ∀ l : List α, l.Nodup → l.length ≤ (l.filter (fun x => !decide (x = a))).length + 1 := by
      intro l
      induction l with
      | nil => intro _; simp
      | cons x l ih =>
        intro hn
        rw [List.nodup_cons] at hn
        by_cases hx : x = a
        · subst hx
          have : l.filter (fun y => !decide (y = x)) = l := by
            rw [List.filter_eq_self]
            intro y hy
            have : y ≠ x := fun e => hn.1 (e ▸ hy)
            simp [this]
          simp [List.filter_cons, this]
        · have := ih hn.2
          simp [List.filter_cons, hx]
          omega
    have := h4 l hn
    simp only [List.length_cons]
    omega
theorem six_ok : ∀ x ∈ six, nameB x = true := by decide +kernel
theorem mod6 (x : Int) : ∃ n : Nat, wrap64 (Int.tmod (IntKind.u64.wrap x) 6) = (n : Int) ∧ n < 6 := by
  have hw : 0 ≤ IntKind.u64.wrap x := by
    unfold IntKind.wrap
    simp [IntKind.bits, IntKind.signed]
    omega
  have h1 : 0 ≤ Int.tmod (IntKind.u64.wrap x) 6 := Int.tmod_nonneg _ hw
  have h2 : Int.tmod (IntKind.u64.wrap x) 6 < 6 := Int.tmod_lt_of_pos _ (by omega)
  exact ⟨(Int.tmod (IntKind.u64.wrap x) 6).toNat, by unfold wrap64; omega, by omega⟩
def GoodNames (l : List ByteArray) : Prop := l.Nodup ∧ ∀ x ∈ l, x ∈ six
theorem GoodNames.len {l : List ByteArray} (h : GoodNames l) : l.length ≤ 6 := len_le six l h.1 h.2
theorem good_loop (x0 : List Int) (hm : x0.length ≤ 9223372036854775807) (d : Nat) : ∀ (k j : Nat) (acc : List ByteArray), j ≤ x0.length → x0.length - j = d → d + 8 < k → GoodNames acc → ∃ l, hostlerref09_Good.l0 k x0 acc six (j : Int) = some l ∧ GoodNames l := by
  induction d with
  | zero =>
    intro k j acc hj hd hk ha
    obtain ⟨k, rfl⟩ : ∃ m, k = m + 1 := ⟨k - 1, by omega⟩
    refine ⟨acc, ?_, ha⟩
    simp only [hostlerref09_Good.l0]
    rw [if_neg (by omega)]
  | succ d ih =>
    intro k j acc hj hd hk ha
    obtain ⟨k, rfl⟩ : ∃ m, k = m + 1 := ⟨k - 1, by omega⟩
    have hw : wrap64 ((j : Int) + 1) = ((j + 1 : Nat) : Int) := by unfold wrap64; omega
    obtain ⟨n, hn, hn6⟩ := mod6 (rd x0 (j : Int))
    have ha6 := ha.len
    simp only [hostlerref09_Good.l0]
    rw [if_pos (by omega), if_pos (by omega), hn, if_pos (by omega), if_pos (by show (n : Int) < (six.length : Int); simp [six]; omega), has_any _ acc k (by omega) (by omega), Option.bind_some, hw]
    have hin : rdOf ByteArray.empty six (n : Int) ∈ six := by
      have : rdOf ByteArray.empty six (n : Int) = six[n]'(by simp [six]; omega) := by simp [rdOf, List.getD, show n < six.length by simp [six]; omega]
      rw [this]
      exact List.getElem_mem _
    cases hh : hasB (rdOf ByteArray.empty six (n : Int)) acc with
    | true =>
      rw [if_pos rfl]
      exact ih k (j + 1) acc (by omega) (by omega) (by omega) ha
    | false =>
      rw [if_neg (by decide), if_pos (by omega)]
      refine ih k (j + 1) _ (by omega) (by omega) (by omega) ⟨?_, ?_⟩
      · rw [List.nodup_append]
        refine ⟨ha.1, by simp, fun a h1 c h2 => ?_⟩
        have : c = rdOf ByteArray.empty six (n : Int) := by simpa using h2
        rw [this]
        rintro rfl
        rw [(hasB_iff _ _).2 h1] at hh
        cases hh
      · intro x hx
        rcases List.mem_append.1 hx with h | h
        · exact ha.2 x h
        · rw [show x = _ from by simpa using h]
          exact hin
theorem good_some (x0 : List Int) (hm : x0.length ≤ 9223372036854775807) : ∃ l, hostlerref09_Good.f (x0.length + 9) x0 = some l ∧ GoodNames l := by
  have := good_loop x0 hm x0.length (x0.length + 9) 0 [] (by omega) (by omega) (by omega) ⟨by simp, by simp⟩
  exact this
end Go.Proofs.Ytmkijdkfogebjaa.Man

namespace Go.Proofs.Ytmkijdkfogebjaa.Man
open Go.RowKit Go.Proofs.YtmkijdkfogebjaaW.PrintWords Go.Proofs.YtmkijdkfogebjaaW.PrintLast Go.Proofs.Ytmkijdkfogebjaa.PA Go.Proofs.Ytmkijdkfogebjaa.Na
theorem idxOf_get : ∀ (N : List ByteArray) (i : Nat) (h : i < N.length) (j : Int), N.Nodup → idxOf N N[i] j = j + i
  | [], i, h, _, _ => by simp at h
  | x :: l, 0, h, j, _ => by simp [idxOf]
  | x :: l, i + 1, h, j, hn => by
    rw [List.nodup_cons] at hn
    have hl : i < l.length := by simpa using h
    unfold idxOf
    rw [if_neg]
    · rw [List.getElem_cons_succ, idxOf_get l i hl (j + 1) hn.2]
      omega
    · intro e
      rw [List.getElem_cons_succ] at e
      exact hn.1 (by rw [← tl_inj.1 e]; exact List.getElem_mem hl)
def atOf (l1 : List Int) (i : Int) : Int := if i < (l1.length : Int) then rd l1 i else 0
def deadN (N : List ByteArray) (l1 : List Int) (nm : ByteArray) : Int := cutT (atOf l1 (idxOf N nm 0))
def mkD (N : List ByteArray) (l1 : List Int) (nm : ByteArray) : S69 := ⟨nm, deadN N l1 nm, true⟩
def rowD (N : List ByteArray) (l1 : List Int) (k : Nat) : List S69 := (N.take k).map (mkD N l1)
variable {N : List ByteArray} {l1 : List Int}
theorem rowD_names (k : Nat) : (rowD N l1 k).map (·.f0) = N.take k := by simp [rowD, mkD, Function.comp_def]
theorem rowD_under (k : Nat) : namesOf (rowD N l1 k) true = N.take k := by
  unfold namesOf rowD
  rw [List.filter_eq_self.2 (by intro x hx; obtain ⟨y, _, rfl⟩ := List.mem_map.1 hx; rfl)]
  simp [mkD, Function.comp_def]
theorem begin_rowD (h : GoodNames N) (k : Nat) (hk : k < N.length) : drains_Drains_Begin.f ⟨rowD N l1 k⟩ N[k] (atOf l1 (k : Int)) = some (0, ⟨rowD N l1 (k + 1)⟩) := by
  have h6 := h.len
  have hl : (rowD N l1 k).length ≤ 1000 := by simp [rowD]; omega
  have hn : nameB N[k] = true := six_ok _ (h.2 _ (List.getElem_mem hk))
  have hp : placeOf (rowD N l1 k) N[k] 0 < 0 := (place_neg _ _ 0 (by omega)).2 (by
    rw [rowD_names]
    intro hm
    obtain ⟨i, hi, e⟩ := List.mem_take_iff_getElem.1 hm
    exact List.pairwise_iff_getElem.1 h.1 i k (by omega) hk (by omega) e)
  unfold drains_Drains_Begin.f
  rw [if_pos (by exact hl), if_pos hn, if_pos (by exact hp)]
  congr 2
  show DS.mk _ = DS.mk _
  congr 1
  unfold rowD
  rw [List.take_succ_eq_append_getElem hk, List.map_append, List.map_cons, List.map_nil]
  congr 2
  unfold mkD deadN
  rw [idxOf_get N k hk 0 h.1, Int.zero_add]
  rfl
theorem place_rowD (h : N.Nodup) (i : Nat) (hi : i < N.length) : ∀ (M : List ByteArray) (j : Nat) (q : Int), M = N.drop j → j ≤ i → 0 ≤ q → placeOf (M.map (mkD N l1)) N[i] q = q + ((i : Int) - j)
  | [], j, q, e, hj, hq => by
    have := congrArg List.length e
    simp at this
    omega
  | x :: M, j, q, e, hj, hq => by
    have hjl : j < N.length := by omega
    rw [List.drop_eq_getElem_cons hjl] at e
    injection e with e1 e2
    rw [List.map_cons, placeOf]
    by_cases c : j = i
    · subst c
      rw [if_pos (by rw [beq_iff_eq]; exact tl_inj.2 (by rw [e1]; rfl))]
      omega
    · rw [if_neg (by
        rw [beq_iff_eq]
        intro e3
        have : N[j] = N[i] := by rw [← e1]; exact tl_inj.1 e3
        exact List.pairwise_iff_getElem.1 h j i hjl hi (by omega) this), place_rowD h i hi M (j + 1) (q + 1) e2 (by omega) (by omega)]
      omega
theorem dead_rowD (h : N.Nodup) (nm : ByteArray) (hm : nm ∈ N) : (deadOf ⟨N.map (mkD N l1)⟩ nm).1 = deadN N l1 nm := by
  obtain ⟨i, hi, rfl⟩ := List.getElem_of_mem hm
  have hp := place_rowD (l1 := l1) h i hi N 0 0 rfl (by omega) (by omega)
  have hp2 : placeOf (N.map (mkD N l1)) N[i] 0 = (i : Int) := by rw [hp]; omega
  unfold deadOf
  simp only [hp2]
  rw [if_neg (by omega)]
  have e : rd_T69 (N.map (mkD N l1)) (i : Int) = mkD N l1 N[i] := by simp [rd_T69, List.getD, hi]
  rw [e, if_pos (show (mkD N l1 N[i]).f2 = true from rfl)]
  rfl
theorem due_rowD (h : N.Nodup) (now : Int) : dueOf ⟨N.map (mkD N l1)⟩ now = N.filter (fun nm => pastB now (deadN N l1 nm)) := by
  unfold dueOf
  have e := rowD_under (N := N) (l1 := l1) N.length
  unfold rowD at e
  rw [List.take_length] at e
  rw [show (DS.mk (N.map (mkD N l1))).row = N.map (mkD N l1) from rfl, e]
  apply List.filter_congr
  intro x hx
  rw [dead_rowD h x hx]
theorem cutT_bd (x : Int) : 0 ≤ cutT x ∧ cutT x ≤ 1099511627776 := by
  unfold cutT mn mx
  constructor <;> (repeat' split) <;> omega
theorem past_mono {a b : Int} (h : a ≤ b) (x : Int) (hp : pastB a x = true) : pastB b x = true := by
  unfold pastB at hp ⊢
  rw [decide_eq_true_iff] at hp ⊢
  refine Int.le_trans hp ?_
  unfold cutT mn mx
  (repeat' split) <;> omega
theorem past_last (x : Int) : pastB 1099511627776 x = true := by
  unfold pastB
  rw [decide_eq_true_iff]
  have h1 : cutT 1099511627776 = 1099511627776 := by decide
  rw [h1]
  exact (cutT_bd x).2
theorem filter_get (p : ByteArray → Bool) (N : List ByteArray) (j : Nat) (hj : j < N.length) (hp : p N[j] = true) : ∃ h : ((N.take j).filter p).length < (N.filter p).length, (N.filter p)[((N.take j).filter p).length] = N[j] := by
  have e : N.filter p = (N.take j).filter p ++ N[j] :: (N.drop (j + 1)).filter p := by
    conv => lhs; rw [← List.take_append_drop j N, List.filter_append, List.drop_eq_getElem_cons hj, List.filter_cons, if_pos hp]
  refine ⟨by rw [e]; simp, ?_⟩
  simp [e]
theorem count_step (p : ByteArray → Bool) (N : List ByteArray) (j : Nat) (hj : j < N.length) : ((N.take (j + 1)).filter p).length = ((N.take j).filter p).length + (if p N[j] = true then 1 else 0) := by
  rw [List.take_succ_eq_append_getElem hj, List.filter_append, List.length_append]
  by_cases c : p N[j] = true <;> simp [c]
theorem has_filter (p : ByteArray → Bool) (N : List ByteArray) (x : ByteArray) (hx : x ∈ N) : hasB x (N.filter p) = p x := by
  rw [Bool.eq_iff_iff, hasB_iff, List.mem_filter]
  exact ⟨fun h => h.2, fun h => ⟨hx, h⟩⟩
end Go.Proofs.Ytmkijdkfogebjaa.Man

namespace Go.Proofs.Ytmkijdkfogebjaa.Man
open Go.RowKit Go.Proofs.YtmkijdkfogebjaaW.PrintWords Go.Proofs.YtmkijdkfogebjaaW.PrintLast Go.Proofs.YtmkijdkfogebjaaW.PrintMore Go.Proofs.Ytmkijdkfogebjaa.PA Go.Proofs.Ytmkijdkfogebjaa.Na Go.Proofs.Ytmkijdkfogebjaa.Hid
def mkW (nm : ByteArray) : S69 := ⟨nm, 0, false⟩
variable {N : List ByteArray}
theorem mkW_names (M : List ByteArray) : (M.map mkW).map (·.f0) = M := by simp [mkW, Function.comp_def]
theorem mkW_waits (M : List ByteArray) : namesOf (M.map mkW) false = M := by
  unfold namesOf
  rw [List.filter_eq_self.2 (by intro x hx; obtain ⟨y, _, rfl⟩ := List.mem_map.1 hx; rfl)]
  simp [mkW, Function.comp_def]
theorem take_notin (h : N.Nodup) (k : Nat) (hk : k < N.length) : N[k] ∉ N.take k := by
  intro hm
  obtain ⟨i, hi, e⟩ := List.mem_take_iff_getElem.1 hm
  exact List.pairwise_iff_getElem.1 h i k (by omega) hk (by omega) e
theorem ask_mkW (h : GoodNames N) (k : Nat) (hk : k < N.length) : drains_Drains_Ask.f ⟨(N.take k).map mkW⟩ N[k] = some (0, ⟨(N.take (k + 1)).map mkW⟩) := by
  have h6 := h.len
  have hl : ((N.take k).map mkW).length ≤ 1000 := by simp; omega
  have hn : nameB N[k] = true := six_ok _ (h.2 _ (List.getElem_mem hk))
  have hp : placeOf ((N.take k).map mkW) N[k] 0 < 0 := (place_neg _ _ 0 (by omega)).2 (by rw [mkW_names]; exact take_notin h.1 k hk)
  have hw : (namesOf ((N.take k).map mkW) false).length < 16 := by rw [mkW_waits]; simp; omega
  unfold drains_Drains_Ask.f
  rw [if_pos (by exact hl), if_pos hn, if_pos (by exact hp), if_pos (by exact hw)]
  congr 2
  show DS.mk _ = DS.mk _
  congr 1
  rw [List.take_succ_eq_append_getElem hk, List.map_append]
  rfl
theorem ask_mkW2 (h : GoodNames N) (k : Nat) (hk : k < N.length) : drains_Drains_Ask.f ⟨(N.take (k + 1)).map mkW⟩ N[k] = some (6, ⟨(N.take (k + 1)).map mkW⟩) := by
  have h6 := h.len
  have hl : ((N.take (k + 1)).map mkW).length ≤ 1000 := by simp; omega
  have hn : nameB N[k] = true := six_ok _ (h.2 _ (List.getElem_mem hk))
  have hp : ¬ placeOf ((N.take (k + 1)).map mkW) N[k] 0 < 0 := fun hq => (place_neg _ _ 0 (by omega)).1 hq (by
    rw [mkW_names, List.take_succ_eq_append_getElem hk]
    exact List.mem_append_right _ (List.mem_singleton.2 rfl))
  unfold drains_Drains_Ask.f
  rw [if_pos (by exact hl), if_pos hn, if_neg (by exact hp)]
theorem ahead_mkW (h : GoodNames N) (k : Nat) (hk : k < N.length) : drains_Drains_Ahead.f ⟨(N.take (k + 1)).map mkW⟩ N[k] = some ((k : Int), ⟨(N.take (k + 1)).map mkW⟩) := by
  have h6 := h.len
  unfold drains_Drains_Ahead.f
  rw [if_pos (by show ((N.take (k + 1)).map mkW).length < _; simp; omega)]
  have hk2 : k < (N.take (k + 1)).length := by simp; omega
  have e := idxOf_get (N.take (k + 1)) k hk2 0 (h.1.sublist (List.take_sublist _ _))
  rw [List.getElem_take] at e
  rw [show namesOf (DS.mk ((N.take (k + 1)).map mkW)).row false = N.take (k + 1) from mkW_waits _, e, Int.zero_add]
/-! #### First -/
theorem head_mkW (a : Nat) (ha : a < N.length) : headOf ((N.drop a).map mkW) = some (mkW N[a]) := by
  rw [List.drop_eq_getElem_cons ha, List.map_cons, headOf, if_neg (show ¬ (mkW N[a]).f2 = true from by simp [mkW])]
theorem head_end (a : Nat) (ha : N.length ≤ a) : headOf ((N.drop a).map mkW) = none := by
  rw [List.drop_eq_nil_of_le ha]
  rfl
theorem empty_notin (h : GoodNames N) (a : Nat) : (⟨#[]⟩ : ByteArray) ∉ ((N.drop a).map mkW).map (·.f0) := by
  rw [mkW_names]
  intro hm
  have := six_ok _ (h.2 _ (List.mem_of_mem_drop hm))
  revert this
  decide +kernel
/-- What First leaves where the first one may. -/
theorem first_yes (h : GoodNames N) (a : Nat) (ha : a < N.length) : headName ((N.drop a).map mkW) true = N[a] ∧ decide (0 ≤ placeOf ((N.drop a).map mkW) N[a] 0) = true ∧ endRow ((N.drop a).map mkW) N[a] = (N.drop (a + 1)).map mkW := by
  have hp : placeOf ((N.drop a).map mkW) N[a] 0 = 0 := by
    rw [List.drop_eq_getElem_cons ha, List.map_cons, placeOf, if_pos (by rw [beq_iff_eq]; rfl)]
  refine ⟨?_, by rw [hp]; rfl, ?_⟩
  · unfold headName
    rw [head_mkW a ha]
    rfl
  · unfold endRow
    rw [hp, if_neg (by omega), List.drop_eq_getElem_cons ha, List.map_cons]
    rfl
/-- What it leaves where none may. -/
theorem first_no (h : GoodNames N) (a : Nat) (m : Bool) (hm : m = false ∨ N.length ≤ a) : headName ((N.drop a).map mkW) m = ⟨#[]⟩ ∧ decide (0 ≤ placeOf ((N.drop a).map mkW) ⟨#[]⟩ 0) = false ∧ endRow ((N.drop a).map mkW) ⟨#[]⟩ = (N.drop a).map mkW := by
  have hp : placeOf ((N.drop a).map mkW) ⟨#[]⟩ 0 < 0 := (place_neg _ _ 0 (by omega)).2 (empty_notin h a)
  refine ⟨?_, decide_eq_false (by omega), ?_⟩
  · unfold headName
    by_cases c : a < N.length
    · rw [head_mkW a c]
      rcases hm with rfl | h2
      · rfl
      · omega
    · rw [head_end a (by omega)]
  · unfold endRow
    rw [if_pos hp]
set_option maxHeartbeats 2000000 in
/-- The law's closure. -/
theorem clos31_raw (B0 B1 B2 B3 : Nat) (nm : ByteArray) (b : Bool) (a : Nat) (bn c : Nat) (w : World)
    (h0 : w.heap[B0]? = some (.cells #[.int .i64 0] 3 (0, 0))) (h1 : w.heap[B1]? = some (.cells #[.bool b] 4 (0, 0))) (h2 : w.heap[B2]? = some (.cells #[.int .i64 a] 3 (0, 0))) (h3 : w.heap[B3]? = some (.cells #[.slice (some ⟨bn, 0, none⟩) N.length c] 27 (0, 0)))
    (n02 : B0 ≠ B2) (hC : Kd.C Kd.string w (some ⟨bn, 0, none⟩) N.length N) (ha : a < N.length) (he : N[a] = nm) (hne : bn ≠ B0) :
    Calls Try.prog 31 #[.string nm, .pointer (some ⟨B0, 0, none⟩), .pointer (some ⟨B1, 0, none⟩), .pointer (some ⟨B2, 0, none⟩), .pointer (some ⟨B3, 0, none⟩)] w fun e w' => e = .returned (.bool b) ∧ w' = w.setCell ⟨B0, 0, none⟩ (.int .i64 1) := by
  have n01 : B0 ≠ B1 := by rintro rfl; rw [h0] at h1; injection h1 with h1; injection h1 with _ h1; cases h1
  have n03 : B0 ≠ B3 := by rintro rfl; rw [h0] at h3; injection h3 with h3; injection h3 with _ h3; cases h3
  have c0 : w.cell? ⟨B0, 0, none⟩ = some (.int .i64 0) := (blk_cell h0 0).trans rfl
  have f0 : w.frozen? ⟨B0, 0, none⟩ = false := blk_frozen h0 0
  have c1 : w.cell? ⟨B1, 0, none⟩ = some (.bool b) := (blk_cell h1 0).trans rfl
  have c2 : w.cell? ⟨B2, 0, none⟩ = some (.int .i64 a) := (blk_cell h2 0).trans rfl
  have c3 : w.cell? ⟨B3, 0, none⟩ = some (.slice (some ⟨bn, 0, none⟩) N.length c) := (blk_cell h3 0).trans rfl
  obtain ⟨ad, hA, hx⟩ := Kd.at_string hC (a : Int) (by omega) (by omega)
  injection hA with hA
  subst hA
  rw [Int.toNat_natCast, show rdOf ByteArray.empty N (a : Int) = nm from by rw [← he]; simp [rdOf, List.getD, ha], add_at, Nat.zero_add] at hx
  obtain ⟨w1, hw1⟩ : ∃ w1, w1 = w.setCell ⟨B0, 0, none⟩ (.int .i64 1) := ⟨_, rfl⟩
  have d1 : w1.cell? ⟨B1, 0, none⟩ = some (.bool b) := by rw [hw1, World.cell?_setCell_other _ _ _ _ (by intro e; first | exact n01 (congrArg Addr.block e) | exact n01 (congrArg Addr.block e).symm)]; exact c1
  have d2 : w1.cell? ⟨B2, 0, none⟩ = some (.int .i64 a) := by rw [hw1, World.cell?_setCell_other _ _ _ _ (by intro e; first | exact n02 (congrArg Addr.block e) | exact n02 (congrArg Addr.block e).symm)]; exact c2
  have d3 : w1.cell? ⟨B3, 0, none⟩ = some (.slice (some ⟨bn, 0, none⟩) N.length c) := by rw [hw1, World.cell?_setCell_other _ _ _ _ (by intro e; first | exact n03 (congrArg Addr.block e) | exact n03 (congrArg Addr.block e).symm)]; exact c3
  have dx : w1.cell? ⟨bn, a, none⟩ = some (.string nm) := by rw [hw1, World.cell?_setCell_other _ _ _ _ (by intro e; exact hne (by have := congrArg Addr.block e; simpa using this.symm))]; exact hx
  have hal : (a : Int) < (N.length : Int) := by omega
  have h0a : (0 : Int) ≤ (a : Int) := by omega
  have HC0 := Aside0.mk c0
  have HF0 := Aside0.mk f0
  rw [hw1] at d1 d2 d3 dx
  clear hC h0 h1 h2 h3 n01 n02 n03 he hne c1 c2 c3 hx hw1
  cases b with
  | true =>
    go_enter Try.func31, Try.ntmps31
    go_wp2
    go_ret
    exact ⟨rfl, rfl⟩
  | false =>
    go_enter Try.func31, Try.ntmps31
    go_wp2
    go_ret
    exact ⟨rfl, rfl⟩
end Go.Proofs.Ytmkijdkfogebjaa.Man

namespace Go.Proofs.Ytmkijdkfogebjaa.Man
open Go.RowKit Go.Proofs.YtmkijdkfogebjaaW.PrintWords Go.Proofs.YtmkijdkfogebjaaW.PrintLast Go.Proofs.YtmkijdkfogebjaaW.PrintMore Go.Proofs.Ytmkijdkfogebjaa.PA Go.Proofs.Ytmkijdkfogebjaa.Hid Go.Proofs.Ytmkijdkfogebjaa.PG Go.Proofs.Ytmkijdkfogebjaa.Nil
attribute [local go_sem] max2_int min2_int max_two min_two
variable {N : List ByteArray}
theorem first_row {w W5 : World} {g : Nat} (B0 B1 B2 B3 c BS : Nat) (AN : Option Addr) (b isR : Bool) (nmR : ByteArray) (a a' : Nat) (ask : Int) (hG : GoodNames N)
    (hI : IsS66 w W5 g ⟨(N.drop a).map mkW⟩) (hB : Below w.heap.size w W5) (hB0 : w.heap.size ≤ B0)
    (h0 : W5.heap[B0]? = some (.cells #[.int .i64 0] 3 (0, 0))) (h1 : W5.heap[B1]? = some (.cells #[.bool b] 4 (0, 0))) (h2 : W5.heap[B2]? = some (.cells #[.int .i64 a] 3 (0, 0))) (h3 : W5.heap[B3]? = some (.cells #[.slice AN N.length c] 27 (0, 0)))
    (n02 : B0 ≠ B2) (hR : Kd.R Kd.string 9 W5 BS (fun _ => True) (.slice AN N.length c) N)
    (q1 : headName ((N.drop a).map mkW) b = nmR) (q2 : decide (0 ≤ placeOf ((N.drop a).map mkW) nmR 0) = isR) (q3 : endRow ((N.drop a).map mkW) nmR = (N.drop a').map mkW) (q4 : (a < N.length ∧ ask = 1) ∨ (N.length ≤ a ∧ ask = 0)) :
    Calls Try.prog 25 #[.pointer (some ⟨g, 0, none⟩), .func (.func 31) #[] #[.pointer (some ⟨B0, 0, none⟩), .pointer (some ⟨B1, 0, none⟩), .pointer (some ⟨B2, 0, none⟩), .pointer (some ⟨B3, 0, none⟩)]] W5 fun e w' =>
      e = .returned (.tuple #[.string nmR, .bool isR]) ∧ IsS66 w w' g ⟨(N.drop a').map mkW⟩ ∧ Below w.heap.size w w' ∧ w'.heap[B0]? = some (.cells #[.int .i64 ask] 3 (0, 0)) ∧ w'.heap[B1]? = some (.cells #[.bool b] 4 (0, 0)) ∧ w'.heap[B2]? = some (.cells #[.int .i64 a] 3 (0, 0)) ∧
        w'.heap[B3]? = some (.cells #[.slice AN N.length c] 27 (0, 0)) ∧ Kd.R Kd.string 9 w' BS (fun _ => True) (.slice AN N.length c) N := by
  have h6 := hG.len
  have n01 : B1 ≠ B0 := by rintro rfl; rw [h0] at h1; injection h1 with h1; injection h1 with _ h1; cases h1
  have n03 : B3 ≠ B0 := by rintro rfl; rw [h0] at h3; injection h3 with h3; injection h3 with _ h3; cases h3
  refine (first31_raw B0 B1 B2 B3 b (fun W W' => W.heap[B0]? = some (.cells #[.int .i64 0] 3 (0, 0)) ∧ W' = W.setCell ⟨B0, 0, none⟩ (.int .i64 1)) hI hB (by show ((N.drop a).map mkW).length ≤ 1000; simp; omega) ?_ ?_).mono ?_
  · intro x hx W hW
    by_cases ha : a < N.length
    · rw [show (DS.mk ((N.drop a).map mkW)).row = (N.drop a).map mkW from rfl, head_mkW a ha] at hx
      have hx2 := Option.some.inj hx
      subst hx2
      have k0 := (hW.block B0 (blk_lt h0)).trans h0
      have hRW := Kd.R_below hR hW
      obtain ⟨bn, c', he, _⟩ := Kd.R_form hRW (by omega)
      injection he with e1 e2 e3
      subst e1
      refine (clos31_raw B0 B1 B2 B3 N[a] b a bn c W k0 ((hW.block B1 (blk_lt h1)).trans h1) ((hW.block B2 (blk_lt h2)).trans h2) ((hW.block B3 (blk_lt h3)).trans h3) n02 (Kd.R_reads' hRW).2.2 ha rfl (fun e => Kd.R_ne hRW k0 (by decide) (by rw [← e]; rfl))).mono ?_
      rintro e w' ⟨rfl, rfl⟩
      exact ⟨rfl, k0, rfl⟩
    · rw [show (DS.mk ((N.drop a).map mkW)).row = (N.drop a).map mkW from rfl, head_end a (by omega)] at hx
      cases hx
  · rintro W W' ⟨k0, rfl⟩
    exact ⟨fun k hk => Below.heap_setCell W _ _ k (by rintro rfl; exact not_hidn_cells k0 (by decide) hk), fun hb => below_set hb hB0⟩
  · rintro e w' ⟨rfl, W2, ⟨W1, hb1, hm, hn⟩, hi, hbw, hk⟩
    have q1' : headName (DS.mk ((N.drop a).map mkW)).row b = nmR := q1
    rw [q1'] at hi ⊢
    have q2' : decide (0 ≤ placeOf (DS.mk ((N.drop a).map mkW)).row nmR 0) = isR := q2
    have q3' : endRow (DS.mk ((N.drop a).map mkW)).row nmR = (N.drop a').map mkW := q3
    rw [q3'] at hi
    rw [q2']
    have k1 := (hb1.block B1 (blk_lt h1)).trans h1
    have k2 := (hb1.block B2 (blk_lt h2)).trans h2
    have k3 := (hb1.block B3 (blk_lt h3)).trans h3
    have kr := Kd.R_below hR hb1
    rcases q4 with ⟨ha, rfl⟩ | ⟨ha, rfl⟩
    · obtain ⟨k0, rfl⟩ := hm ⟨_, head_mkW a ha⟩
      have f : ∀ k, k ≠ B0 → (W1.setCell ⟨B0, 0, none⟩ (.int .i64 1)).heap[k]? = W1.heap[k]? := fun k hk => Below.heap_setCell W1 ⟨B0, 0, none⟩ _ k hk
      have m0 : (W1.setCell ⟨B0, 0, none⟩ (.int .i64 1)).heap[B0]? = some (.cells #[.int .i64 1] 3 (0, 0)) := by simpa using blk_set k0 0 (.int .i64 1)
      have mr := Kd.R_set kr k0 (by decide) 0 (.int .i64 1)
      exact ⟨rfl, hi, hbw, Ko.blkc hk m0 (by decide), Ko.blkc hk ((f B1 n01).trans k1) (by decide), Ko.blkc hk ((f B2 (Ne.symm n02)).trans k2) (by decide), Ko.blkc hk ((f B3 n03).trans k3) (by decide), Kd.R_mono (Ko.R_keep (Ko.R_apart (T := TD) mr (by decide)) hk (fun _ h => h.2)) (fun _ h => h.1)⟩
    · have e := hn (head_end a ha)
      subst e
      have k0 := (hb1.block B0 (blk_lt h0)).trans h0
      exact ⟨rfl, hi, hbw, Ko.blkc hk k0 (by decide), Ko.blkc hk k1 (by decide), Ko.blkc hk k2 (by decide), Ko.blkc hk k3 (by decide), Kd.R_mono (Ko.R_keep (Ko.R_apart (T := TD) kr (by decide)) hk (fun _ h => h.2)) (fun _ h => h.1)⟩
def roww.T21 : Bool × List (List Nat × List Nat) := (true, [([], []), ([0], [0]), ([1], [1]), ([], []), ([3], [3]), ([], []), ([4, 5], [4, 5]), ([2, 6], [2, 6])])
theorem roww.tab21 : rtab .any (opsOf Try.f6 21) = roww.T21 := by kernel_rfl
set_option maxRecDepth 100000 in
set_option maxHeartbeats 8000000 in
theorem row_calls (A0 : Option Addr) (c0 : Nat) (l0 : List Int) (A1 : Option Addr) (c1 : Nat) (l1 : List Bool) (w : World) (hr0 : Kd.C (Kd.int .i64) w A0 l0.length l0) (hc0 : l0.length ≤ c0) (hr1 : Kd.C Kd.bool w A1 l1.length l1) (hc1 : l1.length ≤ c1) :
    Calls Try.prog 6 #[.slice A0 l0.length c0, .slice A1 l1.length c1] w fun e w' => e = .returned (.bool true) ∧ Below w.heap.size w w' := by
  obtain ⟨N, hgf, hG⟩ := good_some l0 hr0.2.1
  have HL := Aside0.mk (fun W => hostlerlaw13_lives.calls true W lives_at)
  have HGD := Aside0.mk (fun W (h : Kd.C (Kd.int .i64) W A0 l0.length l0) => hostlerref09_Good.calls (l0.length + 9) A0 c0 l0 N W h hc0 hgf)
  have HR0 := Aside0.mk hr0
  have HR1 := Aside0.mk hr1
  have HG := Aside0.mk hG
  have h6 := hG.len
  have hl1 : l1.length ≤ 9223372036854775807 := hr1.2.1
  clear hr0 hr1 hgf hG
  go_enter Try.func6, Try.ntmps6
  go_wp2_with (first
    | (go_at_call 8; refine (HL.out _).mono ?_; rintro e w2 ⟨rfl, hb2⟩; have HB2 := Aside0.mk hb2; clear hb2)
    | (go_at_call 18; refine (HGD.out _ (Kd.C_below HR0.out HB2.out)).mono ?_; rintro e w3 ⟨v3, rfl, hR3, hb3⟩; obtain ⟨AN, cN, rfl⟩ := Kd.R_slice hR3; have HR3 := Aside0.mk hR3; have HB3 := Aside0.mk (below_step HB2.out hb3); clear hR3 hb3)
    | (go_at_call 9; refine (drains_DNew.calls ⟨[]⟩ w _ (below_alloc HB3.out _) rfl).mono ?_; rintro e w4 ⟨g, rfl, hi4, hb4, hbb4⟩; have HI4 := Aside0.mk hi4; have HB4 := Aside0.mk hb4; have HR4 := Aside0.mk (Kd.R_below (Kd.R_alloc HR3.out (.cells #[.slice AN N.length cN] 27)) hbb4); have H34 := Aside0.mk ((hbb4.block w3.heap.size (by simp)).trans (heap_alloc_new w3 (.cells #[.slice AN N.length cN] 27))); clear hi4 hb4 hbb4))
  obtain ⟨BS, hbs⟩ : ∃ BS, BS = w2.heap.size := ⟨_, rfl⟩
  rw [← hbs] at HR4
  clear HR3 HB2 HB3 HL HGD
  go_loopw [7] (fun v7 wr => ∃ k : Nat, k ≤ N.length ∧ v7 = .int .i64 k ∧ Aside0 (IsS66 w wr g ⟨(N.take k).map mkW⟩) ∧ Aside0 (Below w.heap.size w wr) ∧ Aside0 (Kd.R Kd.string 9 wr BS (fun _ => True) (.slice AN N.length cN) N) ∧ Aside0 (wr.heap[w3.heap.size]? = some (.cells #[.slice AN N.length cN] 27 (0, 0)))) (fun v7 _ => N.length - (intOf v7).toNat)
  case atStart => exact ⟨0, Nat.zero_le _, rfl, HI4, HB4, HR4, H34⟩
  case round =>
    obtain ⟨k, hk, rfl, HI, HB, HR, H3⟩ := hrel
    have hc3 : wr.cell? ⟨w3.heap.size, 0, none⟩ = some (.slice AN N.length cN) := (blk_cell H3.out 0).trans rfl
    by_cases hlt : k < N.length
    · obtain ⟨bn, cN', heN, _, hbnl, csn, hcsn⟩ := Kd.R_form HR.out (by omega)
      injection heN with e1 e2 e3
      subst e1; subst e3
      obtain ⟨hcn, _⟩ := Kd.R_cell ByteArray.empty HR.out (k : Int) (by omega) (by omega)
      rw [Int.toNat_natCast] at hcn
      obtain ⟨nm, hnm⟩ : ∃ nm, nm = rdOf ByteArray.empty N (k : Int) := ⟨_, rfl⟩
      rw [← hnm] at hcn
      have hnm2 : N[k] = nm := by rw [hnm]; simp [rdOf, List.getD, hlt]
      have hq1 := ask_mkW HG.out k hlt
      have hq2 := ask_mkW2 HG.out k hlt
      have hq3 := ahead_mkW HG.out k hlt
      rw [hnm2] at hq1 hq2 hq3
      have HQ1 := Aside0.mk hq1
      have HQ2 := Aside0.mk hq2
      have HQ3 := Aside0.mk hq3
      have h0k : (0 : Int) ≤ (k : Int) := by omega
      have hkl : (k : Int) < (N.length : Int) := by omega
      clear hnm hnm2 hq1 hq2 hq3
      go_wp2_with (first
        | (go_at_call 12; (with_reducible refine (drains_Drains_Ask.calls g _ nm 0 _ w wr HI.out HB.out HQ1.out).mono ?_); rintro e w6 ⟨rfl, hi6, hb6, hk6⟩; have HI6 := Aside0.mk hi6; have HB6 := Aside0.mk hb6; have HR6 := Aside0.mk (Kd.R_mono (Ko.R_keep (Ko.R_apart (T := TD) HR.out (by decide)) hk6 (fun _ h => h.2)) (fun _ h => h.1) : Kd.R Kd.string 9 w6 BS (fun _ => True) (.slice (some ⟨bn, 0, none⟩) N.length cN) N); have H36 := Aside0.mk (Ko.blkc hk6 H3.out (by decide)); have hc36 : w6.cell? ⟨w3.heap.size, 0, none⟩ = some (.slice (some ⟨bn, 0, none⟩) N.length cN) := (blk_cell H36.out 0).trans rfl; have hcn6 : w6.cell? ⟨bn, k, none⟩ = some (.string nm) := (World.cell?_of_block (Ko.blkc hk6 hcsn (by decide) |>.trans hcsn.symm)).trans hcn; clear hi6 hb6 hk6)
        | (go_at_call 12; (with_reducible refine (drains_Drains_Ask.calls g _ nm 6 _ w w6 HI6.out HB6.out HQ2.out).mono ?_); rintro e w7 ⟨rfl, hi7, hb7, hk7⟩; have HI7 := Aside0.mk hi7; have HB7 := Aside0.mk hb7; have HR7 := Aside0.mk (Kd.R_mono (Ko.R_keep (Ko.R_apart (T := TD) HR6.out (by decide)) hk7 (fun _ h => h.2)) (fun _ h => h.1) : Kd.R Kd.string 9 w7 BS (fun _ => True) (.slice (some ⟨bn, 0, none⟩) N.length cN) N); have H37 := Aside0.mk (Ko.blkc hk7 H36.out (by decide)); have hc37 : w7.cell? ⟨w3.heap.size, 0, none⟩ = some (.slice (some ⟨bn, 0, none⟩) N.length cN) := (blk_cell H37.out 0).trans rfl; have hcn7 : w7.cell? ⟨bn, k, none⟩ = some (.string nm) := (by obtain ⟨h, _⟩ := Kd.R_cell ByteArray.empty HR7.out (k : Int) h0k (by omega); rw [Int.toNat_natCast] at h; obtain ⟨h', _⟩ := Kd.R_cell ByteArray.empty HR.out (k : Int) h0k (by omega); rw [Int.toNat_natCast] at h'; rw [h]; rw [h'] at hcn; exact hcn); clear hi7 hb7 hk7)
        | (go_at_call 30; (with_reducible refine (drains_Drains_Ahead.calls g _ nm _ _ w w7 HI7.out HB7.out HQ3.out).mono ?_); rintro e w8 ⟨rfl, hi8, hb8, hk8⟩; have HR8 := Aside0.mk (Kd.R_mono (Ko.R_keep (Ko.R_apart (T := TD) HR7.out (by decide)) hk8 (fun _ h => h.2)) (fun _ h => h.1) : Kd.R Kd.string 9 w8 BS (fun _ => True) (.slice (some ⟨bn, 0, none⟩) N.length cN) N); have H38 := Aside0.mk (Ko.blkc hk8 H37.out (by decide))))
      go_roundw
      case measure => simp [intOf]; omega
      case rel => exact ⟨k + 1, by omega, by rw [show ((k : Int) + 1) = ((k + 1 : Nat) : Int) by omega], ⟨hi8⟩, ⟨hb8⟩, HR8, H38⟩
    · have hke : k = N.length := by omega
      subst hke
      rw [List.take_length] at HI
      obtain ⟨wo, rfl⟩ : ∃ wo : World, wo = wr := ⟨_, rfl⟩
      have hwo : w.heap.size ≤ wo.heap.size := HB.out.size
      have H8N := Aside0.mk (heap_alloc_new wo (.cells #[.int .i64 0] 3))
      have HIN := Aside0.mk (HI.out.alloc (.cells #[.int .i64 0] 3))
      have HBN := Aside0.mk (below_alloc HB.out (.cells #[.int .i64 0] 3))
      have HRN := Aside0.mk (Kd.R_alloc HR.out (.cells #[.int .i64 0] 3))
      have H3N := Aside0.mk ((Below.heap_alloc wo (.cells #[.int .i64 0] 3) _ (blk_lt H3.out)).trans H3.out)
      clear hk hlt HI HB HR H3
      go_wp2
      go_loopw [9] (fun v9 wx => ∃ i a : Nat, i ≤ l1.length ∧ i ≤ 30 ∧ a ≤ N.length ∧ v9 = .int .i64 i ∧ Aside0 (IsS66 w wx g ⟨(N.drop a).map mkW⟩) ∧ Aside0 (Below w.heap.size w wx) ∧ Aside0 (Kd.R Kd.string 9 wx BS (fun _ => True) (.slice AN N.length cN) N) ∧ Aside0 (wx.heap[w3.heap.size]? = some (.cells #[.slice AN N.length cN] 27 (0, 0))) ∧ Aside0 (wx.heap[wo.heap.size]? = some (.cells #[.int .i64 a] 3 (0, 0)))) (fun v9 _ => l1.length - (intOf v9).toNat)
      case atStart => exact ⟨0, 0, Nat.zero_le _, Nat.zero_le _, Nat.zero_le _, rfl, HIN, HBN, HRN, H3N, H8N⟩
      case round =>
        obtain ⟨i, a, hil, hi30, haN, rfl, HI, HB, HR, H3, H8⟩ := hrel
        clear H8N HIN HBN HRN H3N
        by_cases hi : i < l1.length ∧ i < 30
        · obtain ⟨hi1, hi2⟩ := hi
          obtain ⟨ad1, hA1, hx1⟩ := Kd.at_bool (Kd.C_below HR1.out HB.out) (i : Int) (by omega) (by omega)
          subst hA1
          obtain ⟨b, hb⟩ : ∃ b, b = rdOf false l1 (i : Int) := ⟨_, rfl⟩
          rw [Int.toNat_natCast, ← hb] at hx1
          have h0i : (0 : Int) ≤ (i : Int) := by omega
          have hi1b : (i : Int) < (l1.length : Int) := by omega
          have hi2b : decide ((i : Int) < 30) = true := decide_eq_true (by omega)
          have hi2c : (i : Int) < 30 := by omega
          clear hb
          by_cases hal : a < N.length
          · cases b with
            | true =>
              obtain ⟨q1, q2, q3⟩ := first_yes HG.out a hal
              have HFR := Aside0.mk (first_row (w := w) (W5 := (wr.alloc (.cells #[.bool true] 4)).alloc (.cells #[.int .i64 0] 3)) (g := g) (wr.heap.size + 1) wr.heap.size wo.heap.size w3.heap.size cN BS AN true true N[a] a (a + 1) 1 HG.out
                ((HI.out.alloc _).alloc _) (below_alloc (below_alloc HB.out _) _) (by have := HB.out.size; omega)
                (by have := heap_alloc_new (wr.alloc (.cells #[.bool true] 4)) (.cells #[.int .i64 0] 3); simpa using this)
                ((Below.heap_alloc _ _ _ (by simp)).trans (heap_alloc_new wr _))
                ((Below.heap_alloc _ _ _ (by have := blk_lt H8.out; simp; omega)).trans ((Below.heap_alloc _ _ _ (blk_lt H8.out)).trans H8.out))
                ((Below.heap_alloc _ _ _ (by have := blk_lt H3.out; simp; omega)).trans ((Below.heap_alloc _ _ _ (blk_lt H3.out)).trans H3.out))
                (by have := blk_lt H8.out; omega) (Kd.R_alloc (Kd.R_alloc HR.out _) _) q1 q2 q3 (.inl ⟨hal, rfl⟩))
              have HWA := Aside0.mk (fun W (h : IsS66 w W g ⟨(N.drop (a + 1)).map mkW⟩) => waits_raw (by show ((N.drop (a + 1)).map mkW).length < _; simp; omega) h)
              rw [show namesOf (DS.mk ((N.drop (a + 1)).map mkW)).row false = N.drop (a + 1) from mkW_waits _] at HWA
              have hdl : ((N.drop (a + 1)).length : Int) = (N.length : Int) - ((a : Int) + 1) := by simp; omega
              have HWB : Aside0 (∃ ND : List ByteArray, (ND.length : Int) = (N.length : Int) - ((a : Int) + 1) ∧ ∀ W, IsS66 w W g ⟨(N.drop (a + 1)).map mkW⟩ → Calls Try.prog 15 #[.pointer (some ⟨g, 0, none⟩)] W fun e w' => ∃ v1_ : Value, e = .returned v1_ ∧ Kd.R Kd.string 9 w' W.heap.size (fun _ => True) v1_ ND ∧ Below W.heap.size W w') := ⟨⟨_, hdl, HWA.out⟩⟩
              clear hdl HWA
              have h0a : (0 : Int) ≤ (a : Int) := by omega
              have hacmp : decide ((a : Int) < (N.length : Int)) = true := decide_eq_true (by omega)
              have hacmp2 : decide (a < N.length) = true := decide_eq_true (by omega)
              have hmin : (if 1 < (N.length : Int) - (a : Int) then 1 else (N.length : Int) - (a : Int)) = 1 := by split <;> omega
              have hwr : wrap64 ((N.length : Int) - ((a : Int) + 1)) = (N.length : Int) - ((a : Int) + 1) := by unfold wrap64; omega
              have hwr0 : wrap64 0 = 0 := by unfold wrap64; omega
              clear q1 q2 q3
              go_upto_region 17 with (first
                | (go_at_call 25; refine HFR.out.mono ?_; rintro e wz ⟨rfl, hiz, hbz, h0z, h1z, h2z, h3z, hrz⟩; have HIZ := Aside0.mk hiz; have HBZ := Aside0.mk hbz; have H0Z := Aside0.mk h0z; have H1Z := Aside0.mk h1z; have H8Z := Aside0.mk h2z; have H3Z := Aside0.mk h3z; have HRZ := Aside0.mk hrz; clear hiz hbz h0z h1z h2z h3z hrz))
              have hz0 : wz.cell? ⟨wr.heap.size + 1, 0, none⟩ = some (.int .i64 1) := (blk_cell H0Z.out 0).trans rfl
              have hz1 : wz.cell? ⟨wr.heap.size, 0, none⟩ = some (.bool true) := (blk_cell H1Z.out 0).trans rfl
              have hz8 : wz.cell? ⟨wo.heap.size, 0, none⟩ = some (.int .i64 a) := (blk_cell H8Z.out 0).trans rfl
              have hz8f : wz.frozen? ⟨wo.heap.size, 0, none⟩ = false := blk_frozen H8Z.out 0
              have hz3 : wz.cell? ⟨w3.heap.size, 0, none⟩ = some (.slice AN N.length cN) := (blk_cell H3Z.out 0).trans rfl
              obtain ⟨bn, cN', heN, _⟩ := Kd.R_form HRZ.out (by omega)
              injection heN with e1 e2 e3
              subst e1
              obtain ⟨hna, _⟩ := Kd.R_cell ByteArray.empty HRZ.out (a : Int) (by omega) (by omega)
              rw [Int.toNat_natCast, show rdOf ByteArray.empty N (a : Int) = N[a] from by simp [rdOf, List.getD, hal]] at hna
              have hal2 : (a : Int) < (N.length : Int) := by omega
              generalize N[a] = nma at hna ⊢
              have h38 : w3.heap.size ≠ wo.heap.size := by
                intro e
                have h1_ := H3Z.out
                have h2_ := H8Z.out
                rw [e, h2_] at h1_
                injection h1_ with h1_
                injection h1_ with _ h1_
                cases h1_
              go_upto_region 21 with fail
              have HIQ := Aside0.mk (HIZ.out.far (p := ⟨wo.heap.size, 0, none⟩) (vis_cells H8Z.out (by decide)) (.int .i64 ((a : Int) + 1)))
              have HBQ := Aside0.mk (below_set (g := wo.heap.size) (j := 0) (v := .int .i64 ((a : Int) + 1)) HBZ.out hwo)
              have HRQ := Aside0.mk (Kd.R_set HRZ.out H8Z.out (by decide) 0 (.int .i64 ((a : Int) + 1)))
              have H3Q := Aside0.mk ((Below.heap_setCell wz ⟨wo.heap.size, 0, none⟩ (.int .i64 ((a : Int) + 1)) _ h38).trans H3Z.out)
              have H8Q : Aside0 ((wz.setCell ⟨wo.heap.size, 0, none⟩ (.int .i64 ((a : Int) + 1))).heap[wo.heap.size]? = some (.cells #[.int .i64 ((a : Int) + 1)] 3 (0, 0))) := ⟨by simpa using blk_set H8Z.out 0 (.int .i64 ((a : Int) + 1))⟩
              have hq3 : (wz.setCell ⟨wo.heap.size, 0, none⟩ (.int .i64 ((a : Int) + 1))).cell? ⟨w3.heap.size, 0, none⟩ = some (.slice (some ⟨bn, 0, none⟩) N.length cN) := (blk_cell H3Q.out 0).trans rfl
              have hq8 : (wz.setCell ⟨wo.heap.size, 0, none⟩ (.int .i64 ((a : Int) + 1))).cell? ⟨wo.heap.size, 0, none⟩ = some (.int .i64 ((a : Int) + 1)) := (blk_cell H8Q.out 0).trans rfl
              have hl3 := blk_lt H3Q.out
              have hl8 := blk_lt H8Q.out
              obtain ⟨ND, hND, HWC⟩ := HWB.out
              refine start_ (n := 8) (S := fun w' => w'.cell? ⟨w3.heap.size, 0, none⟩ = some (.slice (some ⟨bn, 0, none⟩) N.length cN) ∧ w'.cell? ⟨wo.heap.size, 0, none⟩ = some (.int .i64 ((a : Int) + 1))) (ds := []) #[false, false, false, false, false, false, false, false] (by kernel_rfl) rfl rfl ⟨hq3, hq8⟩ (fun hHeld => ?_); refine with_tab roww.tab21 (fun HT_ => ?_)
              refine pure_ (i := 0) (N := some 115) (v := ?_) (a' := ?_) #[true, false, false, false, false, false, false, false] rfl rfl (any_of HT_.out (by kernel_rfl)) (fun _ _ _ h => h) (Or.inl ⟨by rfl, ?_⟩) ?_ ?_
              rotate_left
              · intro w'
                go_simp
                with_reducible rfl
              rotate_left
              · simp only [Act.put, List.setIfInBounds_toArray, List.set_cons_zero, List.set_cons_succ, i64_w, i32_w]
                rfl
              refine take_ (i := 3) (N := some 118) (v := ?_) (a' := ?_) #[true, false, false, true, false, false, false, false] rfl rfl (take_of HT_.out (by kernel_rfl)) (fun _ _ _ h => h) (Or.inl ⟨by rfl, ?_⟩) hHeld ?_ ?_
              rotate_left
              · intro w' hS_
                obtain ⟨s0, s1⟩ := hS_
                go_simp
                with_reducible rfl
              rotate_left
              · simp only [Act.put, List.setIfInBounds_toArray, List.set_cons_zero, List.set_cons_succ, i64_w, i32_w]
                rfl
              refine pure_ (i := 4) (N := some 119) (v := ?_) (a' := ?_) #[true, false, false, true, true, false, false, false] rfl rfl (any_of HT_.out (by kernel_rfl)) (fun _ _ _ h => h) (Or.inl ⟨by rfl, ?_⟩) ?_ ?_
              rotate_left
              · intro w'
                go_simp
                with_reducible rfl
              rotate_left
              · simp only [Act.put, List.setIfInBounds_toArray, List.set_cons_zero, List.set_cons_succ, i64_w, i32_w]
                rfl
              refine take_ (i := 5) (N := some 120) (v := ?_) (a' := ?_) #[true, false, false, true, true, true, false, false] rfl rfl (take_of HT_.out (by kernel_rfl)) (fun _ _ _ h => h) (Or.inl ⟨by rfl, ?_⟩) hHeld ?_ ?_
              rotate_left
              · intro w' hS_
                obtain ⟨s0, s1⟩ := hS_
                go_simp
                with_reducible rfl
              rotate_left
              · simp only [Act.put, List.setIfInBounds_toArray, List.set_cons_zero, List.set_cons_succ, i64_w, i32_w]
                rfl
              refine pure_ (i := 6) (N := some 121) (v := ?_) (a' := ?_) #[true, false, false, true, true, true, true, false] rfl rfl (any_of HT_.out (by kernel_rfl)) (fun _ _ _ h => h) (Or.inl ⟨by rfl, ?_⟩) ?_ ?_
              rotate_left
              · intro w'
                go_simp
                with_reducible rfl
              rotate_left
              · simp only [Act.put, List.setIfInBounds_toArray, List.set_cons_zero, List.set_cons_succ, i64_w, i32_w]
                rfl
              refine one_ (i := 1) (N := some 116) #[true, true, false, true, true, true, true, false] rfl rfl (one_of HT_.out (by kernel_rfl)) (by decide) (fun K hK => ?_)
              refine goes_ Try.func15 (by kernel_rfl) rfl #[.pointer (some ⟨g, 0, none⟩)] (by rfl) rfl rfl (by (try simp only [List.map_toArray, List.map_cons, List.map_nil]); first | done | rfl) ?_
              refine (HWC _ (HIQ.out.drew)).mono ?_
              rintro e wy ⟨vy, rfl, hRy, hby⟩
              obtain ⟨Ay, ny, rfl⟩ := Kd.R_slice hRy
              have HBY := Aside0.mk hby
              have hd3 : wy.cell? ⟨w3.heap.size, 0, none⟩ = some (.slice (some ⟨bn, 0, none⟩) N.length cN) := (hby.cell (p := ⟨w3.heap.size, 0, none⟩) hl3).trans hq3
              have hdo : wy.cell? ⟨wo.heap.size, 0, none⟩ = some (.int .i64 ((a : Int) + 1)) := (hby.cell (p := ⟨wo.heap.size, 0, none⟩) hl8).trans hq8
              clear hRy hby
              refine ⟨_, rfl, ?_⟩
              refine hK.out _ _ ⟨hd3, hdo⟩ (fun hHeld => ?_)
              clear hK K
              refine norm_ (a' := ?_) ?_ ?_
              rotate_left
              · show Act.put _ (some 116) _ = _
                simp only [Act.put, List.setIfInBounds_toArray, List.set_cons_zero, List.set_cons_succ, i64_w, i32_w]
                rfl
              refine pure_ (i := 2) (N := some 117) (v := ?_) (a' := ?_) #[true, true, true, true, true, true, true, false] rfl rfl (any_of HT_.out (by kernel_rfl)) (fun _ _ _ h => h) (Or.inl ⟨by rfl, ?_⟩) ?_ ?_
              rotate_left
              · intro w'
                go_simp
                with_reducible rfl
              rotate_left
              · simp only [Act.put, List.setIfInBounds_toArray, List.set_cons_zero, List.set_cons_succ, i64_w, i32_w]
                rfl
              refine pure_ (i := 7) (N := some 122) (v := ?_) (a' := ?_) #[true, true, true, true, true, true, true, true] rfl rfl (any_of HT_.out (by kernel_rfl)) (fun _ _ _ h => h) (Or.inl ⟨by rfl, ?_⟩) ?_ ?_
              rotate_left
              · intro w'
                go_simp
                with_reducible rfl
              rotate_left
              · simp only [Act.put, List.setIfInBounds_toArray, List.set_cons_zero, List.set_cons_succ, i64_w, i32_w]
                rfl
              refine done_ (done_of HT_.out (by kernel_rfl)) ?_
              go_wp2
              exact ⟨⟨i + 1, a + 1, by omega, by omega, by omega, by rw [show ((i : Int) + 1) = ((i + 1 : Nat) : Int) by omega], ⟨(HIQ.out.drew).below HBY.out⟩, ⟨(below_drew1 HBQ.out).trans (HBY.out.mono HBQ.out.size)⟩, ⟨Kd.R_below (Kd.R_drew HRQ.out) HBY.out⟩, ⟨(HBY.out.block _ hl3).trans H3Q.out⟩, ⟨by have h_ := (HBY.out.block _ hl8).trans H8Q.out; simpa using h_⟩⟩, by simp [intOf]; omega⟩
            | false =>
              obtain ⟨q1, q2, q3⟩ := first_no HG.out a false (.inl rfl)
              have HFR := Aside0.mk (first_row (w := w) (W5 := (wr.alloc (.cells #[.bool false] 4)).alloc (.cells #[.int .i64 0] 3)) (g := g) (wr.heap.size + 1) wr.heap.size wo.heap.size w3.heap.size cN BS AN false false ⟨#[]⟩ a (a) 1 HG.out
                ((HI.out.alloc _).alloc _) (below_alloc (below_alloc HB.out _) _) (by have := HB.out.size; omega)
                (by have := heap_alloc_new (wr.alloc (.cells #[.bool false] 4)) (.cells #[.int .i64 0] 3); simpa using this)
                ((Below.heap_alloc _ _ _ (by simp)).trans (heap_alloc_new wr _))
                ((Below.heap_alloc _ _ _ (by have := blk_lt H8.out; simp; omega)).trans ((Below.heap_alloc _ _ _ (blk_lt H8.out)).trans H8.out))
                ((Below.heap_alloc _ _ _ (by have := blk_lt H3.out; simp; omega)).trans ((Below.heap_alloc _ _ _ (blk_lt H3.out)).trans H3.out))
                (by have := blk_lt H8.out; omega) (Kd.R_alloc (Kd.R_alloc HR.out _) _) q1 q2 q3 (.inl ⟨hal, rfl⟩))
              have HWA := Aside0.mk (fun W (h : IsS66 w W g ⟨(N.drop (a)).map mkW⟩) => waits_raw (by show ((N.drop (a)).map mkW).length < _; simp; omega) h)
              rw [show namesOf (DS.mk ((N.drop (a)).map mkW)).row false = N.drop (a) from mkW_waits _] at HWA
              have hdl : ((N.drop (a)).length : Int) = (N.length : Int) - (a : Int) := by simp; omega
              have HWB : Aside0 (∃ ND : List ByteArray, (ND.length : Int) = (N.length : Int) - (a : Int) ∧ ∀ W, IsS66 w W g ⟨(N.drop (a)).map mkW⟩ → Calls Try.prog 15 #[.pointer (some ⟨g, 0, none⟩)] W fun e w' => ∃ v1_ : Value, e = .returned v1_ ∧ Kd.R Kd.string 9 w' W.heap.size (fun _ => True) v1_ ND ∧ Below W.heap.size W w') := ⟨⟨_, hdl, HWA.out⟩⟩
              clear hdl HWA
              have h0a : (0 : Int) ≤ (a : Int) := by omega
              have hacmp : decide ((a : Int) < (N.length : Int)) = true := decide_eq_true (by omega)
              have hacmp2 : decide (a < N.length) = true := decide_eq_true (by omega)
              have hmin : (if 1 < (N.length : Int) - (a : Int) then 1 else (N.length : Int) - (a : Int)) = 1 := by split <;> omega
              have hwr : wrap64 ((N.length : Int) - (a : Int)) = (N.length : Int) - (a : Int) := by unfold wrap64; omega
              have hwr0 : wrap64 0 = 0 := by unfold wrap64; omega
              clear q1 q2 q3
              go_upto_region 17 with (first
                | (go_at_call 25; refine HFR.out.mono ?_; rintro e wz ⟨rfl, hiz, hbz, h0z, h1z, h2z, h3z, hrz⟩; have HIZ := Aside0.mk hiz; have HBZ := Aside0.mk hbz; have H0Z := Aside0.mk h0z; have H1Z := Aside0.mk h1z; have H8Z := Aside0.mk h2z; have H3Z := Aside0.mk h3z; have HRZ := Aside0.mk hrz; clear hiz hbz h0z h1z h2z h3z hrz))
              have hz0 : wz.cell? ⟨wr.heap.size + 1, 0, none⟩ = some (.int .i64 1) := (blk_cell H0Z.out 0).trans rfl
              have hz1 : wz.cell? ⟨wr.heap.size, 0, none⟩ = some (.bool false) := (blk_cell H1Z.out 0).trans rfl
              have hz8 : wz.cell? ⟨wo.heap.size, 0, none⟩ = some (.int .i64 a) := (blk_cell H8Z.out 0).trans rfl
              have hz8f : wz.frozen? ⟨wo.heap.size, 0, none⟩ = false := blk_frozen H8Z.out 0
              have hz3 : wz.cell? ⟨w3.heap.size, 0, none⟩ = some (.slice AN N.length cN) := (blk_cell H3Z.out 0).trans rfl
              have h38 : w3.heap.size ≠ wo.heap.size := by
                intro e
                have h1_ := H3Z.out
                have h2_ := H8Z.out
                rw [e, h2_] at h1_
                injection h1_ with h1_
                injection h1_ with _ h1_
                cases h1_
              go_upto_region 21 with fail
              have HIQ := HIZ
              have HBQ := HBZ
              have HRQ := HRZ
              have H3Q := H3Z
              have H8Q := H8Z
              have hq3 : wz.cell? ⟨w3.heap.size, 0, none⟩ = some (.slice AN N.length cN) := (blk_cell H3Q.out 0).trans rfl
              have hq8 : wz.cell? ⟨wo.heap.size, 0, none⟩ = some (.int .i64 (a : Int)) := (blk_cell H8Q.out 0).trans rfl
              have hl3 := blk_lt H3Q.out
              have hl8 := blk_lt H8Q.out
              obtain ⟨ND, hND, HWC⟩ := HWB.out
              refine start_ (n := 8) (S := fun w' => w'.cell? ⟨w3.heap.size, 0, none⟩ = some (.slice AN N.length cN) ∧ w'.cell? ⟨wo.heap.size, 0, none⟩ = some (.int .i64 (a : Int))) (ds := []) #[false, false, false, false, false, false, false, false] (by kernel_rfl) rfl rfl ⟨hq3, hq8⟩ (fun hHeld => ?_); refine with_tab roww.tab21 (fun HT_ => ?_)
              refine pure_ (i := 0) (N := some 115) (v := ?_) (a' := ?_) #[true, false, false, false, false, false, false, false] rfl rfl (any_of HT_.out (by kernel_rfl)) (fun _ _ _ h => h) (Or.inl ⟨by rfl, ?_⟩) ?_ ?_
              rotate_left
              · intro w'
                go_simp
                with_reducible rfl
              rotate_left
              · simp only [Act.put, List.setIfInBounds_toArray, List.set_cons_zero, List.set_cons_succ, i64_w, i32_w]
                rfl
              refine take_ (i := 3) (N := some 118) (v := ?_) (a' := ?_) #[true, false, false, true, false, false, false, false] rfl rfl (take_of HT_.out (by kernel_rfl)) (fun _ _ _ h => h) (Or.inl ⟨by rfl, ?_⟩) hHeld ?_ ?_
              rotate_left
              · intro w' hS_
                obtain ⟨s0, s1⟩ := hS_
                go_simp
                with_reducible rfl
              rotate_left
              · simp only [Act.put, List.setIfInBounds_toArray, List.set_cons_zero, List.set_cons_succ, i64_w, i32_w]
                rfl
              refine pure_ (i := 4) (N := some 119) (v := ?_) (a' := ?_) #[true, false, false, true, true, false, false, false] rfl rfl (any_of HT_.out (by kernel_rfl)) (fun _ _ _ h => h) (Or.inl ⟨by rfl, ?_⟩) ?_ ?_
              rotate_left
              · intro w'
                go_simp
                with_reducible rfl
              rotate_left
              · simp only [Act.put, List.setIfInBounds_toArray, List.set_cons_zero, List.set_cons_succ, i64_w, i32_w]
                rfl
              refine take_ (i := 5) (N := some 120) (v := ?_) (a' := ?_) #[true, false, false, true, true, true, false, false] rfl rfl (take_of HT_.out (by kernel_rfl)) (fun _ _ _ h => h) (Or.inl ⟨by rfl, ?_⟩) hHeld ?_ ?_
              rotate_left
              · intro w' hS_
                obtain ⟨s0, s1⟩ := hS_
                go_simp
                with_reducible rfl
              rotate_left
              · simp only [Act.put, List.setIfInBounds_toArray, List.set_cons_zero, List.set_cons_succ, i64_w, i32_w]
                rfl
              refine pure_ (i := 6) (N := some 121) (v := ?_) (a' := ?_) #[true, false, false, true, true, true, true, false] rfl rfl (any_of HT_.out (by kernel_rfl)) (fun _ _ _ h => h) (Or.inl ⟨by rfl, ?_⟩) ?_ ?_
              rotate_left
              · intro w'
                go_simp
                with_reducible rfl
              rotate_left
              · simp only [Act.put, List.setIfInBounds_toArray, List.set_cons_zero, List.set_cons_succ, i64_w, i32_w]
                rfl
              refine one_ (i := 1) (N := some 116) #[true, true, false, true, true, true, true, false] rfl rfl (one_of HT_.out (by kernel_rfl)) (by decide) (fun K hK => ?_)
              refine goes_ Try.func15 (by kernel_rfl) rfl #[.pointer (some ⟨g, 0, none⟩)] (by rfl) rfl rfl (by (try simp only [List.map_toArray, List.map_cons, List.map_nil]); first | done | rfl) ?_
              refine (HWC _ (HIQ.out.drew)).mono ?_
              rintro e wy ⟨vy, rfl, hRy, hby⟩
              obtain ⟨Ay, ny, rfl⟩ := Kd.R_slice hRy
              have HBY := Aside0.mk hby
              have hd3 : wy.cell? ⟨w3.heap.size, 0, none⟩ = some (.slice AN N.length cN) := (hby.cell (p := ⟨w3.heap.size, 0, none⟩) hl3).trans hq3
              have hdo : wy.cell? ⟨wo.heap.size, 0, none⟩ = some (.int .i64 (a : Int)) := (hby.cell (p := ⟨wo.heap.size, 0, none⟩) hl8).trans hq8
              clear hRy hby
              refine ⟨_, rfl, ?_⟩
              refine hK.out _ _ ⟨hd3, hdo⟩ (fun hHeld => ?_)
              clear hK K
              refine norm_ (a' := ?_) ?_ ?_
              rotate_left
              · show Act.put _ (some 116) _ = _
                simp only [Act.put, List.setIfInBounds_toArray, List.set_cons_zero, List.set_cons_succ, i64_w, i32_w]
                rfl
              refine pure_ (i := 2) (N := some 117) (v := ?_) (a' := ?_) #[true, true, true, true, true, true, true, false] rfl rfl (any_of HT_.out (by kernel_rfl)) (fun _ _ _ h => h) (Or.inl ⟨by rfl, ?_⟩) ?_ ?_
              rotate_left
              · intro w'
                go_simp
                with_reducible rfl
              rotate_left
              · simp only [Act.put, List.setIfInBounds_toArray, List.set_cons_zero, List.set_cons_succ, i64_w, i32_w]
                rfl
              refine pure_ (i := 7) (N := some 122) (v := ?_) (a' := ?_) #[true, true, true, true, true, true, true, true] rfl rfl (any_of HT_.out (by kernel_rfl)) (fun _ _ _ h => h) (Or.inl ⟨by rfl, ?_⟩) ?_ ?_
              rotate_left
              · intro w'
                go_simp
                with_reducible rfl
              rotate_left
              · simp only [Act.put, List.setIfInBounds_toArray, List.set_cons_zero, List.set_cons_succ, i64_w, i32_w]
                rfl
              refine done_ (done_of HT_.out (by kernel_rfl)) ?_
              go_wp2
              exact ⟨⟨i + 1, a, by omega, by omega, by omega, by rw [show ((i : Int) + 1) = ((i + 1 : Nat) : Int) by omega], ⟨(HIQ.out.drew).below HBY.out⟩, ⟨(below_drew1 HBQ.out).trans (HBY.out.mono HBQ.out.size)⟩, ⟨Kd.R_below (Kd.R_drew HRQ.out) HBY.out⟩, ⟨(HBY.out.block _ hl3).trans H3Q.out⟩, ⟨(HBY.out.block _ hl8).trans H8Q.out⟩⟩, by simp [intOf]; omega⟩
          · have haN2 : a = N.length := by omega
            cases b with
            | true =>
              obtain ⟨q1, q2, q3⟩ := first_no HG.out a true (.inr (by omega))
              have HFR := Aside0.mk (first_row (w := w) (W5 := (wr.alloc (.cells #[.bool true] 4)).alloc (.cells #[.int .i64 0] 3)) (g := g) (wr.heap.size + 1) wr.heap.size wo.heap.size w3.heap.size cN BS AN true false ⟨#[]⟩ a (a) 0 HG.out
                ((HI.out.alloc _).alloc _) (below_alloc (below_alloc HB.out _) _) (by have := HB.out.size; omega)
                (by have := heap_alloc_new (wr.alloc (.cells #[.bool true] 4)) (.cells #[.int .i64 0] 3); simpa using this)
                ((Below.heap_alloc _ _ _ (by simp)).trans (heap_alloc_new wr _))
                ((Below.heap_alloc _ _ _ (by have := blk_lt H8.out; simp; omega)).trans ((Below.heap_alloc _ _ _ (blk_lt H8.out)).trans H8.out))
                ((Below.heap_alloc _ _ _ (by have := blk_lt H3.out; simp; omega)).trans ((Below.heap_alloc _ _ _ (blk_lt H3.out)).trans H3.out))
                (by have := blk_lt H8.out; omega) (Kd.R_alloc (Kd.R_alloc HR.out _) _) q1 q2 q3 (.inr ⟨by omega, rfl⟩))
              have HWA := Aside0.mk (fun W (h : IsS66 w W g ⟨(N.drop (a)).map mkW⟩) => waits_raw (by show ((N.drop (a)).map mkW).length < _; simp; omega) h)
              rw [show namesOf (DS.mk ((N.drop (a)).map mkW)).row false = N.drop (a) from mkW_waits _] at HWA
              have hdl : ((N.drop (a)).length : Int) = (N.length : Int) - (a : Int) := by simp; omega
              have HWB : Aside0 (∃ ND : List ByteArray, (ND.length : Int) = (N.length : Int) - (a : Int) ∧ ∀ W, IsS66 w W g ⟨(N.drop (a)).map mkW⟩ → Calls Try.prog 15 #[.pointer (some ⟨g, 0, none⟩)] W fun e w' => ∃ v1_ : Value, e = .returned v1_ ∧ Kd.R Kd.string 9 w' W.heap.size (fun _ => True) v1_ ND ∧ Below W.heap.size W w') := ⟨⟨_, hdl, HWA.out⟩⟩
              clear hdl HWA
              have h0a : (0 : Int) ≤ (a : Int) := by omega
              have hacmp : decide ((a : Int) < (N.length : Int)) = false := decide_eq_false (by omega)
              have hacmp2 : decide (a < N.length) = false := decide_eq_false (by omega)
              have hmin : (if 1 < (N.length : Int) - (a : Int) then 1 else (N.length : Int) - (a : Int)) = 0 := by split <;> omega
              have hwr : wrap64 ((N.length : Int) - (a : Int)) = (N.length : Int) - (a : Int) := by unfold wrap64; omega
              have hwr0 : wrap64 0 = 0 := by unfold wrap64; omega
              clear q1 q2 q3
              go_upto_region 17 with (first
                | (go_at_call 25; refine HFR.out.mono ?_; rintro e wz ⟨rfl, hiz, hbz, h0z, h1z, h2z, h3z, hrz⟩; have HIZ := Aside0.mk hiz; have HBZ := Aside0.mk hbz; have H0Z := Aside0.mk h0z; have H1Z := Aside0.mk h1z; have H8Z := Aside0.mk h2z; have H3Z := Aside0.mk h3z; have HRZ := Aside0.mk hrz; clear hiz hbz h0z h1z h2z h3z hrz))
              have hz0 : wz.cell? ⟨wr.heap.size + 1, 0, none⟩ = some (.int .i64 0) := (blk_cell H0Z.out 0).trans rfl
              have hz1 : wz.cell? ⟨wr.heap.size, 0, none⟩ = some (.bool true) := (blk_cell H1Z.out 0).trans rfl
              have hz8 : wz.cell? ⟨wo.heap.size, 0, none⟩ = some (.int .i64 a) := (blk_cell H8Z.out 0).trans rfl
              have hz8f : wz.frozen? ⟨wo.heap.size, 0, none⟩ = false := blk_frozen H8Z.out 0
              have hz3 : wz.cell? ⟨w3.heap.size, 0, none⟩ = some (.slice AN N.length cN) := (blk_cell H3Z.out 0).trans rfl
              have h38 : w3.heap.size ≠ wo.heap.size := by
                intro e
                have h1_ := H3Z.out
                have h2_ := H8Z.out
                rw [e, h2_] at h1_
                injection h1_ with h1_
                injection h1_ with _ h1_
                cases h1_
              go_upto_region 21 with fail
              have HIQ := HIZ
              have HBQ := HBZ
              have HRQ := HRZ
              have H3Q := H3Z
              have H8Q := H8Z
              have hq3 : wz.cell? ⟨w3.heap.size, 0, none⟩ = some (.slice AN N.length cN) := (blk_cell H3Q.out 0).trans rfl
              have hq8 : wz.cell? ⟨wo.heap.size, 0, none⟩ = some (.int .i64 (a : Int)) := (blk_cell H8Q.out 0).trans rfl
              have hl3 := blk_lt H3Q.out
              have hl8 := blk_lt H8Q.out
              obtain ⟨ND, hND, HWC⟩ := HWB.out
              refine start_ (n := 8) (S := fun w' => w'.cell? ⟨w3.heap.size, 0, none⟩ = some (.slice AN N.length cN) ∧ w'.cell? ⟨wo.heap.size, 0, none⟩ = some (.int .i64 (a : Int))) (ds := []) #[false, false, false, false, false, false, false, false] (by kernel_rfl) rfl rfl ⟨hq3, hq8⟩ (fun hHeld => ?_); refine with_tab roww.tab21 (fun HT_ => ?_)
              refine pure_ (i := 0) (N := some 115) (v := ?_) (a' := ?_) #[true, false, false, false, false, false, false, false] rfl rfl (any_of HT_.out (by kernel_rfl)) (fun _ _ _ h => h) (Or.inl ⟨by rfl, ?_⟩) ?_ ?_
              rotate_left
              · intro w'
                go_simp
                with_reducible rfl
              rotate_left
              · simp only [Act.put, List.setIfInBounds_toArray, List.set_cons_zero, List.set_cons_succ, i64_w, i32_w]
                rfl
              refine take_ (i := 3) (N := some 118) (v := ?_) (a' := ?_) #[true, false, false, true, false, false, false, false] rfl rfl (take_of HT_.out (by kernel_rfl)) (fun _ _ _ h => h) (Or.inl ⟨by rfl, ?_⟩) hHeld ?_ ?_
              rotate_left
              · intro w' hS_
                obtain ⟨s0, s1⟩ := hS_
                go_simp
                with_reducible rfl
              rotate_left
              · simp only [Act.put, List.setIfInBounds_toArray, List.set_cons_zero, List.set_cons_succ, i64_w, i32_w]
                rfl
              refine pure_ (i := 4) (N := some 119) (v := ?_) (a' := ?_) #[true, false, false, true, true, false, false, false] rfl rfl (any_of HT_.out (by kernel_rfl)) (fun _ _ _ h => h) (Or.inl ⟨by rfl, ?_⟩) ?_ ?_
              rotate_left
              · intro w'
                go_simp
                with_reducible rfl
              rotate_left
              · simp only [Act.put, List.setIfInBounds_toArray, List.set_cons_zero, List.set_cons_succ, i64_w, i32_w]
                rfl
              refine take_ (i := 5) (N := some 120) (v := ?_) (a' := ?_) #[true, false, false, true, true, true, false, false] rfl rfl (take_of HT_.out (by kernel_rfl)) (fun _ _ _ h => h) (Or.inl ⟨by rfl, ?_⟩) hHeld ?_ ?_
              rotate_left
              · intro w' hS_
                obtain ⟨s0, s1⟩ := hS_
                go_simp
                with_reducible rfl
              rotate_left
              · simp only [Act.put, List.setIfInBounds_toArray, List.set_cons_zero, List.set_cons_succ, i64_w, i32_w]
                rfl
              refine pure_ (i := 6) (N := some 121) (v := ?_) (a' := ?_) #[true, false, false, true, true, true, true, false] rfl rfl (any_of HT_.out (by kernel_rfl)) (fun _ _ _ h => h) (Or.inl ⟨by rfl, ?_⟩) ?_ ?_
              rotate_left
              · intro w'
                go_simp
                with_reducible rfl
              rotate_left
              · simp only [Act.put, List.setIfInBounds_toArray, List.set_cons_zero, List.set_cons_succ, i64_w, i32_w]
                rfl
              refine one_ (i := 1) (N := some 116) #[true, true, false, true, true, true, true, false] rfl rfl (one_of HT_.out (by kernel_rfl)) (by decide) (fun K hK => ?_)
              refine goes_ Try.func15 (by kernel_rfl) rfl #[.pointer (some ⟨g, 0, none⟩)] (by rfl) rfl rfl (by (try simp only [List.map_toArray, List.map_cons, List.map_nil]); first | done | rfl) ?_
              refine (HWC _ (HIQ.out.drew)).mono ?_
              rintro e wy ⟨vy, rfl, hRy, hby⟩
              obtain ⟨Ay, ny, rfl⟩ := Kd.R_slice hRy
              have HBY := Aside0.mk hby
              have hd3 : wy.cell? ⟨w3.heap.size, 0, none⟩ = some (.slice AN N.length cN) := (hby.cell (p := ⟨w3.heap.size, 0, none⟩) hl3).trans hq3
              have hdo : wy.cell? ⟨wo.heap.size, 0, none⟩ = some (.int .i64 (a : Int)) := (hby.cell (p := ⟨wo.heap.size, 0, none⟩) hl8).trans hq8
              clear hRy hby
              refine ⟨_, rfl, ?_⟩
              refine hK.out _ _ ⟨hd3, hdo⟩ (fun hHeld => ?_)
              clear hK K
              refine norm_ (a' := ?_) ?_ ?_
              rotate_left
              · show Act.put _ (some 116) _ = _
                simp only [Act.put, List.setIfInBounds_toArray, List.set_cons_zero, List.set_cons_succ, i64_w, i32_w]
                rfl
              refine pure_ (i := 2) (N := some 117) (v := ?_) (a' := ?_) #[true, true, true, true, true, true, true, false] rfl rfl (any_of HT_.out (by kernel_rfl)) (fun _ _ _ h => h) (Or.inl ⟨by rfl, ?_⟩) ?_ ?_
              rotate_left
              · intro w'
                go_simp
                with_reducible rfl
              rotate_left
              · simp only [Act.put, List.setIfInBounds_toArray, List.set_cons_zero, List.set_cons_succ, i64_w, i32_w]
                rfl
              refine pure_ (i := 7) (N := some 122) (v := ?_) (a' := ?_) #[true, true, true, true, true, true, true, true] rfl rfl (any_of HT_.out (by kernel_rfl)) (fun _ _ _ h => h) (Or.inl ⟨by rfl, ?_⟩) ?_ ?_
              rotate_left
              · intro w'
                go_simp
                with_reducible rfl
              rotate_left
              · simp only [Act.put, List.setIfInBounds_toArray, List.set_cons_zero, List.set_cons_succ, i64_w, i32_w]
                rfl
              refine done_ (done_of HT_.out (by kernel_rfl)) ?_
              go_wp2
              exact ⟨⟨i + 1, a, by omega, by omega, by omega, by rw [show ((i : Int) + 1) = ((i + 1 : Nat) : Int) by omega], ⟨(HIQ.out.drew).below HBY.out⟩, ⟨(below_drew1 HBQ.out).trans (HBY.out.mono HBQ.out.size)⟩, ⟨Kd.R_below (Kd.R_drew HRQ.out) HBY.out⟩, ⟨(HBY.out.block _ hl3).trans H3Q.out⟩, ⟨(HBY.out.block _ hl8).trans H8Q.out⟩⟩, by simp [intOf]; omega⟩
            | false =>
              obtain ⟨q1, q2, q3⟩ := first_no HG.out a false (.inr (by omega))
              have HFR := Aside0.mk (first_row (w := w) (W5 := (wr.alloc (.cells #[.bool false] 4)).alloc (.cells #[.int .i64 0] 3)) (g := g) (wr.heap.size + 1) wr.heap.size wo.heap.size w3.heap.size cN BS AN false false ⟨#[]⟩ a (a) 0 HG.out
                ((HI.out.alloc _).alloc _) (below_alloc (below_alloc HB.out _) _) (by have := HB.out.size; omega)
                (by have := heap_alloc_new (wr.alloc (.cells #[.bool false] 4)) (.cells #[.int .i64 0] 3); simpa using this)
                ((Below.heap_alloc _ _ _ (by simp)).trans (heap_alloc_new wr _))
                ((Below.heap_alloc _ _ _ (by have := blk_lt H8.out; simp; omega)).trans ((Below.heap_alloc _ _ _ (blk_lt H8.out)).trans H8.out))
                ((Below.heap_alloc _ _ _ (by have := blk_lt H3.out; simp; omega)).trans ((Below.heap_alloc _ _ _ (blk_lt H3.out)).trans H3.out))
                (by have := blk_lt H8.out; omega) (Kd.R_alloc (Kd.R_alloc HR.out _) _) q1 q2 q3 (.inr ⟨by omega, rfl⟩))
              have HWA := Aside0.mk (fun W (h : IsS66 w W g ⟨(N.drop (a)).map mkW⟩) => waits_raw (by show ((N.drop (a)).map mkW).length < _; simp; omega) h)
              rw [show namesOf (DS.mk ((N.drop (a)).map mkW)).row false = N.drop (a) from mkW_waits _] at HWA
              have hdl : ((N.drop (a)).length : Int) = (N.length : Int) - (a : Int) := by simp; omega
              have HWB : Aside0 (∃ ND : List ByteArray, (ND.length : Int) = (N.length : Int) - (a : Int) ∧ ∀ W, IsS66 w W g ⟨(N.drop (a)).map mkW⟩ → Calls Try.prog 15 #[.pointer (some ⟨g, 0, none⟩)] W fun e w' => ∃ v1_ : Value, e = .returned v1_ ∧ Kd.R Kd.string 9 w' W.heap.size (fun _ => True) v1_ ND ∧ Below W.heap.size W w') := ⟨⟨_, hdl, HWA.out⟩⟩
              clear hdl HWA
              have h0a : (0 : Int) ≤ (a : Int) := by omega
              have hacmp : decide ((a : Int) < (N.length : Int)) = false := decide_eq_false (by omega)
              have hacmp2 : decide (a < N.length) = false := decide_eq_false (by omega)
              have hmin : (if 1 < (N.length : Int) - (a : Int) then 1 else (N.length : Int) - (a : Int)) = 0 := by split <;> omega
              have hwr : wrap64 ((N.length : Int) - (a : Int)) = (N.length : Int) - (a : Int) := by unfold wrap64; omega
              have hwr0 : wrap64 0 = 0 := by unfold wrap64; omega
              clear q1 q2 q3
              go_upto_region 17 with (first
                | (go_at_call 25; refine HFR.out.mono ?_; rintro e wz ⟨rfl, hiz, hbz, h0z, h1z, h2z, h3z, hrz⟩; have HIZ := Aside0.mk hiz; have HBZ := Aside0.mk hbz; have H0Z := Aside0.mk h0z; have H1Z := Aside0.mk h1z; have H8Z := Aside0.mk h2z; have H3Z := Aside0.mk h3z; have HRZ := Aside0.mk hrz; clear hiz hbz h0z h1z h2z h3z hrz))
              have hz0 : wz.cell? ⟨wr.heap.size + 1, 0, none⟩ = some (.int .i64 0) := (blk_cell H0Z.out 0).trans rfl
              have hz1 : wz.cell? ⟨wr.heap.size, 0, none⟩ = some (.bool false) := (blk_cell H1Z.out 0).trans rfl
              have hz8 : wz.cell? ⟨wo.heap.size, 0, none⟩ = some (.int .i64 a) := (blk_cell H8Z.out 0).trans rfl
              have hz8f : wz.frozen? ⟨wo.heap.size, 0, none⟩ = false := blk_frozen H8Z.out 0
              have hz3 : wz.cell? ⟨w3.heap.size, 0, none⟩ = some (.slice AN N.length cN) := (blk_cell H3Z.out 0).trans rfl
              have h38 : w3.heap.size ≠ wo.heap.size := by
                intro e
                have h1_ := H3Z.out
                have h2_ := H8Z.out
                rw [e, h2_] at h1_
                injection h1_ with h1_
                injection h1_ with _ h1_
                cases h1_
              go_upto_region 21 with fail
              have HIQ := HIZ
              have HBQ := HBZ
              have HRQ := HRZ
              have H3Q := H3Z
              have H8Q := H8Z
              have hq3 : wz.cell? ⟨w3.heap.size, 0, none⟩ = some (.slice AN N.length cN) := (blk_cell H3Q.out 0).trans rfl
              have hq8 : wz.cell? ⟨wo.heap.size, 0, none⟩ = some (.int .i64 (a : Int)) := (blk_cell H8Q.out 0).trans rfl
              have hl3 := blk_lt H3Q.out
              have hl8 := blk_lt H8Q.out
              obtain ⟨ND, hND, HWC⟩ := HWB.out
              refine start_ (n := 8) (S := fun w' => w'.cell? ⟨w3.heap.size, 0, none⟩ = some (.slice AN N.length cN) ∧ w'.cell? ⟨wo.heap.size, 0, none⟩ = some (.int .i64 (a : Int))) (ds := []) #[false, false, false, false, false, false, false, false] (by kernel_rfl) rfl rfl ⟨hq3, hq8⟩ (fun hHeld => ?_); refine with_tab roww.tab21 (fun HT_ => ?_)
              refine pure_ (i := 0) (N := some 115) (v := ?_) (a' := ?_) #[true, false, false, false, false, false, false, false] rfl rfl (any_of HT_.out (by kernel_rfl)) (fun _ _ _ h => h) (Or.inl ⟨by rfl, ?_⟩) ?_ ?_
              rotate_left
              · intro w'
                go_simp
                with_reducible rfl
              rotate_left
              · simp only [Act.put, List.setIfInBounds_toArray, List.set_cons_zero, List.set_cons_succ, i64_w, i32_w]
                rfl
              refine take_ (i := 3) (N := some 118) (v := ?_) (a' := ?_) #[true, false, false, true, false, false, false, false] rfl rfl (take_of HT_.out (by kernel_rfl)) (fun _ _ _ h => h) (Or.inl ⟨by rfl, ?_⟩) hHeld ?_ ?_
              rotate_left
              · intro w' hS_
                obtain ⟨s0, s1⟩ := hS_
                go_simp
                with_reducible rfl
              rotate_left
              · simp only [Act.put, List.setIfInBounds_toArray, List.set_cons_zero, List.set_cons_succ, i64_w, i32_w]
                rfl
              refine pure_ (i := 4) (N := some 119) (v := ?_) (a' := ?_) #[true, false, false, true, true, false, false, false] rfl rfl (any_of HT_.out (by kernel_rfl)) (fun _ _ _ h => h) (Or.inl ⟨by rfl, ?_⟩) ?_ ?_
              rotate_left
              · intro w'
                go_simp
                with_reducible rfl
              rotate_left
              · simp only [Act.put, List.setIfInBounds_toArray, List.set_cons_zero, List.set_cons_succ, i64_w, i32_w]
                rfl
              refine take_ (i := 5) (N := some 120) (v := ?_) (a' := ?_) #[true, false, false, true, true, true, false, false] rfl rfl (take_of HT_.out (by kernel_rfl)) (fun _ _ _ h => h) (Or.inl ⟨by rfl, ?_⟩) hHeld ?_ ?_
              rotate_left
              · intro w' hS_
                obtain ⟨s0, s1⟩ := hS_
                go_simp
                with_reducible rfl
              rotate_left
              · simp only [Act.put, List.setIfInBounds_toArray, List.set_cons_zero, List.set_cons_succ, i64_w, i32_w]
                rfl
              refine pure_ (i := 6) (N := some 121) (v := ?_) (a' := ?_) #[true, false, false, true, true, true, true, false] rfl rfl (any_of HT_.out (by kernel_rfl)) (fun _ _ _ h => h) (Or.inl ⟨by rfl, ?_⟩) ?_ ?_
              rotate_left
              · intro w'
                go_simp
                with_reducible rfl
              rotate_left
              · simp only [Act.put, List.setIfInBounds_toArray, List.set_cons_zero, List.set_cons_succ, i64_w, i32_w]
                rfl
              refine one_ (i := 1) (N := some 116) #[true, true, false, true, true, true, true, false] rfl rfl (one_of HT_.out (by kernel_rfl)) (by decide) (fun K hK => ?_)
              refine goes_ Try.func15 (by kernel_rfl) rfl #[.pointer (some ⟨g, 0, none⟩)] (by rfl) rfl rfl (by (try simp only [List.map_toArray, List.map_cons, List.map_nil]); first | done | rfl) ?_
              refine (HWC _ (HIQ.out.drew)).mono ?_
              rintro e wy ⟨vy, rfl, hRy, hby⟩
              obtain ⟨Ay, ny, rfl⟩ := Kd.R_slice hRy
              have HBY := Aside0.mk hby
              have hd3 : wy.cell? ⟨w3.heap.size, 0, none⟩ = some (.slice AN N.length cN) := (hby.cell (p := ⟨w3.heap.size, 0, none⟩) hl3).trans hq3
              have hdo : wy.cell? ⟨wo.heap.size, 0, none⟩ = some (.int .i64 (a : Int)) := (hby.cell (p := ⟨wo.heap.size, 0, none⟩) hl8).trans hq8
              clear hRy hby
              refine ⟨_, rfl, ?_⟩
              refine hK.out _ _ ⟨hd3, hdo⟩ (fun hHeld => ?_)
              clear hK K
              refine norm_ (a' := ?_) ?_ ?_
              rotate_left
              · show Act.put _ (some 116) _ = _
                simp only [Act.put, List.setIfInBounds_toArray, List.set_cons_zero, List.set_cons_succ, i64_w, i32_w]
                rfl
              refine pure_ (i := 2) (N := some 117) (v := ?_) (a' := ?_) #[true, true, true, true, true, true, true, false] rfl rfl (any_of HT_.out (by kernel_rfl)) (fun _ _ _ h => h) (Or.inl ⟨by rfl, ?_⟩) ?_ ?_
              rotate_left
              · intro w'
                go_simp
                with_reducible rfl
              rotate_left
              · simp only [Act.put, List.setIfInBounds_toArray, List.set_cons_zero, List.set_cons_succ, i64_w, i32_w]
                rfl
              refine pure_ (i := 7) (N := some 122) (v := ?_) (a' := ?_) #[true, true, true, true, true, true, true, true] rfl rfl (any_of HT_.out (by kernel_rfl)) (fun _ _ _ h => h) (Or.inl ⟨by rfl, ?_⟩) ?_ ?_
              rotate_left
              · intro w'
                go_simp
                with_reducible rfl
              rotate_left
              · simp only [Act.put, List.setIfInBounds_toArray, List.set_cons_zero, List.set_cons_succ, i64_w, i32_w]
                rfl
              refine done_ (done_of HT_.out (by kernel_rfl)) ?_
              go_wp2
              exact ⟨⟨i + 1, a, by omega, by omega, by omega, by rw [show ((i : Int) + 1) = ((i + 1 : Nat) : Int) by omega], ⟨(HIQ.out.drew).below HBY.out⟩, ⟨(below_drew1 HBQ.out).trans (HBY.out.mono HBQ.out.size)⟩, ⟨Kd.R_below (Kd.R_drew HRQ.out) HBY.out⟩, ⟨(HBY.out.block _ hl3).trans H3Q.out⟩, ⟨(HBY.out.block _ hl8).trans H8Q.out⟩⟩, by simp [intOf]; omega⟩
        · have HBE := Aside0.mk HB.out
          by_cases h1 : i < l1.length
          · have hi2 : i = 30 := by omega
            have hi1b : (i : Int) < (l1.length : Int) := by omega
            have hi2b : decide ((i : Int) < 30) = false := decide_eq_false (by omega)
            have hi2c : ((i : Int) < 30) = False := eq_false (by omega)
            subst hi2
            clear hi
            go_wp2
            go_ret
            exact ⟨rfl, HBE.out⟩
          · have hi1 : i = l1.length := by omega
            subst hi1
            clear hi h1 hil
            go_wp2
            go_ret
            exact ⟨rfl, HBE.out⟩
end Go.Proofs.Ytmkijdkfogebjaa.Man
