/-
  The fleet: contracts of its functions, proved by walking them, and plain facts, several texts in one (Pd, PlA, PlB, PlC, Ck, Fk, Fl). Conditions: none.
-/
import Derived.Test.YtmlmiocomlehgaaB2
import Derived.Test.YtmlmiocomlehgaaB3
import Derived.Maps.OwnSet
import Derived.Maps.OwnOps
import Derived.Maps.Ext
import Derived.Test.YtmlmiocomlehgaaB4
import Derived.Test.YtmlmiocomlehgaaB5
set_option linter.unusedVariables false
set_option linter.unusedSimpArgs false
namespace Go.Proofs.Ytmlmiocomlehgaa.Man
open Go.RowKit Go.Proofs.YtmlmiocomlehgaaW.PrintWords Go.Proofs.YtmlmiocomlehgaaW.PrintLast Go.Proofs.Ytmlmiocomlehgaa.PA Go.Proofs.Ytmlmiocomlehgaa.PF Go.Proofs.Ytmlmiocomlehgaa.Hid Go.Proofs.Ytmlmiocomlehgaa.Na
def hasB (x : ByteArray) (l : List ByteArray) : Bool := l.any (fun y => decide (y = x))
theorem hasB_iff (x : ByteArray) (l : List ByteArray) : hasB x l = true ↔ x ∈ l := by
  unfold hasB
  rw [List.any_eq_true]
  constructor
  · rintro ⟨y, hy, h⟩
    rw [← of_decide_eq_true h]
    exact hy
  · intro h
    exact ⟨x, h, by simp⟩
theorem hasB_no (x : ByteArray) (l : List ByteArray) (h : x ∉ l) : hasB x l = false := by
  rw [Bool.eq_false_iff]
  exact fun e => h ((hasB_iff x l).1 e)
theorem has_loop (x : ByteArray) (l : List ByteArray) (hm : l.length ≤ 9223372036854775807) (d : Nat) : ∀ (k j : Nat), j ≤ l.length → l.length - j = d → d < k → hostlerref09_Has.l0 k l x (j : Int) = some (hasB x (l.drop j)) := by
  induction d with
  | zero =>
    intro k j hj hd hk
    obtain ⟨k, rfl⟩ : ∃ m, k = m + 1 := ⟨k - 1, by omega⟩
    simp only [hostlerref09_Has.l0]
    rw [if_neg (by omega), List.drop_eq_nil_of_le (by omega)]
    rfl
  | succ d ih =>
    intro k j hj hd hk
    obtain ⟨k, rfl⟩ : ∃ m, k = m + 1 := ⟨k - 1, by omega⟩
    have hlt : j < l.length := by omega
    simp only [hostlerref09_Has.l0]
    rw [if_pos (by omega), if_pos (by omega), List.drop_eq_getElem_cons hlt]
    have e : rdOf ByteArray.empty l (j : Int) = l[j] := by simp [rdOf, List.getD, hlt]
    rw [e]
    have ih' := ih k (j + 1) (by omega) (by omega) (by omega)
    rw [show ((j + 1 : Nat) : Int) = (j : Int) + 1 by omega] at ih'
    have hw : wrap64 ((j : Int) + 1) = (j : Int) + 1 := by unfold wrap64; omega
    rw [hw, ih']
    by_cases c : l[j] = x
    · rw [if_pos (tl_inj.2 c)]
      simp [hasB, c]
    · rw [if_neg (fun h => c (tl_inj.1 h))]
      generalize List.drop (j + 1) l = r
      simp [hasB, c]
theorem has_some (x : ByteArray) (l : List ByteArray) (hm : l.length ≤ 9223372036854775807) : hostlerref09_Has.f (l.length + 1) l x = some (hasB x l) := by
  have := has_loop x l hm l.length (l.length + 1) 0 (by omega) (by omega) (by omega)
  simpa [hostlerref09_Has.f] using this
theorem has_raw (x : ByteArray) (l : List ByteArray) (A : Option Addr) (c : Nat) (w : World) (hC : Kd.C Kd.string w A l.length l) (hc : l.length ≤ c) : Calls Try.prog 19 #[.slice A l.length c, .string x] w fun e w' => e = .returned (.bool (hasB x l)) ∧ Drawn0 w w' :=
  hostlerref09_Has.calls (l.length + 1) A c l x _ w hC hc (has_some x l hC.2.1)
theorem same_loop (a b : List ByteArray) (hl : a.length = b.length) (hm : a.length ≤ 9223372036854775807) (d : Nat) : ∀ (k j : Nat), j ≤ a.length → a.length - j = d → d < k → hostlerref09_Same.l0 k a b (j : Int) = some (decide (a.drop j = b.drop j)) := by
  induction d with
  | zero =>
    intro k j hj hd hk
    obtain ⟨k, rfl⟩ : ∃ m, k = m + 1 := ⟨k - 1, by omega⟩
    simp only [hostlerref09_Same.l0]
    rw [if_neg (by omega), List.drop_eq_nil_of_le (by omega), List.drop_eq_nil_of_le (by omega)]
    simp
  | succ d ih =>
    intro k j hj hd hk
    obtain ⟨k, rfl⟩ : ∃ m, k = m + 1 := ⟨k - 1, by omega⟩
    have hlt : j < a.length := by omega
    have hlt2 : j < b.length := by omega
    simp only [hostlerref09_Same.l0]
    rw [if_pos (by omega), if_pos (by omega), if_pos (by omega)]
    have d1 := List.drop_eq_getElem_cons hlt
    have d2 := List.drop_eq_getElem_cons hlt2
    have e : rdOf ByteArray.empty a (j : Int) = a[j] := by simp [rdOf, List.getD, hlt]
    have e2 : rdOf ByteArray.empty b (j : Int) = b[j] := by simp [rdOf, List.getD, hlt2]
    rw [e, e2]
    have ih' := ih k (j + 1) (by omega) (by omega) (by omega)
    rw [show ((j + 1 : Nat) : Int) = (j : Int) + 1 by omega] at ih'
    have hw : wrap64 ((j : Int) + 1) = (j : Int) + 1 := by unfold wrap64; omega
    rw [hw, ih']
    by_cases c : a[j] = b[j]
    · rw [if_pos (tl_inj.2 c), d1, d2, c]
      generalize List.drop (j + 1) a = r
      generalize List.drop (j + 1) b = q
      simp
    · rw [if_neg (fun h => c (tl_inj.1 h)), d1, d2]
      generalize List.drop (j + 1) a = r
      generalize List.drop (j + 1) b = q
      simp [c]
theorem same_some (a b : List ByteArray) (hm : a.length ≤ 9223372036854775807) : hostlerref09_Same.f (a.length + 1) a b = some (decide (a = b)) := by
  unfold hostlerref09_Same.f
  by_cases h : a.length = b.length
  · rw [if_pos (by omega)]
    have := same_loop a b h hm a.length (a.length + 1) 0 (by omega) (by omega) (by omega)
    simpa using this
  · rw [if_neg (by omega), decide_eq_false (fun e => h (by rw [e]))]
theorem same_raw (a b : List ByteArray) (A B : Option Addr) (c d : Nat) (w : World) (hA : Kd.C Kd.string w A a.length a) (ha : a.length ≤ c) (hB : Kd.C Kd.string w B b.length b) (hb : b.length ≤ d) : Calls Try.prog 18 #[.slice A a.length c, .slice B b.length d] w fun e w' => e = .returned (.bool (decide (a = b))) ∧ Drawn0 w w' :=
  hostlerref09_Same.calls (a.length + 1) A c a B d b _ w hA ha hB hb (same_some a b hA.2.1)
/-! #### places -/
theorem place_neg (nm : ByteArray) : ∀ (row : List S88) (j : Int), 0 ≤ j → (placeOf row nm j < 0 ↔ nm ∉ row.map (·.f0))
  | [], j, hj => by simp [placeOf]
  | x :: l, j, hj => by
    unfold placeOf
    by_cases c : x.f0 = nm
    · rw [if_pos (by rw [beq_iff_eq]; exact tl_inj.2 c)]
      simp [c]
      omega
    · rw [if_neg (by rw [beq_iff_eq]; exact fun h => c (tl_inj.1 h)), place_neg nm l (j + 1) (by omega)]
      simp [Ne.symm c]
theorem place_at (nm : ByteArray) : ∀ (row : List S88) (j : Int), 0 ≤ j → 0 ≤ placeOf row nm j → ∃ i : Nat, placeOf row nm j = j + i ∧ ∃ h : i < row.length, row[i].f0 = nm
  | [], j, hj, h => by simp [placeOf] at h
  | x :: l, j, hj, h => by
    unfold placeOf at h ⊢
    by_cases c : x.f0 = nm
    · rw [if_pos (by rw [beq_iff_eq]; exact tl_inj.2 c)]
      exact ⟨0, by simp, by simp, by simpa using c⟩
    · rw [if_neg (by rw [beq_iff_eq]; exact fun h => c (tl_inj.1 h))] at h ⊢
      obtain ⟨i, h1, h2, h3⟩ := place_at nm l (j + 1) (by omega) h
      exact ⟨i + 1, by rw [h1]; omega, by simpa using h2, by simpa using h3⟩
/-- Ending a name strikes it. -/
theorem endRow_eq (nm : ByteArray) : ∀ (row : List S88), (row.map (·.f0)).Nodup → endRow row nm = row.filter (fun x => !decide (x.f0 = nm))
  | row, hn => by
    unfold endRow
    by_cases h : placeOf row nm 0 < 0
    · rw [if_pos h]
      have := (place_neg nm row 0 (by omega)).1 h
      rw [eq_comm, List.filter_eq_self]
      intro x hx
      have hx2 : x.f0 ≠ nm := fun e => this (by rw [← e]; exact List.mem_map_of_mem hx)
      simp [hx2]
    · rw [if_neg h]
      obtain ⟨i, h1, h2, h3⟩ := place_at nm row 0 (by omega) (by omega)
      have hi : (placeOf row nm 0).toNat = i := by omega
      rw [hi]
      have hsplit : row = row.take i ++ row[i] :: row.drop (i + 1) := by
        rw [← List.drop_eq_getElem_cons h2, List.take_append_drop]
      have hnd := hn
      rw [hsplit, List.map_append, List.map_cons, List.nodup_append] at hnd
      obtain ⟨n1, n2, n3⟩ := hnd
      rw [List.nodup_cons] at n2
      have e1 : (row.take i).filter (fun x => !decide (x.f0 = nm)) = row.take i := by
        rw [List.filter_eq_self]
        intro x hx
        have := n3 x.f0 (List.mem_map_of_mem hx) row[i].f0 (by simp)
        rw [h3] at this
        simp [this]
      have e2 : (row.drop (i + 1)).filter (fun x => !decide (x.f0 = nm)) = row.drop (i + 1) := by
        rw [List.filter_eq_self]
        intro x hx
        have hx2 : x.f0 ≠ nm := fun e => n2.1 (by rw [h3, ← e]; exact List.mem_map_of_mem hx)
        simp [hx2]
      have e3 : row.filter (fun x => !decide (x.f0 = nm)) = row.take i ++ row.drop (i + 1) := by
        conv => lhs; rw [hsplit, List.filter_append, List.filter_cons]
        rw [e1, e2]
        simp [h3]
      rw [e3, List.eraseIdx_eq_take_drop_succ]
def Inv (s : DS) (b : Nat) : Prop := (s.row.map (·.f0)).Nodup ∧ s.row.length ≤ b ∧ (namesOf s.row false).length ≤ 16
theorem Inv.mono {s : DS} {b c : Nat} (h : Inv s b) (hc : b ≤ c) : Inv s c := ⟨h.1, Nat.le_trans h.2.1 hc, h.2.2⟩
theorem namesOf_append (a b : List S88) (u : Bool) : namesOf (a ++ b) u = namesOf a u ++ namesOf b u := by simp [namesOf]
theorem inv_end {s : DS} {b : Nat} (h : Inv s b) (nm : ByteArray) : Inv ⟨endRow s.row nm⟩ b ∧ nm ∉ (endRow s.row nm).map (·.f0) := by
  rw [endRow_eq nm s.row h.1]
  have hs : (s.row.filter (fun x => !decide (x.f0 = nm))).Sublist s.row := List.filter_sublist
  refine ⟨⟨h.1.sublist (hs.map _), Nat.le_trans hs.length_le h.2.1, Nat.le_trans (((hs.filter _).map _).length_le) h.2.2⟩, ?_⟩
  intro hm
  obtain ⟨x, hx, he⟩ := List.mem_map.1 hm
  have := (List.mem_filter.1 hx).2
  simp [he] at this
theorem inv_add {s : DS} {b : Nat} (h : Inv s b) (x : S88) (hn : x.f0 ∉ s.row.map (·.f0)) (hw : x.f2 = false → (namesOf s.row false).length < 16) : Inv ⟨s.row ++ [x]⟩ (b + 1) := by
  refine ⟨?_, by simpa using h.2.1, ?_⟩
  · simp only [List.map_append, List.map_cons, List.map_nil]
    rw [List.nodup_append]
    exact ⟨h.1, by simp, fun a ha c hc => by
      have : c = x.f0 := by simpa using hc
      rw [this]
      rintro rfl
      exact hn ha⟩
  · rw [namesOf_append]
    have := h.2.2
    cases hx : x.f2 with
    | true => simp [namesOf, hx]; simpa [namesOf] using this
    | false =>
      have := hw hx
      have e : (namesOf [x] false).length = 1 := by simp [namesOf, hx]
      rw [List.length_append, e]
      omega
theorem inv_ask {s : DS} {b : Nat} (h : Inv s b) (hb : b ≤ 1000000000) (nm : ByteArray) : ∃ r s', drains_Drains_Ask.f s nm = some (r, s') ∧ Inv s' (b + 1) := by
  unfold drains_Drains_Ask.f
  rw [if_pos (Nat.le_trans h.2.1 hb)]
  by_cases h1 : nameB nm = true
  · rw [if_pos h1]
    by_cases h2 : placeOf s.row nm 0 < 0
    · rw [if_pos h2]
      by_cases h3 : (namesOf s.row false).length < 16
      · rw [if_pos h3]
        exact ⟨_, _, rfl, inv_add h _ ((place_neg nm s.row 0 (by omega)).1 h2) (fun _ => h3)⟩
      · rw [if_neg h3]
        exact ⟨_, _, rfl, h.mono (by omega)⟩
    · rw [if_neg h2]
      exact ⟨_, _, rfl, h.mono (by omega)⟩
  · rw [if_neg h1]
    exact ⟨_, _, rfl, h.mono (by omega)⟩
theorem inv_begin {s : DS} {b : Nat} (h : Inv s b) (hb : b ≤ 1000000000) (nm : ByteArray) (dl : Int) : ∃ r s', drains_Drains_Begin.f s nm dl = some (r, s') ∧ Inv s' (b + 1) := by
  unfold drains_Drains_Begin.f
  rw [if_pos (Nat.le_trans h.2.1 hb)]
  by_cases h1 : nameB nm = true
  · rw [if_pos h1]
    by_cases h2 : placeOf s.row nm 0 < 0
    · rw [if_pos h2]
      exact ⟨_, _, rfl, inv_add h _ ((place_neg nm s.row 0 (by omega)).1 h2) (fun h => by cases h)⟩
    · rw [if_neg h2]
      by_cases h3 : (rd_T88 s.row (placeOf s.row nm 0)).f2 = true
      · rw [if_pos h3]
        exact ⟨_, _, rfl, h.mono (by omega)⟩
      · rw [if_neg h3]
        obtain ⟨he, hn⟩ := inv_end h nm
        exact ⟨_, _, rfl, inv_add he _ hn (fun h => by cases h)⟩
  · rw [if_neg h1]
    exact ⟨_, _, rfl, h.mono (by omega)⟩
theorem mem_names (row : List S88) (nm : ByteArray) : nm ∈ row.map (·.f0) ↔ nm ∈ namesOf row false ∨ nm ∈ namesOf row true := by
  unfold namesOf
  simp only [List.mem_map, List.mem_filter]
  constructor
  · rintro ⟨x, hx, rfl⟩
    cases hu : x.f2
    · exact .inl ⟨x, ⟨hx, by simp [hu]⟩, rfl⟩
    · exact .inr ⟨x, ⟨hx, by simp [hu]⟩, rfl⟩
  · rintro (⟨x, ⟨hx, _⟩, rfl⟩ | ⟨x, ⟨hx, _⟩, rfl⟩)
    · exact ⟨x, hx, rfl⟩
    · exact ⟨x, hx, rfl⟩
theorem was_eq (row : List S88) (nm : ByteArray) : (hasB nm (namesOf row false) || hasB nm (namesOf row true)) = decide (0 ≤ placeOf row nm 0) := by
  have h := place_neg nm row 0 (by omega)
  rw [mem_names] at h
  rw [Bool.eq_iff_iff, Bool.or_eq_true, hasB_iff, hasB_iff, decide_eq_true_iff]
  constructor
  · intro h2
    apply Classical.byContradiction
    intro h3
    exact h.1 (by omega) h2
  · intro h2
    apply Classical.byContradiction
    intro h3
    have := h.2 h3
    omega
theorem names_nodup {s : DS} {b : Nat} (h : Inv s b) (u : Bool) : (namesOf s.row u).Nodup := h.1.sublist ((List.filter_sublist).map _)
theorem names_apart {s : DS} {b : Nat} (h : Inv s b) (nm : ByteArray) (h1 : nm ∈ namesOf s.row false) : nm ∉ namesOf s.row true := by
  intro h2
  unfold namesOf at h1 h2
  obtain ⟨x, hx, ex⟩ := List.mem_map.1 h1
  obtain ⟨y, hy, ey⟩ := List.mem_map.1 h2
  have hx2 := List.mem_filter.1 hx
  have hy2 := List.mem_filter.1 hy
  have hxy : x = y := by
    have hn := h.1
    rw [List.Nodup, List.pairwise_map] at hn
    obtain ⟨i, hi, ei⟩ := List.getElem_of_mem hx2.1
    obtain ⟨j, hj, ej⟩ := List.getElem_of_mem hy2.1
    rcases Nat.lt_trichotomy i j with hl | rfl | hl
    · exact absurd (by rw [ei, ej, ex, ey]) (List.pairwise_iff_getElem.1 hn i j hi hj hl)
    · rw [← ei, ← ej]
    · exact absurd (by rw [ei, ej, ex, ey]) (List.pairwise_iff_getElem.1 hn j i hj hi hl)
  subst hxy
  have h3 := hx2.2
  have h4 := hy2.2
  simp only [beq_iff_eq] at h3 h4
  rw [h3] at h4
  cases h4
theorem nodup_take {l : List ByteArray} (h : l.Nodup) (k : Nat) (hk : k < l.length) : hasB l[k] (l.take k) = false := by
  apply hasB_no
  intro hm
  obtain ⟨i, hi, e⟩ := List.mem_take_iff_getElem.1 hm
  have := List.pairwise_iff_getElem.1 h i k (by omega) hk (by omega)
  exact this e
end Go.Proofs.Ytmlmiocomlehgaa.Man
namespace Go.Proofs.Ytmlmiocomlehgaa.Man
open Go.RowKit Go.Proofs.YtmlmiocomlehgaaW.PrintWords Go.Proofs.YtmlmiocomlehgaaW.PrintLast Go.Proofs.Ytmlmiocomlehgaa.PA Go.Proofs.Ytmlmiocomlehgaa.PF Go.Proofs.Ytmlmiocomlehgaa.Hid Go.Proofs.Ytmlmiocomlehgaa.Na
/-- The deadlines of those under way. -/
def atsU (row : List S88) : List Int := (row.filter (fun x => x.f2 == true)).map (·.f1)
theorem atsU_append (a b : List S88) : atsU (a ++ b) = atsU a ++ atsU b := by simp [atsU]
/-- The reference's state: names that wait, those under way, their deadlines. -/
structure Rf where
  w : List ByteArray
  u : List ByteArray
  a : List Int
def rfOf (s : DS) : Rf := ⟨namesOf s.row false, namesOf s.row true, atsU s.row⟩
def refAsk (r : Rf) (nm : ByteArray) : Int × Rf :=
  if nameB nm = true then (if (hasB nm r.w || hasB nm r.u) = true then (6, r) else if r.w.length < 16 then (0, ⟨r.w ++ [nm], r.u, r.a⟩) else (7, r)) else (11, r)
theorem ask_plain {s : DS} {b : Nat} (h : Inv s b) (hb : b ≤ 1000000000) (nm : ByteArray) : ∃ s', drains_Drains_Ask.f s nm = some ((refAsk (rfOf s) nm).1, s') ∧ Inv s' (b + 1) ∧ rfOf s' = (refAsk (rfOf s) nm).2 := by
  unfold drains_Drains_Ask.f refAsk
  rw [if_pos (Nat.le_trans h.2.1 hb)]
  by_cases h1 : nameB nm = true
  · rw [if_pos h1, if_pos h1]
    have hw : (hasB nm (rfOf s).w || hasB nm (rfOf s).u) = decide (0 ≤ placeOf s.row nm 0) := was_eq s.row nm
    rw [hw]
    by_cases h2 : placeOf s.row nm 0 < 0
    · rw [if_pos h2, if_neg (show ¬ decide (0 ≤ placeOf s.row nm 0) = true by simp; omega)]
      by_cases h3 : (namesOf s.row false).length < 16
      · rw [if_pos h3, if_pos (show (rfOf s).w.length < 16 from h3)]
        refine ⟨_, rfl, inv_add h _ ((place_neg nm s.row 0 (by omega)).1 h2) (fun _ => h3), ?_⟩
        simp [rfOf, namesOf, atsU]
      · rw [if_neg h3, if_neg (show ¬ (rfOf s).w.length < 16 from h3)]
        exact ⟨_, rfl, h.mono (by omega), rfl⟩
    · rw [if_neg h2, if_pos (show decide (0 ≤ placeOf s.row nm 0) = true by simp; omega)]
      exact ⟨_, rfl, h.mono (by omega), rfl⟩
  · rw [if_neg h1, if_neg h1]
    exact ⟨_, rfl, h.mono (by omega), rfl⟩
def refEnd (r : Rf) (nm : ByteArray) : Bool × Rf := (hasB nm r.w || hasB nm r.u, ⟨r.w.filter (fun x => !decide (x = nm)), r.u.filter (fun x => !decide (x = nm)), ((r.u.zip r.a).filter (fun p => !decide (p.1 = nm))).map (·.2)⟩)
theorem names_end (row : List S88) (nm : ByteArray) (u : Bool) : namesOf (row.filter (fun x => !decide (x.f0 = nm))) u = (namesOf row u).filter (fun x => !decide (x = nm)) := by
  unfold namesOf
  rw [List.filter_map, List.filter_filter, List.filter_filter]
  congr 1
  apply List.filter_congr
  intro x _
  simp [Function.comp_def, Bool.and_comm]
theorem ats_end : ∀ (row : List S88) (nm : ByteArray), atsU (row.filter (fun x => !decide (x.f0 = nm))) = (((namesOf row true).zip (atsU row)).filter (fun p => !decide (p.1 = nm))).map (·.2)
  | [], _ => rfl
  | x :: l, nm => by
    have ih := ats_end l nm
    unfold atsU namesOf at ih ⊢
    by_cases h1 : x.f0 = nm <;> cases h2 : x.f2 <;> simp [List.filter_cons, h1, h2] <;> simpa using ih
theorem end_plain {s : DS} {b : Nat} (h : Inv s b) (hb : b ≤ 1000000000) (nm : ByteArray) : ∃ s', drains_Drains_End.f s nm = some ((refEnd (rfOf s) nm).1, s') ∧ Inv s' b ∧ rfOf s' = (refEnd (rfOf s) nm).2 ∧ nm ∉ s'.row.map (·.f0) := by
  obtain ⟨h1, h2⟩ := inv_end h nm
  refine ⟨⟨endRow s.row nm⟩, ?_, h1, ?_, h2⟩
  · unfold drains_Drains_End.f refEnd
    rw [if_pos (Nat.le_trans h.2.1 hb)]
    congr 2
    exact (was_eq s.row nm).symm
  · unfold rfOf refEnd
    simp only [endRow_eq nm s.row h.1, names_end, ats_end]
def refBegin (r : Rf) (nm : ByteArray) (dl : Int) : Int × Rf :=
  if nameB nm = true then (if hasB nm r.u = true then (6, r) else (0, ⟨r.w.filter (fun x => !decide (x = nm)), r.u ++ [nm], r.a ++ [mn (mx dl 0) 1099511627776]⟩)) else (11, r)
/-- Whether a name is under way is told by the drain at its place. -/
theorem under_at {s : DS} {b : Nat} (h : Inv s b) (nm : ByteArray) (hp : ¬ placeOf s.row nm 0 < 0) : (rd_T88 s.row (placeOf s.row nm 0)).f2 = hasB nm (namesOf s.row true) := by
  obtain ⟨i, h1, h2, h3⟩ := place_at nm s.row 0 (by omega) (by omega)
  have e : rd_T88 s.row (placeOf s.row nm 0) = s.row[i] := by rw [h1]; simp [rd_T88, List.getD, h2]
  rw [e]
  have hm : s.row[i] ∈ s.row := List.getElem_mem h2
  have hu : ∀ u, s.row[i].f2 = u → nm ∈ namesOf s.row u := fun u hu => by
    unfold namesOf
    rw [← h3]
    exact List.mem_map.2 ⟨s.row[i], List.mem_filter.2 ⟨hm, by simp [hu]⟩, rfl⟩
  cases hc : s.row[i].f2 with
  | true => exact ((hasB_iff _ _).2 (hu true hc)).symm
  | false => exact (hasB_no _ _ (names_apart h nm (hu false hc))).symm
theorem begin_plain {s : DS} {b : Nat} (h : Inv s b) (hb : b ≤ 1000000000) (nm : ByteArray) (dl : Int) : ∃ s', drains_Drains_Begin.f s nm dl = some ((refBegin (rfOf s) nm dl).1, s') ∧ Inv s' (b + 1) ∧ rfOf s' = (refBegin (rfOf s) nm dl).2 := by
  unfold drains_Drains_Begin.f refBegin
  rw [if_pos (Nat.le_trans h.2.1 hb)]
  have hnone : ∀ u, nm ∉ s.row.map (·.f0) → (namesOf s.row u).filter (fun x => !decide (x = nm)) = namesOf s.row u := fun u hn => by
    rw [List.filter_eq_self]
    intro x hx
    have : x ≠ nm := by
      rintro rfl
      refine hn ((mem_names s.row x).2 ?_)
      cases u
      · exact .inl hx
      · exact .inr hx
    simp [this]
  by_cases h1 : nameB nm = true
  · rw [if_pos h1, if_pos h1]
    by_cases h2 : placeOf s.row nm 0 < 0
    · have hn := (place_neg nm s.row 0 (by omega)).1 h2
      have hu : hasB nm (rfOf s).u = false := hasB_no _ _ (fun hm => hn ((mem_names s.row nm).2 (.inr hm)))
      rw [if_pos h2, hu, if_neg (by decide)]
      refine ⟨_, rfl, inv_add h _ hn (fun h => by cases h), ?_⟩
      have e := hnone false hn
      simp only [rfOf, namesOf_append, atsU_append, e]
      simp [namesOf, atsU]
    · rw [if_neg h2, under_at h nm h2]
      cases hu : hasB nm (namesOf s.row true) with
      | true =>
        rw [if_pos rfl, if_pos (show hasB nm (rfOf s).u = true from hu)]
        exact ⟨_, rfl, h.mono (by omega), rfl⟩
      | false =>
        rw [if_neg (by decide), if_neg (by rw [show hasB nm (rfOf s).u = false from hu]; decide)]
        obtain ⟨h3, h4⟩ := inv_end h nm
        refine ⟨_, rfl, inv_add h3 _ h4 (fun h => by cases h), ?_⟩
        have hnu : nm ∉ namesOf s.row true := fun hm => by rw [(hasB_iff _ _).2 hm] at hu; cases hu
        have eu : (namesOf s.row true).filter (fun x => !decide (x = nm)) = namesOf s.row true := by
          rw [List.filter_eq_self]
          intro x hx
          have : x ≠ nm := by rintro rfl; exact hnu hx
          simp [this]
        have ea : atsU (s.row.filter (fun x => !decide (x.f0 = nm))) = atsU s.row := by
          unfold atsU
          rw [List.filter_filter]
          congr 1
          apply List.filter_congr
          intro x hx
          cases hx2 : x.f2 with
          | false => simp
          | true =>
            have : x.f0 ≠ nm := by
              rintro rfl
              exact hnu (List.mem_map.2 ⟨x, List.mem_filter.2 ⟨hx, by simp [hx2]⟩, rfl⟩)
            simp [this]
        simp only [rfOf, namesOf_append, atsU_append, endRow_eq nm s.row h.1, names_end, eu, ea]
        simp [namesOf, atsU]
  · rw [if_neg h1, if_neg h1]
    exact ⟨_, rfl, h.mono (by omega), rfl⟩
end Go.Proofs.Ytmlmiocomlehgaa.Man
namespace Go.Proofs.Ytmlmiocomlehgaa.Man
open Go.RowKit Go.Proofs.YtmlmiocomlehgaaW.PrintWords Go.Proofs.YtmlmiocomlehgaaW.PrintLast Go.Proofs.Ytmlmiocomlehgaa.PA Go.Proofs.Ytmlmiocomlehgaa.PF Go.Proofs.Ytmlmiocomlehgaa.Hid Go.Proofs.Ytmlmiocomlehgaa.Na
/-- No name is the empty one. -/
def NoEmpty (s : DS) : Prop := ∀ x ∈ s.row, x.f0 ≠ ⟨#[]⟩
theorem nameB_ne {nm : ByteArray} (h : nameB nm = true) : nm ≠ ⟨#[]⟩ := by
  rintro rfl
  revert h
  decide +kernel
theorem endRow_sub (row : List S88) (nm : ByteArray) : (endRow row nm).Sublist row := by
  unfold endRow
  split
  · exact List.Sublist.refl _
  · exact List.eraseIdx_sublist _ _
theorem NoEmpty.end_ {s : DS} (h : NoEmpty s) (nm : ByteArray) : NoEmpty ⟨endRow s.row nm⟩ := fun x hx => h x ((endRow_sub s.row nm).subset hx)
theorem NoEmpty.add {s : DS} (h : NoEmpty s) (x : S88) (hx : x.f0 ≠ ⟨#[]⟩) : NoEmpty ⟨s.row ++ [x]⟩ := fun y hy => by
  rcases List.mem_append.1 hy with hy | hy
  · exact h y hy
  · rw [List.mem_singleton.1 hy]
    exact hx
theorem NoEmpty.ask {s s' : DS} {nm : ByteArray} {r : Int} (h : NoEmpty s) (hf : drains_Drains_Ask.f s nm = some (r, s')) : NoEmpty s' := by
  unfold drains_Drains_Ask.f at hf
  split at hf
  · split at hf
    · rename_i hn
      split at hf
      · split at hf
        · obtain ⟨_, rfl⟩ := Prod.mk.inj (Option.some.inj hf)
          exact h.add _ (nameB_ne hn)
        · obtain ⟨_, rfl⟩ := Prod.mk.inj (Option.some.inj hf)
          exact h
      · obtain ⟨_, rfl⟩ := Prod.mk.inj (Option.some.inj hf)
        exact h
    · obtain ⟨_, rfl⟩ := Prod.mk.inj (Option.some.inj hf)
      exact h
  · cases hf
theorem NoEmpty.begin_ {s s' : DS} {nm : ByteArray} {dl r : Int} (h : NoEmpty s) (hf : drains_Drains_Begin.f s nm dl = some (r, s')) : NoEmpty s' := by
  unfold drains_Drains_Begin.f at hf
  split at hf
  · split at hf
    · rename_i hn
      split at hf
      · obtain ⟨_, rfl⟩ := Prod.mk.inj (Option.some.inj hf)
        exact h.add _ (nameB_ne hn)
      · split at hf
        · obtain ⟨_, rfl⟩ := Prod.mk.inj (Option.some.inj hf)
          exact h
        · obtain ⟨_, rfl⟩ := Prod.mk.inj (Option.some.inj hf)
          exact (h.end_ nm).add _ (nameB_ne hn)
    · obtain ⟨_, rfl⟩ := Prod.mk.inj (Option.some.inj hf)
      exact h
  · cases hf
/-! #### First -/
def refFirst (r : Rf) (may : List ByteArray) : Rf × ByteArray × Bool := match r.w with
  | [] => (r, ⟨#[]⟩, false)
  | x :: l => if hasB x may = true then (⟨l, r.u, r.a⟩, x, true) else (r, ⟨#[]⟩, false)
/-- What the closure answers of the first one. -/
def mayHead (row : List S88) (may : List ByteArray) : Bool := match headOf row with
  | some x => hasB x.f0 may
  | none => false
theorem head_waits : ∀ (row : List S88), (headOf row = none ∧ namesOf row false = []) ∨ ∃ x l, headOf row = some x ∧ x ∈ row ∧ x.f2 = false ∧ namesOf row false = x.f0 :: l
  | [] => .inl ⟨rfl, rfl⟩
  | x :: row => by
    unfold headOf
    cases hx : x.f2 with
    | true =>
      rw [if_pos rfl]
      have e : namesOf (x :: row) false = namesOf row false := by simp [namesOf, List.filter_cons, hx]
      rw [e]
      rcases head_waits row with h | ⟨y, l, h1, h2, h3, h4⟩
      · exact .inl h
      · exact .inr ⟨y, l, h1, by simp [h2], h3, h4⟩
    | false =>
      rw [if_neg (by decide)]
      exact .inr ⟨x, namesOf row false, rfl, by simp, hx, by simp [namesOf, List.filter_cons, hx]⟩
theorem first_plain {s : DS} {b : Nat} (h : Inv s b) (hne : NoEmpty s) (may : List ByteArray) :
    headName s.row (mayHead s.row may) = (refFirst (rfOf s) may).2.1 ∧ decide (0 ≤ placeOf s.row (headName s.row (mayHead s.row may)) 0) = (refFirst (rfOf s) may).2.2 ∧
      Inv ⟨endRow s.row (headName s.row (mayHead s.row may))⟩ b ∧ NoEmpty ⟨endRow s.row (headName s.row (mayHead s.row may))⟩ ∧ rfOf ⟨endRow s.row (headName s.row (mayHead s.row may))⟩ = (refFirst (rfOf s) may).1 := by
  have hno : (⟨#[]⟩ : ByteArray) ∉ s.row.map (·.f0) := fun hm => by
    obtain ⟨x, hx, e⟩ := List.mem_map.1 hm
    exact hne x hx e
  have hp0 : placeOf s.row ⟨#[]⟩ 0 < 0 := (place_neg _ _ 0 (by omega)).2 hno
  have he0 : endRow s.row ⟨#[]⟩ = s.row := by unfold endRow; rw [if_pos hp0]
  have stay : headName s.row (mayHead s.row may) = ⟨#[]⟩ → refFirst (rfOf s) may = (rfOf s, ⟨#[]⟩, false) → headName s.row (mayHead s.row may) = (refFirst (rfOf s) may).2.1 ∧ decide (0 ≤ placeOf s.row (headName s.row (mayHead s.row may)) 0) = (refFirst (rfOf s) may).2.2 ∧
      Inv ⟨endRow s.row (headName s.row (mayHead s.row may))⟩ b ∧ NoEmpty ⟨endRow s.row (headName s.row (mayHead s.row may))⟩ ∧ rfOf ⟨endRow s.row (headName s.row (mayHead s.row may))⟩ = (refFirst (rfOf s) may).1 := by
    intro e1 e2
    rw [e1, e2, he0]
    exact ⟨rfl, decide_eq_false (by omega), h, hne, rfl⟩
  rcases head_waits s.row with ⟨h1, h2⟩ | ⟨x, l, h1, h2, h3, h4⟩
  · refine stay ?_ ?_
    · unfold headName
      rw [h1]
    · unfold refFirst rfOf
      simp only [h2]
  · have hm : mayHead s.row may = hasB x.f0 may := by unfold mayHead; rw [h1]
    cases hy : hasB x.f0 may with
    | false =>
      refine stay ?_ ?_
      · unfold headName
        rw [h1, hm, hy]
        rfl
      · unfold refFirst rfOf
        simp only [h4, hy]
        rfl
    | true =>
      have e1 : headName s.row (mayHead s.row may) = x.f0 := by
        unfold headName
        rw [h1, hm, hy]
        rfl
      have e2 : refFirst (rfOf s) may = (⟨l, namesOf s.row true, atsU s.row⟩, x.f0, true) := by
        unfold refFirst rfOf
        simp only [h4, hy]
        rfl
      have hmem : x.f0 ∈ s.row.map (·.f0) := List.mem_map_of_mem h2
      have hp : ¬ placeOf s.row x.f0 0 < 0 := fun hq => (place_neg _ _ 0 (by omega)).1 hq hmem
      obtain ⟨i1, i2⟩ := inv_end h x.f0
      rw [e1, e2]
      refine ⟨rfl, decide_eq_true (by omega), i1, hne.end_ _, ?_⟩
      have hw : x.f0 ∈ namesOf s.row false := by rw [h4]; simp
      have hnu := names_apart h x.f0 hw
      have eu : (namesOf s.row true).filter (fun y => !decide (y = x.f0)) = namesOf s.row true := by
        rw [List.filter_eq_self]
        intro y hy
        have : y ≠ x.f0 := by rintro rfl; exact hnu hy
        simp [this]
      have ea : atsU (s.row.filter (fun y => !decide (y.f0 = x.f0))) = atsU s.row := by
        unfold atsU
        rw [List.filter_filter]
        congr 1
        apply List.filter_congr
        intro y hy
        cases hy2 : y.f2 with
        | false => simp
        | true =>
          have : y.f0 ≠ x.f0 := fun e => hnu (by rw [← e]; exact List.mem_map.2 ⟨y, List.mem_filter.2 ⟨hy, by simp [hy2]⟩, rfl⟩)
          simp [this]
      have ew : (namesOf s.row false).filter (fun y => !decide (y = x.f0)) = l := by
        have hnd := names_nodup h false
        rw [h4] at hnd ⊢
        rw [List.nodup_cons] at hnd
        rw [List.filter_cons, if_neg (by simp), List.filter_eq_self]
        intro y hy
        have : y ≠ x.f0 := by rintro rfl; exact hnd.1 hy
        simp [this]
      unfold rfOf
      simp only [endRow_eq x.f0 s.row h.1, names_end, eu, ea, ew]
end Go.Proofs.Ytmlmiocomlehgaa.Man
namespace Go.Proofs.Ytmlmiocomlehgaa.Man
open Go.RowKit Go.Proofs.YtmlmiocomlehgaaW.PrintWords Go.Proofs.YtmlmiocomlehgaaW.PrintLast Go.Proofs.Ytmlmiocomlehgaa.PA Go.Proofs.Ytmlmiocomlehgaa.PF Go.Proofs.Ytmlmiocomlehgaa.Hid Go.Proofs.Ytmlmiocomlehgaa.Na
theorem same_drain {row : List S88} (h : (row.map (·.f0)).Nodup) {x y : S88} (hx : x ∈ row) (hy : y ∈ row) (e : x.f0 = y.f0) : x = y := by
  rw [List.Nodup, List.pairwise_map] at h
  obtain ⟨i, hi, ei⟩ := List.getElem_of_mem hx
  obtain ⟨j, hj, ej⟩ := List.getElem_of_mem hy
  rcases Nat.lt_trichotomy i j with hl | rfl | hl
  · exact absurd (by rw [ei, ej, e]) (List.pairwise_iff_getElem.1 h i j hi hj hl)
  · rw [← ei, ← ej]
  · exact absurd (by rw [ei, ej, e]) (List.pairwise_iff_getElem.1 h j i hj hi hl)
theorem dead_of {s : DS} {b : Nat} (h : Inv s b) {x : S88} (hx : x ∈ s.row) : deadOf s x.f0 = if x.f2 = true then (x.f1, true) else (0, false) := by
  have hmem : x.f0 ∈ s.row.map (·.f0) := List.mem_map_of_mem hx
  have hp : ¬ placeOf s.row x.f0 0 < 0 := fun hq => (place_neg _ _ 0 (by omega)).1 hq hmem
  obtain ⟨i, h1, h2, h3⟩ := place_at x.f0 s.row 0 (by omega) (by omega)
  have e : rd_T88 s.row (placeOf s.row x.f0 0) = x := by
    rw [h1]
    have : s.row[i] = x := same_drain h.1 (List.getElem_mem h2) hx h3
    rw [← this]
    simp [rd_T88, List.getD, h2]
  unfold deadOf
  rw [if_neg hp, e]
theorem dead_none {s : DS} (nm : ByteArray) (hn : nm ∉ s.row.map (·.f0)) : deadOf s nm = (0, false) := by
  unfold deadOf
  rw [if_pos ((place_neg nm s.row 0 (by omega)).2 hn)]
theorem idxOf_neg (nm : ByteArray) : ∀ (l : List ByteArray) (j : Int), nm ∉ l → idxOf l nm j = -1
  | [], _, _ => rfl
  | x :: l, j, h => by
    unfold idxOf
    rw [if_neg (fun e => h (by rw [tl_inj.1 e]; simp)), idxOf_neg nm l (j + 1) (fun hm => h (by simp [hm]))]
/-- The deadline of one under way stands where its name stands. -/
theorem ats_idx : ∀ (row : List S88) (x : S88) (q : Int), (row.map (·.f0)).Nodup → x ∈ row → x.f2 = true → ∃ j : Nat, idxOf (namesOf row true) x.f0 q = q + (j : Int) ∧ j < (atsU row).length ∧ (atsU row).getD j 0 = x.f1
  | [], x, q, _, hx, _ => by simp at hx
  | y :: l, x, q, hn, hx, hu => by
    rw [List.map_cons, List.nodup_cons] at hn
    rcases List.mem_cons.1 hx with rfl | hx
    · refine ⟨0, ?_, ?_, ?_⟩
      · simp [namesOf, List.filter_cons, hu, idxOf]
      · simp [atsU, List.filter_cons, hu]
      · simp [atsU, List.filter_cons, hu]
    · have hne : ¬ x.f0.toList = y.f0.toList := fun e => hn.1 (by rw [← tl_inj.1 e]; exact List.mem_map_of_mem hx)
      cases hy : y.f2 with
      | true =>
        obtain ⟨j, h1, h2, h3⟩ := ats_idx l x (q + 1) hn.2 hx hu
        refine ⟨j + 1, ?_, ?_, ?_⟩
        · have e : namesOf (y :: l) true = y.f0 :: namesOf l true := by simp [namesOf, List.filter_cons, hy]
          rw [e, idxOf, if_neg hne, h1]
          omega
        · have e : atsU (y :: l) = y.f1 :: atsU l := by simp [atsU, List.filter_cons, hy]
          rw [e]
          simpa using h2
        · have e : atsU (y :: l) = y.f1 :: atsU l := by simp [atsU, List.filter_cons, hy]
          rw [e]
          simpa using h3
      | false =>
        obtain ⟨j, h1, h2, h3⟩ := ats_idx l x q hn.2 hx hu
        have e : namesOf (y :: l) true = namesOf l true := by simp [namesOf, List.filter_cons, hy]
        have e2 : atsU (y :: l) = atsU l := by simp [atsU, List.filter_cons, hy]
        exact ⟨j, by rw [e]; exact h1, by rw [e2]; exact h2, by rw [e2]; exact h3⟩
/-- Deadline, as the reference tells it. -/
theorem dead_plain {s : DS} {b : Nat} (h : Inv s b) (nm : ByteArray) : (deadOf s nm).2 = decide (0 ≤ idxOf (rfOf s).u nm 0) ∧ (0 ≤ idxOf (rfOf s).u nm 0 → ∃ j : Nat, idxOf (rfOf s).u nm 0 = (j : Int) ∧ j < (rfOf s).a.length ∧ (rfOf s).a.getD j 0 = (deadOf s nm).1) := by
  by_cases hm : nm ∈ s.row.map (·.f0)
  · obtain ⟨x, hx, rfl⟩ := List.mem_map.1 hm
    rw [dead_of h hx]
    cases hu : x.f2 with
    | true =>
      obtain ⟨j, h1, h2, h3⟩ := ats_idx s.row x 0 h.1 hx hu
      rw [Int.zero_add] at h1
      rw [if_pos rfl, show idxOf (rfOf s).u x.f0 0 = (j : Int) from h1]
      exact ⟨(decide_eq_true (by omega)).symm, fun _ => ⟨j, rfl, h2, h3⟩⟩
    | false =>
      have hw : x.f0 ∈ namesOf s.row false := List.mem_map.2 ⟨x, List.mem_filter.2 ⟨hx, by simp [hu]⟩, rfl⟩
      have e := idxOf_neg x.f0 (namesOf s.row true) 0 (names_apart h x.f0 hw)
      rw [if_neg (by decide), show idxOf (rfOf s).u x.f0 0 = -1 from e]
      exact ⟨rfl, fun h => by omega⟩
  · rw [dead_none nm hm]
    have e := idxOf_neg nm (namesOf s.row true) 0 (fun h2 => hm ((mem_names s.row nm).2 (.inr h2)))
    rw [show idxOf (rfOf s).u nm 0 = -1 from e]
    exact ⟨rfl, fun h => by omega⟩
def refDue (r : Rf) (now : Int) : List ByteArray := ((r.u.zip r.a).filter (fun p => pastB now p.2)).map (·.1)
theorem due_plain {s : DS} {b : Nat} (h : Inv s b) (now : Int) : dueOf s now = refDue (rfOf s) now := by
  have key : ∀ (l : List S88), (∀ x ∈ l, x ∈ s.row ∧ x.f2 = true) → (l.map (·.f0)).filter (fun nm => pastB now (deadOf s nm).1) = (((l.map (·.f0)).zip (l.map (·.f1))).filter (fun p => pastB now p.2)).map (·.1) := by
    intro l
    induction l with
    | nil => intro _; rfl
    | cons x l ih =>
      intro hl
      obtain ⟨h1, h2⟩ := hl x (by simp)
      have e : (deadOf s x.f0).1 = x.f1 := by rw [dead_of h h1, if_pos h2]
      have ih' := ih (fun y hy => hl y (by simp [hy]))
      simp only [List.map_cons, List.zip_cons_cons, List.filter_cons, e]
      cases pastB now x.f1 with
      | true => simp only [if_true, List.map_cons, ih']
      | false => simpa using ih'
  unfold dueOf refDue rfOf atsU
  show (namesOf s.row true).filter _ = _
  unfold namesOf
  exact key _ (fun x hx => by
    have := List.mem_filter.1 hx
    exact ⟨this.1, by simpa using this.2⟩)
end Go.Proofs.Ytmlmiocomlehgaa.Man
namespace Go.Proofs.Ytmlmiocomlehgaa.Man
open Go Go.RowKit Go.Maps Go.Proofs.YtmlmiocomlehgaaW.PrintWords Go.Proofs.YtmlmiocomlehgaaW.PrintLast Go.Proofs.YtmlmiocomlehgaaW.PrintMore Go.Proofs.Ytmlmiocomlehgaa.PA Go.Proofs.Ytmlmiocomlehgaa.PF Go.Proofs.Ytmlmiocomlehgaa.Hid Go.Proofs.Ytmlmiocomlehgaa.Na
variable {w0 w : World}
abbrev kl (x : ByteArray) : Lit := .string x.data.toList
def memB (x : ByteArray) (l : List ByteArray) : Bool := l.any (fun y => decide (y = x))
theorem memB_iff {x : ByteArray} {l : List ByteArray} : memB x l = true ↔ x ∈ l := by
  unfold memB
  rw [List.any_eq_true]
  constructor
  · rintro ⟨y, hy, h⟩
    rw [← of_decide_eq_true h]
    exact hy
  · intro h
    exact ⟨x, h, by simp⟩
theorem memB_no {x : ByteArray} {l : List ByteArray} : memB x l = false ↔ x ∉ l := by rw [← Bool.not_eq_true, memB_iff]
def nodupB : List ByteArray → Bool
  | [] => true
  | x :: l => !memB x l && nodupB l
theorem nodupB_iff : ∀ {l : List ByteArray}, nodupB l = true ↔ l.Nodup
  | [] => by simp [nodupB]
  | x :: l => by
    rw [nodupB, Bool.and_eq_true, nodupB_iff, List.nodup_cons, Bool.not_eq_true', memB_no]
/-- Block b is a set of so many texts, those of the list. -/
def SetS (W : World) (b : Nat) (l : List ByteArray) : Prop := ∃ D : DataW Unit, W.ownsMap Try.prog 9 (plainElem (H := Unit) Try.prog 4) b l.length D ∧ (∀ x, Maps.has D (kl x) = memB x l) ∧ Maps.size D ≤ l.length ∧ (Maps.size D = l.length ↔ l.Nodup)
theorem SetS.lt {W : World} {b : Nat} {l : List ByteArray} (h : SetS W b l) : b < W.heap.size := by obtain ⟨D, h, _⟩ := h; exact h.lt
theorem SetS.made (W : World) : SetS (W.alloc (.map #[] 0)) W.heap.size [] := ⟨_, World.ownsMap_made W Try.prog 9 _, fun x => by simp [Maps.has_eq, memB], Nat.le_refl _, by simp [Maps.size_eq]⟩
theorem kl_inj {x y : ByteArray} (h : kl x = kl y) : x = y := by
  injection h with h
  exact ByteArray.ext (Array.toList_inj.mp h)
theorem SetS.put {W : World} {b : Nat} {l : List ByteArray} (h : SetS W b l) {x : ByteArray} (hx : x.size ≤ maxLen) (hn : l.length < maxLen) :
    ∃ W', (Instr.mapUpdate 82 (.map (some b)) (.string x) (.bool true)).run Try.prog W = .ok () W' ∧ SetS W' b (l ++ [x]) ∧ W.grownBy W' (some b) := by
  obtain ⟨D, ho, hh, h1, h2⟩ := h
  have K := string_keyed (P := Try.prog) (k := 9) Try.underlying9
  obtain ⟨W', hrun, ho', hg⟩ := ho.update K Try.underlying82 hn (key := .string x) (val := .bool true) (kl := kl x) (by unfold keyOf mapKey; rw [Try.underlying9]; dsimp only; rw [if_pos hx]) (plainElem_bool Try.underlying4 true)
  refine ⟨W', hrun, ⟨_, by simpa using ho', fun y => ?_, ?_⟩, hg⟩
  · by_cases e : y = x
    · subst e
      rw [Maps.has_put_same ho.isMap (by trivial)]
      exact (memB_iff.2 (by simp)).symm
    · rw [Maps.has_put_other (fun h => e (kl_inj h)), hh]
      unfold memB
      rw [List.any_append]
      simp [show ¬ x = y from fun h => e h.symm]
  · rw [Maps.size_put (ho.tidy K), hh]
    by_cases c : x ∈ l
    · rw [memB_iff.2 c, if_pos rfl]
      simp only [List.length_append, List.length_singleton]
      refine ⟨by omega, ⟨fun h => by omega, fun h => ?_⟩⟩
      rw [List.nodup_append] at h
      exact absurd rfl (h.2.2 x c x (by simp))
    · rw [memB_no.2 c, if_neg (by decide)]
      simp only [List.length_append, List.length_singleton]
      refine ⟨by omega, ⟨fun h => ?_, fun h => ?_⟩⟩
      · rw [List.nodup_append]
        refine ⟨h2.1 (by omega), by simp, fun y hy z hz => ?_⟩
        rw [List.mem_singleton.1 hz]
        rintro rfl
        exact c hy
      · rw [List.nodup_append] at h
        have := h2.2 h.1
        omega
theorem SetS.len {W : World} {b : Nat} {l : List ByteArray} (h : SetS W b l) (ty : TypeId) : ∃ n : Nat, (Builtin.len_ #[82] ty #[.map (some b)]).run Try.prog W = .ok (.int .i64 (n : Int)) W ∧ n ≤ l.length ∧ (n = l.length ↔ l.Nodup) := by
  obtain ⟨D, ho, hh, h1, h2⟩ := h
  exact ⟨_, ho.len Try.underlying82 ty, h1, h2⟩
set_option maxHeartbeats 1000000 in
theorem check1_raw (x : ByteArray) (w : World) : Calls Try.prog 53 #[.string x] w fun e w' => e = .returned (.bool (!nameB x)) ∧ Below w.heap.size w w' := by
  have HN := Aside0.mk (fun W => name_raw x W)
  generalize nameB x = b at HN
  go_enter Try.func53, Try.ntmps53
  go_wp2_with (go_at_call 54; refine (HN.out _).mono ?_; rintro e w1 ⟨rfl, hb1⟩)
  go_ret
  exact ⟨rfl, hb1⟩
/-- Where the first one is that is so. -/
def badAt (xs : List ByteArray) (k : Nat) : Bool := !nameB (xs.getD k ByteArray.empty)
set_option maxHeartbeats 2000000 in
theorem idx_check (xs : List ByteArray) (A : Option Addr) (n : Nat) (hC : Kd.C Kd.string w A xs.length xs) (hn : xs.length ≤ n) :
    Calls Try.prog 72 #[.slice A xs.length n, .func (.func 53) #[] #[]] w fun e w' => e = .returned (.int .i64 (fstP (badAt xs) xs.length 0)) ∧ Below w.heap.size w w' := by
  have HC := Aside0.mk hC
  have HDD := Aside0.mk check1_raw
  have hlen : xs.length ≤ 9223372036854775807 := hC.2.1
  obtain ⟨RES, hres⟩ : ∃ R, R = fstP (badAt xs) xs.length 0 := ⟨_, rfl⟩
  rw [← hres]
  have HRES := Aside0.mk hres.symm
  clear hC hres
  go_enter Try.func72, Try.ntmps72
  go_wp2
  go_loopw [8] (fun v8 wr => ∃ k : Nat, k ≤ xs.length ∧ v8 = .int .i64 k ∧ Aside0 (fstP (badAt xs) (xs.length - k) k = RES) ∧ Aside0 (Below w.heap.size w wr)) (fun v8 _ => xs.length - (intOf v8).toNat)
  case atStart => exact ⟨0, Nat.zero_le _, rfl, HRES, ⟨Below.refl _ _⟩⟩
  case round =>
    obtain ⟨k, hk, rfl, HF, HB⟩ := hrel
    by_cases hlt : k < xs.length
    · obtain ⟨ad, rfl, hx0⟩ := Kd.at_string (Kd.C_below HC.out HB.out) (k : Int) (by omega) (by omega)
      obtain ⟨x, hxe⟩ : ∃ x, x = rdOf ByteArray.empty xs (k : Int) := ⟨_, rfl⟩
      rw [← hxe, Int.toNat_natCast] at hx0
      have hbad : badAt xs k = !nameB x := by rw [hxe]; rfl
      have hF := HF.out
      rw [show xs.length - k = (xs.length - (k + 1)) + 1 by omega, fstP, hbad] at hF
      have h0k : (0 : Int) ≤ (k : Int) := by omega
      have hkl : (k : Int) < (xs.length : Int) := by omega
      clear hxe hbad HF
      cases hd : (!nameB x) with
      | true =>
        rw [hd, if_pos rfl] at hF
        subst hF
        go_wp2_with (go_at_call 53; refine (HDD.out x _).mono ?_; rintro e w2 ⟨rfl, hb2⟩; rw [hd])
        go_ret
        exact ⟨rfl, below_step HB.out hb2⟩
      | false =>
        rw [hd, if_neg (by decide)] at hF
        have HF := Aside0.mk hF
        clear hF
        go_wp2_with (go_at_call 53; refine (HDD.out x _).mono ?_; rintro e w2 ⟨rfl, hb2⟩; rw [hd])
        exact ⟨⟨k + 1, by omega, by rw [show ((k : Int) + 1) = ((k + 1 : Nat) : Int) by omega], HF, ⟨below_step HB.out hb2⟩⟩, by simp [intOf]; omega⟩
    · have hke : k = xs.length := by omega
      subst hke
      have hF := HF.out
      rw [Nat.sub_self] at hF
      have hF2 : -1 = RES := hF
      subst hF2
      clear hk HF hF
      go_wp2
      go_ret
      exact ⟨rfl, HB.out⟩
set_option maxHeartbeats 1000000 in
theorem cfunc_raw (xs : List ByteArray) (A : Option Addr) (n : Nat) (hC : Kd.C Kd.string w A xs.length xs) (hn : xs.length ≤ n) :
    Calls Try.prog 52 #[.slice A xs.length n, .func (.func 53) #[] #[]] w fun e w' => e = .returned (.bool (decide (0 ≤ fstP (badAt xs) xs.length 0))) ∧ Below w.heap.size w w' := by
  have HI := Aside0.mk (idx_check xs A n hC hn)
  clear hC hn
  generalize fstP (badAt xs) xs.length 0 = i at HI
  go_enter Try.func52, Try.ntmps52
  go_wp2_with (go_at_call 72; refine HI.out.mono ?_; rintro e w1 ⟨rfl, hb1⟩)
  go_ret
  exact ⟨rfl, hb1⟩
/-- Why a list may not be; 0: it may. -/
def checkE (l : List ByteArray) : Int := if 16 < l.length then 13 else if l.all nameB = false then 11 else if nodupB l = true then 0 else 6
theorem fst_all (l : List ByteArray) : decide (0 ≤ fstP (badAt l) l.length 0) = !l.all nameB := by
  have key : ∀ (n j : Nat), j + n = l.length → decide (0 ≤ fstP (badAt l) n j) = !(l.drop j).all nameB := by
    intro n
    induction n with
    | zero =>
      intro j hj
      rw [List.drop_eq_nil_of_le (by omega)]
      rfl
    | succ n ih =>
      intro j hj
      have hlt : j < l.length := by omega
      rw [fstP, List.drop_eq_getElem_cons hlt, List.all_cons]
      have e : badAt l j = !nameB l[j] := by simp [badAt, List.getD, hlt]
      rw [e]
      cases nameB l[j] with
      | true => simpa using ih (j + 1) (by omega)
      | false => simp
  simpa using key l.length 0 (by omega)
set_option maxHeartbeats 4000000 in
theorem check_raw (xs : List ByteArray) (A : Option Addr) (n : Nat) (hs : ∀ x ∈ xs, x.size ≤ maxLen) (hC : Kd.C Kd.string w A xs.length xs) (hn : xs.length ≤ n) :
    Calls Try.prog 34 #[.slice A xs.length n] w fun e w' => e = .returned (.int .i64 (checkE xs)) ∧ Below w.heap.size w w' := by
  have HC := Aside0.mk hC
  have HS := Aside0.mk hs
  have hlen : xs.length ≤ 9223372036854775807 := hC.2.1
  have HCF := Aside0.mk (fun W (hb : Below w.heap.size w W) => cfunc_raw (w := W) xs A n (Kd.C_below hC hb) hn)
  rw [fst_all] at HCF
  obtain ⟨E, hE⟩ : ∃ E, E = checkE xs := ⟨_, rfl⟩
  rw [← hE]
  have HE := Aside0.mk hE
  clear hC hs hE
  have hmm := @run_makeMap Try.prog
  have HM : Aside0 (SetS (w.alloc (.map #[] 0)) w.heap.size (xs.take 0)) := ⟨SetS.made w⟩
  go_enter Try.func34, Try.ntmps34
  go_wp2
  go_loopw [9] (fun v9 wr => ∃ k : Nat, k ≤ xs.length ∧ v9 = .int .i64 k ∧ Aside0 (SetS wr w.heap.size (xs.take k)) ∧ Aside0 (Below w.heap.size w wr)) (fun v9 _ => xs.length - (intOf v9).toNat)
  case atStart => exact ⟨0, Nat.zero_le _, rfl, HM, ⟨below_alloc (Below.refl _ _) _⟩⟩
  case round =>
    obtain ⟨k, hk, rfl, HO, HB⟩ := hrel
    by_cases hlt : k < xs.length
    · obtain ⟨ad, rfl, hx0⟩ := Kd.at_string (Kd.C_below HC.out HB.out) (k : Int) (by omega) (by omega)
      obtain ⟨x, hxe⟩ : ∃ x, x = rdOf ByteArray.empty xs (k : Int) := ⟨_, rfl⟩
      rw [← hxe, Int.toNat_natCast] at hx0
      have hxg : xs[k] = x := by rw [hxe]; simp [rdOf, List.getD, hlt]
      have hts : xs.take (k + 1) = xs.take k ++ [x] := by rw [List.take_succ_eq_append_getElem hlt, hxg]
      obtain ⟨W', hrun, hS', hg'⟩ := HO.out.put (x := x) (HS.out x (by rw [← hxg]; exact List.getElem_mem hlt)) (by simp; unfold maxLen; omega)
      have HS' : Aside0 (SetS W' w.heap.size (xs.take (k + 1))) := ⟨by rw [hts]; exact hS'⟩
      have HB' := Aside0.mk (HB.out.grown hg' (Nat.le_trans HB.out.size (Nat.le_refl _)) (fun b hb => by injection hb with hb; omega))
      have h0k : (0 : Int) ≤ (k : Int) := by omega
      have hkl : (k : Int) < (xs.length : Int) := by omega
      clear hxe hxg hts hS' hg'
      go_wp2
      exact ⟨⟨k + 1, by omega, by rw [show ((k : Int) + 1) = ((k + 1 : Nat) : Int) by omega], HS', HB'⟩, by simp [intOf]; omega⟩
    · have hke : k = xs.length := by omega
      subst hke
      rw [List.take_length] at HO
      clear hk
      have hE := HE.out
      unfold checkE at hE
      clear HE
      by_cases c1 : 16 < xs.length
      · rw [if_pos c1] at hE
        subst hE
        have c1b : decide ((16 : Int) < (xs.length : Int)) = true := decide_eq_true (by omega)
        have c1d : decide (16 < xs.length) = true := decide_eq_true c1
        go_wp2
        go_ret
        exact ⟨rfl, HB.out⟩
      · rw [if_neg c1] at hE
        have c1b : decide ((16 : Int) < (xs.length : Int)) = false := decide_eq_false (by omega)
        have c1d : decide (16 < xs.length) = false := decide_eq_false c1
        have HL := Aside0.mk (fun W (hb : Below wr.heap.size wr W) => (show SetS W w.heap.size xs from by
          obtain ⟨D, ho, r⟩ := HO.out
          exact ⟨D, ho.kept (row := none) ⟨hb.os, hb.tape, hb.output, hb.size, fun k hk _ => hb.block k hk⟩ (by simp), r⟩))
        cases c2 : xs.all nameB with
        | false =>
          rw [c2, if_pos rfl] at hE
          subst hE
          rw [c2] at HCF
          go_wp2_with (go_at_call 52; refine (HCF.out _ HB.out).mono ?_; rintro e w2 ⟨rfl, hb2⟩)
          go_ret
          exact ⟨rfl, below_step HB.out hb2⟩
        | true =>
          rw [c2, if_neg (by decide)] at hE
          rw [c2] at HCF
          by_cases c3 : xs.Nodup
          · rw [if_pos (nodupB_iff.2 c3)] at hE
            subst hE
            go_wp2_with (go_at_call 52; refine (HCF.out _ HB.out).mono ?_; rintro e w2 ⟨rfl, hb2⟩; obtain ⟨m, hm, _, hm2⟩ := (HL.out _ hb2).len 3; have hm3 : m = xs.length := hm2.2 c3; have hm4 : decide ((m : Int) < (xs.length : Int)) = false := decide_eq_false (by omega); have hm5 : decide (m < xs.length) = false := decide_eq_false (by omega); have HB2 := Aside0.mk hb2; clear hm2 hm3 hb2)
            go_ret
            exact ⟨rfl, below_step HB.out HB2.out⟩
          · rw [if_neg (fun h => c3 (nodupB_iff.1 h))] at hE
            subst hE
            go_wp2_with (go_at_call 52; refine (HCF.out _ HB.out).mono ?_; rintro e w2 ⟨rfl, hb2⟩; obtain ⟨m, hm, hm1, hm2⟩ := (HL.out _ hb2).len 3; have hm3 : m ≠ xs.length := fun e => c3 (hm2.1 e); have hm4 : decide ((m : Int) < (xs.length : Int)) = true := decide_eq_true (by omega); have hm5 : decide (m < xs.length) = true := decide_eq_true (by omega); have HB2 := Aside0.mk hb2; clear hm1 hm2 hm3 hb2)
            go_ret
            exact ⟨rfl, below_step HB.out HB2.out⟩
end Go.Proofs.Ytmlmiocomlehgaa.Man
namespace Go.Proofs.Ytmlmiocomlehgaa.Man
open Go.RowKit Go.Proofs.YtmlmiocomlehgaaW.PrintWords Go.Proofs.YtmlmiocomlehgaaW.PrintLast Go.Proofs.YtmlmiocomlehgaaW.PrintMore Go.Proofs.Ytmlmiocomlehgaa.PA Go.Proofs.Ytmlmiocomlehgaa.PF Go.Proofs.Ytmlmiocomlehgaa.Hid Go.Proofs.Ytmlmiocomlehgaa.Na
variable {w0 w : World} {g gd : Nat} {v : Value} {ps : List Nat} {s : FS}
/-- A row of other types lives on. -/
theorem row_keep {T : List Nat} {w w1 : World} {α : Type} {d : Kd α} {e base : Nat} {v : Value} {xs : List α} (h : d.R e w base (fun _ => True) v xs) (hk : KeptH T w w1) (ht : ∀ q, q ∈ e :: d.E → q ∉ T) : d.R e w1 base (fun _ => True) v xs :=
  Kd.R_mono (Ko.R_keep (Ko.R_apart h ht) hk (fun _ h => h.2)) (fun _ _ => trivial)
theorem str_tg : ∀ q, q ∈ 9 :: Kd.string.E → q ∉ TG := by
  intro q hq
  have : q = 9 := by simpa [Kd.string, Kd.scalar] using hq
  subst this
  decide
/-- A row of texts of the call's own has grown: the fleet lives on. -/
theorem row_grown {w4 w5 : World} {v5 : Value} {xs : List ByteArray} (hz : w0.heap.size ≤ w.heap.size) (hI : IsX w0 w4 g gd v ps s) (hB : Below w0.heap.size w0 w4) (hk : KeptH TG w w4) (hR : Kd.R Kd.string 9 w4 w.heap.size (fun _ => True) v5 xs) (hg : w4.grownBy w5 v5.ownBlock) :
    IsX w0 w5 g gd v ps s ∧ Below w0.heap.size w0 w5 ∧ KeptH TG w w5 :=
  ⟨hI.step (fun k h => hg.block k h.lt (Ko.R_ne (T := TF) hR (by decide) k h)), hB.grown hg hB.size (fun k h => Nat.le_trans hz (Kd.R_base hR k h)), hk.grown hg (fun k h => .inr (Kd.R_base hR k h))⟩
/-- One drain is admitted. -/
def admit1 (s : FS) (nm : ByteArray) (dl : Int) : FS :=
  { s with hs := (match lookH s.hs nm with | some x => setH s.hs nm (evH x 0) | none => s.hs), ds := (beginF (endF s.ds nm) nm dl).2 }
def admitL (dl : Int) : List ByteArray → FS → FS × List ByteArray
  | [], s => (s, [])
  | nm :: l, s => if mayS s nm = true then ((admitL dl l (admit1 s nm dl)).1, nm :: (admitL dl l (admit1 s nm dl)).2) else (s, [])
def admitF (s : FS) (dl : Int) : List ByteArray × FS := ((admitL dl (namesOf s.ds.row false) s).2, (admitL dl (namesOf s.ds.row false) s).1)
/-- The drains' own order: names that differ, none empty. -/
structure DOk (d : DS) (b : Nat) : Prop where
  inv : Inv d b
  ne : NoEmpty d
theorem DOk.mono {d : DS} {b c : Nat} (h : DOk d b) (hc : b ≤ c) : DOk d c := ⟨h.inv.mono hc, h.ne⟩
theorem endF_len {d : DS} {nm : ByteArray} (h : nm ∈ d.row.map (·.f0)) : (endF d nm).row.length + 1 = d.row.length := by
  unfold endF endRow
  have hp : ¬ placeOf d.row nm 0 < 0 := fun e => (place_neg nm d.row 0 (by omega)).1 e h
  rw [if_neg hp]
  obtain ⟨i, hi, hlt, _⟩ := place_at nm d.row 0 (by omega) (by omega)
  show (d.row.eraseIdx _).length + 1 = _
  rw [hi, List.length_eraseIdx, if_pos (by simpa using hlt)]
  omega
theorem end_ok {d : DS} {b : Nat} (h : DOk d b) (nm : ByteArray) : DOk (endF d nm) b ∧ nm ∉ (endF d nm).row.map (·.f0) ∧ ∀ u, namesOf (endF d nm).row u = (namesOf d.row u).filter (fun x => !decide (x = nm)) := by
  obtain ⟨h1, h2⟩ := inv_end h.inv nm
  refine ⟨⟨h1, h.ne.end_ nm⟩, h2, fun u => ?_⟩
  unfold endF
  rw [endRow_eq nm d.row h.inv.1]
  exact names_end d.row nm u
theorem begin_new_ok {d : DS} {b : Nat} (h : DOk d b) {nm : ByteArray} (hn : nm ∉ d.row.map (·.f0)) (dl : Int) :
    DOk (beginF d nm dl).2 (b + 1) ∧ (beginF d nm dl).2.row.length ≤ d.row.length + 1 ∧ namesOf (beginF d nm dl).2.row false = namesOf d.row false := by
  unfold beginF
  by_cases c : nameB nm = true
  · rw [if_pos c, if_pos ((place_neg nm d.row 0 (by omega)).2 hn)]
    refine ⟨⟨inv_add h.inv _ hn (fun h => by cases h), h.ne.add _ (nameB_ne c)⟩, by simp, ?_⟩
    rw [namesOf_append]
    simp [namesOf]
  · rw [if_neg c]
    exact ⟨h.mono (by omega), Nat.le_succ _, rfl⟩
/-- The drains behind an admission. -/
theorem admit_ok {s : FS} {b : Nat} (h : DOk s.ds b) {nm : ByteArray} {l : List ByteArray} (hw : namesOf s.ds.row false = nm :: l) (dl : Int) :
    DOk (admit1 s nm dl).ds (admit1 s nm dl).ds.row.length ∧ (admit1 s nm dl).ds.row.length ≤ s.ds.row.length ∧ namesOf (admit1 s nm dl).ds.row false = l := by
  have hm : nm ∈ s.ds.row.map (·.f0) := (mem_names s.ds.row nm).2 (.inl (by rw [hw]; simp))
  obtain ⟨h1, h2, h3⟩ := end_ok h nm
  obtain ⟨h4, h5, h6⟩ := begin_new_ok h1 h2 dl
  have h7 := endF_len hm
  refine ⟨⟨⟨h4.inv.1, Nat.le_refl _, h4.inv.2.2⟩, h4.ne⟩, Nat.le_trans h5 (by omega), ?_⟩
  show namesOf (beginF (endF s.ds nm) nm dl).2.row false = l
  rw [h6, h3, hw]
  have hnd : (nm :: l).Nodup := by rw [← hw]; exact names_nodup h.inv false
  rw [List.filter_cons, if_neg (by simp), List.filter_eq_self]
  intro x hx
  have : x ≠ nm := by rintro rfl; exact (List.nodup_cons.1 hnd).1 hx
  simp [this]
theorem admit_hs (s : FS) (nm : ByteArray) (dl : Int) : (admit1 s nm dl).hs.length = s.hs.length := by
  unfold admit1
  dsimp only
  split
  · simp [setH]
  · rfl
theorem head_of_waits {row : List S88} {nm : ByteArray} {l : List ByteArray} (h : namesOf row false = nm :: l) : ∃ x, headOf row = some x ∧ x.f0 = nm := by
  rcases head_waits row with ⟨_, h2⟩ | ⟨x, l', h1, _, _, h4⟩
  · rw [h2] at h; cases h
  · rw [h4] at h
    injection h with h _
    exact ⟨x, h1, h⟩
theorem head_none_of {row : List S88} (h : namesOf row false = []) : headOf row = none := by
  rcases head_waits row with ⟨h1, _⟩ | ⟨x, l', _, _, _, h4⟩
  · exact h1
  · rw [h4] at h; cases h
theorem first_yesX {b : Nat} {nm : ByteArray} {l : List ByteArray} (hb : b ≤ 1000000000) (hh : s.hs.length ≤ 1000000000) (hd : DOk s.ds b) (hI : IsX w0 w g gd v ps s) (hB : Below w0.heap.size w0 w) (hw : namesOf s.ds.row false = nm :: l) (hm : mayS s nm = true) :
    Calls Try.prog 41 #[ptr gd, .func (.func 42) #[ptr g] #[]] w fun e w' => e = .returned (.tuple #[.string nm, .bool true]) ∧ SX w0 w w' g gd v ps { s with ds := endF s.ds nm } := by
  obtain ⟨x, hx, rfl⟩ := head_of_waits hw
  have hn : headName s.ds.row true = x.f0 := by unfold headName; rw [hx]; rfl
  have hmem : x.f0 ∈ s.ds.row.map (·.f0) := (mem_names s.ds.row x.f0).2 (.inl (by rw [hw]; simp))
  have hp : decide (0 ≤ placeOf s.ds.row x.f0 0) = true := by
    have : ¬ placeOf s.ds.row x.f0 0 < 0 := fun e => (place_neg x.f0 s.ds.row 0 (by omega)).1 e hmem
    exact decide_eq_true (by omega)
  refine (first_raw g true hI.dr hB (Nat.le_trans hd.inv.2.1 hb) (fun y hy W hWb => by
    rw [hx] at hy
    injection hy with hy
    subst hy
    have := may_raw x.f0 hh (hI.below hWb)
    rw [hm] at this
    exact this)).mono ?_
  rintro e w' ⟨rfl, h1, h2, h3⟩
  rw [hn, hp]
  rw [hn] at h1
  exact ⟨rfl, hI.drains h1 h2 h3⟩
theorem first_noX {b : Nat} (hb : b ≤ 1000000000) (hh : s.hs.length ≤ 1000000000) (hd : DOk s.ds b) (hI : IsX w0 w g gd v ps s) (hB : Below w0.heap.size w0 w) (hno : ∀ nm l, namesOf s.ds.row false = nm :: l → mayS s nm = false) :
    Calls Try.prog 41 #[ptr gd, .func (.func 42) #[ptr g] #[]] w fun e w' => e = .returned (.tuple #[.string ⟨#[]⟩, .bool false]) ∧ SX w0 w w' g gd v ps s := by
  have hn : headName s.ds.row false = ⟨#[]⟩ := by
    unfold headName
    cases headOf s.ds.row <;> rfl
  have hne : (⟨#[]⟩ : ByteArray) ∉ s.ds.row.map (·.f0) := fun h => by
    obtain ⟨x, hx, e⟩ := List.mem_map.1 h
    exact hd.ne x hx e
  have hp := (place_neg ⟨#[]⟩ s.ds.row 0 (by omega)).2 hne
  have hp2 : decide (0 ≤ placeOf s.ds.row ⟨#[]⟩ 0) = false := decide_eq_false (by omega)
  refine (first_raw g false hI.dr hB (Nat.le_trans hd.inv.2.1 hb) (fun y hy W hWb => by
    rcases head_waits s.ds.row with ⟨h1, _⟩ | ⟨x, l', h1, _, _, h4⟩
    · rw [h1] at hy; cases hy
    · rw [h1] at hy
      injection hy with hy
      subst hy
      have := may_raw x.f0 hh (hI.below hWb)
      rw [hno _ _ h4] at this
      exact this)).mono ?_
  rintro e w' ⟨rfl, h1, h2, h3⟩
  rw [hn, hp2]
  rw [hn] at h1
  have he : (⟨endRow s.ds.row ⟨#[]⟩⟩ : DS) = s.ds := by unfold endRow; rw [if_pos hp]
  rw [he] at h1
  exact ⟨rfl, hI.drains h1 h2 h3⟩
/-- A host that may leave is there. -/
theorem may_there {nm : ByteArray} (h : mayS s nm = true) : ∃ (i : Nat) (x : HV), posH s.hs nm = (i : Int) ∧ s.hs[i]? = some x ∧ x.nm = nm := by
  rcases posH_bd s.hs nm with ⟨h1, _⟩ | h1
  · unfold mayS mayI at h
    rw [h1, if_pos (.inl (by omega))] at h
    cases h
  · exact h1
set_option maxHeartbeats 4000000 in
theorem admit_raw (dl : Int) (b : Nat) (hb : b ≤ 1000000000) (hh : s.hs.length ≤ 1000000000) (hd : DOk s.ds b) (hI : IsX w0 w g gd v ps s) (hB : Below w0.heap.size w0 w) :
    Calls Try.prog 14 #[ptr g, .int .i64 dl] w fun e w' => ∃ v1_ : Value, e = .returned v1_ ∧ Kd.R Kd.string 9 w' w.heap.size (fun _ => True) v1_ (admitF s dl).1 ∧ St w0 w w' g (admitF s dl).2 := by
  obtain ⟨RES, hres⟩ : ∃ R, R = admitL dl (namesOf s.ds.row false) s := ⟨_, rfl⟩
  unfold admitF
  rw [← hres]
  have HI0 := Aside0.mk hI
  have HB0 := Aside0.mk hB
  have HD0 := Aside0.mk hd
  have hhs := hh
  have HRES : Aside0 (∃ r, admitL dl (namesOf s.ds.row false) s = (RES.1, r) ∧ RES.2 = [] ++ r) := ⟨⟨RES.2, by rw [← hres], rfl⟩⟩
  have hlen : s.ds.row.length ≤ 1000000000 := Nat.le_trans hd.inv.2.1 hb
  have hwl : (namesOf s.ds.row false).length ≤ 16 := hd.inv.2.2
  have HS0 : Aside0 (DOk s.ds s.ds.row.length) := ⟨⟨⟨hd.inv.1, Nat.le_refl _, hd.inv.2.2⟩, hd.ne⟩⟩
  have HW0 : Aside0 (w0.heap.size ≤ w.heap.size) := ⟨hB.size⟩
  clear hI hB hd hres hb HD0
  go_enter Try.func14, Try.ntmps14
  go_wp2
  go_loopg [5] 17 (fun gf v5 wr => ∃ (s1 : FS) (acc : List ByteArray), Aside0 (∃ r, admitL dl (namesOf s1.ds.row false) s1 = (RES.1, r) ∧ RES.2 = acc ++ r) ∧ (namesOf s1.ds.row false).length < gf ∧ acc.length + gf ≤ 17 ∧ s1.hs.length = s.hs.length ∧ s1.ds.row.length ≤ s.ds.row.length ∧ Aside0 (DOk s1.ds s1.ds.row.length) ∧ Aside0 (IsX w0 wr g gd v ps s1) ∧ Aside0 (Below w0.heap.size w0 wr) ∧ Aside0 (KeptH TG w wr) ∧ Aside0 (w.heap.size ≤ wr.heap.size) ∧ Aside0 (Kd.R Kd.string 9 wr w.heap.size (fun _ => True) v5 acc))
  case atStart => exact ⟨s, [], HRES, by omega, by simp, rfl, Nat.le_refl _, HS0, HI0, HB0, ⟨KeptH.refl _ _⟩, ⟨Nat.le_refl _⟩, ⟨Kd.R_nil _ _ _ _ _⟩⟩
  case round =>
    obtain ⟨s1, acc, HR, hgf, hacc, hh1, hl1, HD, HI0, HB0, HK0, HZ0, HO0⟩ := hrel
    have hhX : s1.hs.length ≤ 1000000000 := by omega
    have hlX : s1.ds.row.length ≤ 1000000000 := by omega
    have c00 := HI0.out.cell0
    have hgl0 : g < wr.heap.size := blk_lt HI0.out.blk
    have hend : (∀ nm l, namesOf s1.ds.row false = nm :: l → mayS s1 nm = false) ∨ ∃ nm l, namesOf s1.ds.row false = nm :: l ∧ mayS s1 nm = true := by
      cases hw : namesOf s1.ds.row false with
      | nil => exact .inl (fun nm l h => by cases h)
      | cons nm l =>
        cases hm : mayS s1 nm with
        | true => exact .inr ⟨nm, l, rfl, hm⟩
        | false => exact .inl (fun nm' l' h => by injection h with h _; rw [← h]; exact hm)
    rcases hend with hno | ⟨nm, l, hw, hm⟩
    · have HFX := Aside0.mk (first_noX hlX hhX HD.out HI0.out HB0.out hno)
      have hr : s1 = RES.1 ∧ RES.2 = acc := by
        obtain ⟨r, h1, h2⟩ := HR.out
        have h3 : admitL dl (namesOf s1.ds.row false) s1 = (s1, []) := by
          cases hw : namesOf s1.ds.row false with
          | nil => rfl
          | cons nm l => unfold admitL; rw [hno nm l hw, if_neg (by decide)]
        rw [h3] at h1
        obtain ⟨h4, h5⟩ := Prod.mk.inj h1
        rw [← h5] at h2
        exact ⟨h4, by simpa using h2⟩
      obtain ⟨hr1, hr2⟩ := hr
      have HR1 := Aside0.mk hr1
      have HR2 := Aside0.mk hr2
      obtain ⟨A5, n5, rfl⟩ := Kd.R_slice HO0.out
      clear hno hr1 hr2 HR HD
      go_wp2_with (go_at_call 41; refine HFX.out.mono ?_; rintro e w1 ⟨rfl, hs⟩; have HS := Aside0.mk hs; clear hs)
      go_ret
      refine ⟨_, rfl, ?_, ?_⟩
      · rw [HR2.out]
        exact row_keep HO0.out HS.out.2.2 str_tg
      · rw [← HR1.out]
        exact SX.st ⟨HS.out.1, HS.out.2.1, HK0.out.trans HS.out.2.2⟩
    · have HFX := Aside0.mk (first_yesX hlX hhX HD.out HI0.out HB0.out hw hm)
      obtain ⟨i, x, hpos, hx, hxn⟩ := may_there hm
      have hilt : i < s1.hs.length := (List.getElem?_eq_some_iff.1 hx).1
      have hilp : i < ps.length := by rw [HI0.out.len]; exact hilt
      obtain ⟨p, hp⟩ : ∃ p, ps[i]? = some p := ⟨_, List.getElem?_eq_getElem hilp⟩
      have hfv : findV ps s1.hs nm = ptr p := by
        unfold findV
        rw [hpos, if_neg (by omega)]
        simp [List.getD, hp]
      have HX := Aside0.mk hx
      have HP := Aside0.mk hp
      have HSTEP := Aside0.mk (admit_ok HD.out hw dl)
      have hA1 : admit1 s1 nm dl = { s1 with hs := s1.hs.set i (evH x 0), ds := (beginF (endF s1.ds nm) nm dl).2 } := by
        unfold admit1
        rw [look_some hpos hx]
        simp only [setH_at hpos]
      have HA1 := Aside0.mk hA1
      have HR2 : Aside0 (∃ r, admitL dl (namesOf (admit1 s1 nm dl).ds.row false) (admit1 s1 nm dl) = (RES.1, r) ∧ RES.2 = (acc ++ [nm]) ++ r) := ⟨by
        obtain ⟨r, h1, h2⟩ := HR.out
        rw [hw] at h1
        unfold admitL at h1
        rw [hm, if_pos rfl] at h1
        obtain ⟨h4, h5⟩ := Prod.mk.inj h1
        rw [HSTEP.out.2.2]
        refine ⟨(admitL dl l (admit1 s1 nm dl)).2, by rw [← h4], ?_⟩
        rw [h2, ← h5]
        simp⟩
      have HFI := Aside0.mk (fun W (h : IsX w0 W g gd v ps { s1 with ds := endF s1.ds nm }) => find_raw nm h)
      have hfv2 : findV ps ({ s1 with ds := endF s1.ds nm } : FS).hs nm = ptr p := hfv
      rw [hfv2] at HFI
      have hlE : (endF s1.ds nm).row.length ≤ 1000000000 := Nat.le_trans (endRow_len s1.ds.row nm) hlX
      have HW := Aside0.mk hw
      have HLW : Aside0 (l.length + 1 < gk) := ⟨by rw [hw] at hgf; simpa using hgf⟩
      have HZ : Aside0 (w.heap.size ≤ wr.heap.size) := HZ0
      have hacc2 : acc.length ≤ 17 := by omega
      clear hpos hx hxn hp hfv hfv2 hA1 hm HR hilp HRES HS0
      go_wp2_with (first
        | (go_at_call 41; refine HFX.out.mono ?_; rintro e w1 ⟨rfl, hs1⟩; have HI1 := Aside0.mk hs1.1; have HB1 := Aside0.mk hs1.2.1; have HK1 := Aside0.mk (HK0.out.trans hs1.2.2); have HO1 := Aside0.mk (row_keep HO0.out hs1.2.2 str_tg); have HZ1 := Aside0.mk (Nat.le_trans HZ0.out hs1.2.2.1.1); clear hs1; have c01 := HI1.out.cell0; have hgl1 : g < w1.heap.size := blk_lt HI1.out.blk)
        | (go_at_call 38; refine (HFI.out _ HI1.out).mono ?_; rintro e w2 ⟨rfl, hb2⟩; have HI2 := Aside0.mk (HI1.out.below hb2); have HB2 := Aside0.mk (below_step HB1.out hb2); have HK2 := Aside0.mk (HK1.out.below hb2); have HO2 := Aside0.mk (Kd.R_below HO1.out hb2); have HZ2 := Aside0.mk (Nat.le_trans HZ1.out hb2.size); clear hb2; have c02 := HI2.out.cell0; have hgl2 : g < w2.heap.size := blk_lt HI2.out.blk)
        | (go_at_call 39; refine (happens_raw 0 HI2.out HB2.out HP.out HX.out _).mono ?_; rintro e w3 ⟨rfl, hs3⟩; have HI3 := Aside0.mk hs3.1; have HB3 := Aside0.mk hs3.2.1; have HK3 := Aside0.mk (HK2.out.trans hs3.2.2); have HO3 := Aside0.mk (row_keep HO2.out hs3.2.2 str_tg); have HZ3 := Aside0.mk (Nat.le_trans HZ2.out hs3.2.2.1.1); clear hs3; have c03 := HI3.out.cell0; have hgl3 : g < w3.heap.size := blk_lt HI3.out.blk)
        | (go_at_call 43; refine (beginX (s := { s1 with hs := s1.hs.set i (evH x 0), ds := endF s1.ds nm }) nm dl hlE HI3.out HB3.out).mono ?_; rintro e w4 ⟨rfl, hs4⟩; have HI4 := Aside0.mk hs4.1; have HB4 := Aside0.mk hs4.2.1; have HK4 := Aside0.mk (HK3.out.trans hs4.2.2); have HO4 := Aside0.mk (row_keep HO3.out hs4.2.2 str_tg); have HZ4 := Aside0.mk (Nat.le_trans HZ3.out hs4.2.2.1.1); clear hs4)
        | ((with_reducible refine gate_builtin (b := .append) (xs := #[.tmp 34, .tmp 36]) rfl ?_); (try (refine gate_guard (by rfl) ?_; dsimp only)); at_builtin; refine Kd.R_append Kd.string (w0 := w4) w.heap.size rfl (.tmp 34) (.tmp 36) 25 9 (.string ⟨#[]⟩) 16 rfl Try.underlying25 info9 rfl (by decide) (by omega) _ acc nm [.string nm] (fun _ => True) (fun _ => False) rfl ?aX ?aP (fun _ h => h.elim) (fun _ _ => trivial) ?aO ?aB ?aS ?aL ?_; (case aX => (show Value.slice (some ⟨w4.heap.size, 0, none⟩) 1 1 = _; simp)); (case aP => exact rfl); (case aO => exact HO4.out); (case aB => exact Below.refl _ _ |>.mono HZ4.out); (case aS => exact HZ4.out); (case aL => have := hacc2; omega); intro v5 w5 ho hb hg hat; have HO5 := Aside0.mk ho; have HG5 := Aside0.mk hg; clear ho hb hg hat))
      have hfin := row_grown HW0.out HI4.out HB4.out HK4.out HO4.out HG5.out
      have HF1 := Aside0.mk hfin.1
      have HF2 := Aside0.mk hfin.2.1
      have HF3 := Aside0.mk hfin.2.2
      have HF4 : Aside0 (w.heap.size ≤ w5.heap.size) := ⟨Nat.le_trans HZ4.out HG5.out.size⟩
      clear hfin
      obtain ⟨g', rfl⟩ : ∃ g', gk = g' + 1 := ⟨gk - 1, by omega⟩
      have hA2 := HA1.out
      go_roundg g'
      case measure => omega
      case rel =>
        refine ⟨admit1 s1 nm dl, acc ++ [nm], HR2, ?_, ?_, ?_, ?_, ⟨HSTEP.out.1⟩, ?_, HF2, HF3, HF4, HO5⟩
        · rw [HSTEP.out.2.2]
          have := HLW.out
          omega
        · simp
          omega
        · rw [admit_hs, hh1]
        · exact Nat.le_trans HSTEP.out.2.1 hl1
        · rw [hA2]
          exact HF1
end Go.Proofs.Ytmlmiocomlehgaa.Man
namespace Go.Proofs.Ytmlmiocomlehgaa.Man
open Go.RowKit Go.Proofs.YtmlmiocomlehgaaW.PrintWords Go.Proofs.YtmlmiocomlehgaaW.PrintLast Go.Proofs.YtmlmiocomlehgaaW.PrintMore Go.Proofs.Ytmlmiocomlehgaa.PA Go.Proofs.Ytmlmiocomlehgaa.PF Go.Proofs.Ytmlmiocomlehgaa.Hid Go.Proofs.Ytmlmiocomlehgaa.Na
variable {w0 w : World} {g gd : Nat} {v : Value} {ps : List Nat} {s : FS}
/-- The hosts that leave, one behind the other. -/
def leftL (l : List ByteArray) (dl : Int) : List HV → FS → FS × List ByteArray
  | [], s => (s, [])
  | x :: r, s => if (x.lv || memB x.nm l) = true then leftL l dl r s else ((leftL l dl r (leaveF s x dl)).1, x.nm :: (leftL l dl r (leaveF s x dl)).2)
/-- The names that come, one behind the other. -/
def cameL : List ByteArray → FS → FS × List ByteArray
  | [], s => (s, [])
  | nm :: r, s => match lookH s.hs nm with
    | none => ((cameL r { s with hs := s.hs ++ [⟨nm, 0, false⟩] }).1, nm :: (cameL r { s with hs := s.hs ++ [⟨nm, 0, false⟩] }).2)
    | some x => if x.lv = true then ((cameL r { s with hs := setH s.hs nm ⟨x.nm, nextS x.st 6, false⟩, ds := endF s.ds nm }).1, nm :: (cameL r { s with hs := setH s.hs nm ⟨x.nm, nextS x.st 6, false⟩, ds := endF s.ds nm }).2) else cameL r s
/-- What came, what left, why not; the fleet behind it. -/
def resolveF (s : FS) (l : List ByteArray) (dl : Int) : (List ByteArray × List ByteArray × Int) × FS :=
  if checkE l = 0 then (((cameL l (leftL l dl s.hs s).1).2, (leftL l dl s.hs s).2, 0), (cameL l (leftL l dl s.hs s).1).1) else (([], [], checkE l), s)
theorem beginF_len (d : DS) (nm : ByteArray) (dl : Int) : (beginF d nm dl).2.row.length ≤ d.row.length + 1 := by
  unfold beginF
  have := endRow_len d.row nm
  (repeat' split) <;> simp <;> omega
theorem leaveF_len (s : FS) (x : HV) (dl : Int) : (leaveF s x dl).ds.row.length ≤ s.ds.row.length + 1 ∧ (leaveF s x dl).hs.length ≤ s.hs.length := by
  have h1 := leaveD_len s.ds x.nm
  have h2 := beginF_len (leaveD s.ds x.nm) x.nm dl
  unfold leaveF
  split
  · exact ⟨Nat.le_trans h1 (Nat.le_succ _), by simp [delH, List.length_eraseIdx]; split <;> omega⟩
  · split
    · exact ⟨by show (beginF _ _ _).2.row.length ≤ _; omega, by simp [setH]⟩
    · exact ⟨Nat.le_trans h1 (Nat.le_succ _), by simp [setH]⟩
theorem checkE_cases (l : List ByteArray) : checkE l = 13 ∨ checkE l = 11 ∨ checkE l = 6 ∨ checkE l = 0 := by
  unfold checkE
  (repeat' split) <;> simp
theorem idx_mem (x : ByteArray) : ∀ (l : List ByteArray) (j : Int), 0 ≤ j → (0 ≤ idxOf l x j ↔ x ∈ l)
  | [], j, hj => by simp [idxOf]
  | y :: l, j, hj => by
    rw [idxOf]
    by_cases c : x = y
    · subst c
      rw [if_pos rfl]
      simp [hj]
    · rw [if_neg (fun h => c (tl_inj.1 h)), idx_mem x l (j + 1) (by omega)]
      simp [c]
theorem contains_some (x : ByteArray) (l : List ByteArray) (hm : l.length ≤ 9223372036854775807) : slices_Contains_string_string.f (l.length + 1) l x = some (memB x l) := by
  unfold slices_Contains_string_string.f
  rw [idx_some x l hm]
  simp only [Option.bind_some]
  congr 1
  by_cases c : x ∈ l
  · rw [memB_iff.2 c, decide_eq_true ((idx_mem x l 0 (by omega)).2 c)]
  · rw [memB_no.2 c, decide_eq_false (fun h => c ((idx_mem x l 0 (by omega)).1 h))]
theorem contains_raw (x : ByteArray) (l : List ByteArray) (A : Option Addr) (c : Nat) (w : World) (hC : Kd.C Kd.string w A l.length l) (hc : l.length ≤ c) :
    Calls Try.prog 36 #[.slice A l.length c, .string x] w fun e w' => e = .returned (.bool (memB x l)) ∧ Below w.heap.size w w' := by
  refine (slices_Contains_string_string.calls (l.length + 1) A c l x _ w hC hc (contains_some x l hC.2.1)).mono ?_
  rintro e w' ⟨rfl, h⟩
  exact ⟨rfl, Drawn0.below h⟩
/-- One is taken out: another stays. -/
theorem stay_erase {α β : Type} {ps : List α} {hs : List β} {i j : Nat} {p : α} {x : β} (hij : j ≠ i) (hp : ps[j]? = some p) (hx : hs[j]? = some x) : ∃ k : Nat, (ps.eraseIdx i)[k]? = some p ∧ (hs.eraseIdx i)[k]? = some x := by
  by_cases c : j < i
  · exact ⟨j, by rw [List.getElem?_eraseIdx, if_pos c]; exact hp, by rw [List.getElem?_eraseIdx, if_pos c]; exact hx⟩
  · refine ⟨j - 1, ?_, ?_⟩
    · rw [List.getElem?_eraseIdx, if_neg (by omega), show j - 1 + 1 = j by omega]
      exact hp
    · rw [List.getElem?_eraseIdx, if_neg (by omega), show j - 1 + 1 = j by omega]
      exact hx
/-- A host leaves: the others stay as they are. -/
theorem stay_leave {s : FS} {x y : HV} {dl : Int} {i j p q : Nat} (hn : ps.Nodup) (hpos : posH s.hs x.nm = (i : Int)) (hp : ps[i]? = some p) (hq : ps[j]? = some q) (hy : s.hs[j]? = some y) (hne : q ≠ p) :
    ∃ k : Nat, (leaveP x i ps)[k]? = some q ∧ (leaveF s x dl).hs[k]? = some y := by
  have hij : j ≠ i := by
    rintro rfl
    rw [hp] at hq
    injection hq with hq
    exact hne hq.symm
  unfold leaveP leaveF
  by_cases c : x.st = 3
  · rw [if_pos c, if_pos c]
    show ∃ k : Nat, _ ∧ (delH s.hs x.nm)[k]? = some y
    rw [delH_at hpos]
    exact stay_erase hij hq hy
  · rw [if_neg c, if_neg c]
    refine ⟨j, hq, ?_⟩
    split
    · show (setH s.hs x.nm _)[j]? = some y
      rw [setH_at hpos, List.getElem?_set_ne (Ne.symm hij)]
      exact hy
    · show (setH s.hs x.nm _)[j]? = some y
      rw [setH_at hpos, List.getElem?_set_ne (Ne.symm hij)]
      exact hy
/-- A new host: its block, the row with it. -/
theorem IsX.push {w5 : World} {nm : ByteArray} {v' : Value} {p : Nat} (h : IsX w0 w g gd v ps s) (hB : Below w0.heap.size w0 w) (hnm : ∀ x ∈ s.hs, x.nm ≠ nm)
    (hp0 : w.heap.size ≤ p) (hsz : w.heap.size ≤ w5.heap.size) (hpc : w5.heap[p]? = some (hcell ⟨nm, 0, false⟩)) (hg : ∀ k, k < w.heap.size → some k ≠ v.ownBlock → w5.heap[k]? = w.heap[k]?) (hos : w5.os = w.os ∧ w5.tape = w.tape ∧ w5.output = w.output)
    (hR : kP.R 67 w5 w0.heap.size (fun _ => True) v' (ps ++ [p])) :
    IsX w0 (w5.setCell ⟨g, 3, none⟩ v') g gd v' (ps ++ [p]) { s with hs := s.hs ++ [⟨nm, 0, false⟩] } ∧ Below w0.heap.size w0 (w5.setCell ⟨g, 3, none⟩ v') ∧ KeptH TF w (w5.setCell ⟨g, 3, none⟩ v') := by
  have hty : ∀ {k : Nat} {cs : Array Value} {t : TypeId} {fr : Nat × Nat}, w.heap[k]? = some (.cells cs t fr) → t ≠ 67 → w5.heap[k]? = some (.cells cs t fr) := by
    intro k cs t fr hk ht
    refine (hg k (blk_lt hk) (fun e => ?_)).trans hk
    obtain ⟨cs', hk'⟩ := Kd.R_typed h.row k e.symm
    rw [hk] at hk'
    injection hk' with hk'
    injection hk' with _ hk' _
    exact ht hk'
  have hgb := hty h.blk (by decide)
  have hfar : ∀ k, k ≠ g → (w5.setCell ⟨g, 3, none⟩ v').heap[k]? = w5.heap[k]? := fun k hk => Below.heap_setCell w5 ⟨g, 3, none⟩ _ k hk
  have hng : ∀ {k : Nat} {cs : Array Value} {t : TypeId} {fr : Nat × Nat}, w5.heap[k]? = some (.cells cs t fr) → t ≠ 64 → k ≠ g := by
    rintro k cs t fr hk ht rfl
    rw [hgb] at hk
    injection hk with hk
    injection hk with _ hk _
    exact ht hk.symm
  refine ⟨⟨by simpa using blk_set hgb 3 _, h.ge, ?_, ?_, ?_, by simp [h.len], fun i q x hq hx => ?_, ?_⟩, ?_, ?_⟩
  · refine h.dr.step (fun k hk => (hfar k (by rintro rfl; exact not_hidn_cells h.blk (by decide) hk)).trans ?_)
    refine hg k hk.lt (fun e => ?_)
    obtain ⟨cs', hk'⟩ := Kd.R_typed h.row k e.symm
    exact not_hidn_cells hk' (by decide) hk
  · exact Kd.R_set hR hgb (by simp [kP, Kd.scalar]) 3 _
  · rw [List.nodup_append]
    refine ⟨h.nd, by simp, fun a ha b hb => ?_⟩
    rw [List.mem_singleton.1 hb]
    rintro rfl
    obtain ⟨i, hi, e⟩ := List.mem_iff_getElem.1 ha
    have hlt : i < s.hs.length := by rw [← h.len]; exact hi
    have := blk_lt (h.hb i a s.hs[i] (by rw [← e]; exact List.getElem?_eq_getElem hi) (List.getElem?_eq_getElem hlt)).2
    omega
  · by_cases c : i < ps.length
    · rw [List.getElem?_append_left c] at hq
      rw [List.getElem?_append_left (by rw [← h.len]; exact c)] at hx
      obtain ⟨h1, h2⟩ := h.hb i q x hq hx
      have h3 := hty h2 (by decide)
      exact ⟨h1, (hfar q (hng h3 (by decide))).trans h3⟩
    · rw [List.getElem?_append_right (by omega)] at hq
      rw [List.getElem?_append_right (by rw [← h.len]; omega)] at hx
      have e1 : i - ps.length = 0 := by
        have := (List.getElem?_eq_some_iff.1 hq).1
        simp at this
        omega
      rw [e1] at hq
      rw [show i - s.hs.length = 0 by rw [← h.len]; exact e1] at hx
      simp only [List.getElem?_cons_zero, Option.some.injEq] at hq hx
      subst hq
      subst hx
      exact ⟨Nat.le_trans hB.size hp0, (hfar p (hng hpc (by decide))).trans hpc⟩
  · simp only [List.map_append, List.map_cons, List.map_nil]
    rw [List.nodup_append]
    refine ⟨h.names, by simp, fun a ha b hb => ?_⟩
    rw [List.mem_singleton.1 hb]
    obtain ⟨x, hx, rfl⟩ := List.mem_map.1 ha
    exact hnm x hx
  · refine below_set ⟨hos.1.trans hB.os, hos.2.1.trans hB.tape, hos.2.2.trans hB.output, Nat.le_trans hB.size hsz, fun k hk => (hg k (Nat.lt_of_lt_of_le hk hB.size) (fun e => by have := Kd.R_base h.row k e.symm; omega)).trans (hB.block k hk)⟩ h.ge
  · have hk5 : KeptH TF w w5 := by
      refine KeptH.grown (W := w) (row := v.ownBlock) (KeptH.refl _ _) ⟨hos.1, hos.2.1, hos.2.2, hsz, fun k hk hn => hg k hk hn⟩ (fun k hk => .inl ?_)
      obtain ⟨cs', hk'⟩ := Kd.R_typed h.row k hk
      exact .cells hk' (by decide)
    exact hk5.setCell (p := ⟨g, 3, none⟩) (.cells hgb (by decide)) _
end Go.Proofs.Ytmlmiocomlehgaa.Man
