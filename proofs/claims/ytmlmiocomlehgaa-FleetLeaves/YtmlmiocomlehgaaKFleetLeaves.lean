/-
  The fleet: contracts of its functions, proved by walking them, and plain facts, several texts in one (Gd, Pu, Pr, Pv, Lv). Conditions: none.
-/
import Derived.Test.YtmlmiocomlehgaaB7
import Derived.Test.YtmlmiocomlehgaaPAx2
set_option linter.unusedVariables false
set_option linter.unusedSimpArgs false
set_option linter.unusedSectionVars false
namespace Go.Proofs.Ytmlmiocomlehgaa.Man
open Go.RowKit Go.Proofs.YtmlmiocomlehgaaW.PrintWords Go.Proofs.YtmlmiocomlehgaaW.PrintLast Go.Proofs.YtmlmiocomlehgaaW.PrintMore Go.Proofs.Ytmlmiocomlehgaa.PA Go.Proofs.Ytmlmiocomlehgaa.PF Go.Proofs.Ytmlmiocomlehgaa.Hid Go.Proofs.Ytmlmiocomlehgaa.Na Go.Proofs.Ytmlmiocomlehgaa.Nil
/-- The six names. -/
def H6 : List ByteArray := [(⟨#[104, 48]⟩ : ByteArray), (⟨#[104, 49]⟩ : ByteArray), (⟨#[104, 50]⟩ : ByteArray), (⟨#[104, 51]⟩ : ByteArray), (⟨#[104, 52]⟩ : ByteArray), (⟨#[104, 53]⟩ : ByteArray)]
/-- Names that differ, of the six. -/
def Goods (r : List ByteArray) : Prop := r.Nodup ∧ r ⊆ H6
theorem Goods.len {r : List ByteArray} (h : Goods r) : r.length ≤ 6 := List.Nodup.length_le_of_subset h.1 h.2
theorem has_le (x : ByteArray) (l : List ByteArray) (hm : l.length ≤ 6) (k : Nat) (hk : 7 ≤ k) : hostlerref09_Has.f k l x = some (hasB x l) := by
  obtain ⟨j, rfl⟩ : ∃ j, k = l.length + 1 + j := ⟨k - (l.length + 1), by omega⟩
  induction j with
  | zero => exact has_some x l (by omega)
  | succ j ih =>
    by_cases c : 7 ≤ l.length + 1 + j
    · exact hostlerref09_Has.mono _ _ _ _ (ih c)
    · clear ih
      have h1 : ∀ j, hostlerref09_Has.f (l.length + 1 + j) l x = some (hasB x l) := by
        intro j
        induction j with
        | zero => exact has_some x l (by omega)
        | succ j ih => exact hostlerref09_Has.mono _ _ _ _ ih
      exact h1 (j + 1)
theorem good_loop (l : List Int) (hm : l.length ≤ 9223372036854775807) (d : Nat) : ∀ (k j : Nat) (acc : List ByteArray), j ≤ l.length → l.length - j = d → d + 8 ≤ k → Goods acc → ∃ r, hostlerref09_Good.l0 k l acc H6 (j : Int) = some r ∧ Goods r := by
  induction d with
  | zero =>
    intro k j acc hj hd hk hg
    obtain ⟨k, rfl⟩ : ∃ k', k = k' + 1 := ⟨k - 1, by omega⟩
    refine ⟨acc, ?_, hg⟩
    simp only [hostlerref09_Good.l0]
    rw [if_neg (by omega)]
  | succ d ih =>
    intro k j acc hj hd hk hg
    obtain ⟨k, rfl⟩ : ∃ k', k = k' + 1 := ⟨k - 1, by omega⟩
    simp only [hostlerref09_Good.l0]
    rw [if_pos (by omega), if_pos (by omega)]
    obtain ⟨q, hq, hq6⟩ := mod_n (rd l (j : Int)) 6 (by decide) (by decide)
    have hq' : wrap64 (Int.tmod (IntKind.u64.wrap (rd l (j : Int))) 6) = (q : Int) := hq
    rw [hq', if_pos (by omega), if_pos (show (q : Int) < (H6.length : Int) by show (q : Int) < 6; omega)]
    have hw : wrap64 ((j : Int) + 1) = ((j + 1 : Nat) : Int) := by unfold wrap64; omega
    rw [has_le _ _ hg.len k (by omega), hw]
    simp only [Option.bind_some]
    have hin : rdOf ByteArray.empty H6 (q : Int) ∈ H6 := by
      unfold rdOf
      rw [Int.toNat_natCast, List.getD_eq_getElem?_getD, List.getElem?_eq_getElem (show q < H6.length from hq6)]
      exact List.getElem_mem _
    generalize rdOf ByteArray.empty H6 (q : Int) = nm at hin
    by_cases c : nm ∈ acc
    · rw [(hasB_iff nm acc).2 c, if_pos rfl]
      exact ih k (j + 1) acc (by omega) (by omega) (by omega) hg
    · rw [hasB_no nm acc c, if_neg (by decide), if_pos (by have := hg.len; omega)]
      refine ih k (j + 1) (acc ++ [nm]) (by omega) (by omega) (by omega) ⟨?_, ?_⟩
      · rw [List.nodup_append]
        refine ⟨hg.1, by simp, fun a ha b hb => ?_⟩
        rw [List.mem_singleton.1 hb]
        rintro rfl
        exact c ha
      · intro a ha
        rcases List.mem_append.1 ha with ha | ha
        · exact hg.2 ha
        · rw [List.mem_singleton.1 ha]
          exact hin
theorem good_raw (l : List Int) (A : Option Addr) (c : Nat) (w : World) (hC : Kd.C (Kd.int .i64) w A l.length l) (hc : l.length ≤ c) :
    ∃ r, Goods r ∧ Calls Try.prog 11 #[.slice A l.length c] w fun e w' => ∃ v0_ : Value, e = .returned v0_ ∧ Kd.R Kd.string 9 w' w.heap.size (fun _ => True) v0_ r ∧ Below w.heap.size w w' := by
  obtain ⟨r, h1, h2⟩ := good_loop l hC.2.1 l.length (l.length + 8) 0 [] (Nat.zero_le _) rfl (Nat.le_refl _) ⟨List.nodup_nil, by simp⟩
  exact ⟨r, h2, hostlerref09_Good.calls (l.length + 8) A c l r w hC hc h1⟩
theorem h6_ok {x : ByteArray} (h : x ∈ H6) : nameB x = true ∧ x.size ≤ maxLen := by
  have : ∀ x ∈ H6, nameB x = true ∧ x.size ≤ maxLen := by decide
  exact this x h
theorem Goods.check {r : List ByteArray} (h : Goods r) : checkE r = 0 := by
  unfold checkE
  have := h.len
  rw [if_neg (by omega), if_neg, if_pos (nodupB_iff.2 h.1)]
  have : r.all nameB = true := List.all_eq_true.2 (fun x hx => (h6_ok (h.2 hx)).1)
  rw [this]
  decide
theorem look_mem {hs : List HV} {nm : ByteArray} (h : nm ∉ hs.map (·.nm)) : lookH hs nm = none := by
  rcases posH_bd hs nm with ⟨h1, _⟩ | ⟨i, x, h1, h2, h3⟩
  · exact look_none h1
  · exact absurd (List.mem_map.2 ⟨x, List.mem_of_getElem? h2, h3⟩) h
theorem look_at {hs : List HV} (hn : (hs.map (·.nm)).Nodup) {i : Nat} {x : HV} (hx : hs[i]? = some x) : lookH hs x.nm = some x := look_some (posH_of hn hx) hx
def freshH (l : List ByteArray) : List HV := l.map (fun nm => ⟨nm, 0, false⟩)
theorem fresh_nm (l : List ByteArray) : (freshH l).map (·.nm) = l := by simp [freshH, Function.comp_def]
/-- Names that aren't there come. -/
theorem came_fresh : ∀ (l : List ByteArray) (s : FS), l.Nodup → (∀ x ∈ l, x ∉ s.hs.map (·.nm)) → cameL l s = ({ s with hs := s.hs ++ freshH l }, l)
  | [], s, _, _ => by simp [cameL, freshH]
  | nm :: l, s, hn, hd => by
    unfold cameL
    obtain ⟨h1, h2⟩ := List.nodup_cons.1 hn
    rw [look_mem (hd nm (by simp))]
    dsimp only
    rw [came_fresh l { s with hs := s.hs ++ [⟨nm, 0, false⟩] } h2 (fun x hx hm => by
      simp only [List.map_append, List.map_cons, List.map_nil, List.mem_append, List.mem_singleton] at hm
      rcases hm with hm | hm
      · exact hd x (by simp [hx]) hm
      · exact h1 (hm ▸ hx))]
    simp [freshH]
/-- A fleet resolved for the first time. -/
theorem resolve_first (each guard : Int) {r : List ByteArray} (h : Goods r) (dl : Int) : resolveF ⟨each, guard, [], ⟨[]⟩⟩ r dl = ((r, [], 0), ⟨each, guard, freshH r, ⟨[]⟩⟩) := by
  unfold resolveF
  rw [if_pos h.check]
  have : leftL r dl ([] : List HV) ⟨each, guard, [], ⟨[]⟩⟩ = (⟨each, guard, [], ⟨[]⟩⟩, []) := rfl
  rw [this]
  dsimp only
  rw [came_fresh r ⟨each, guard, [], ⟨[]⟩⟩ h.1 (by simp)]
  rfl
end Go.Proofs.Ytmlmiocomlehgaa.Man
namespace Go.Proofs.Ytmlmiocomlehgaa.Man
open Go.RowKit Go.Proofs.YtmlmiocomlehgaaW.PrintWords Go.Proofs.YtmlmiocomlehgaaW.PrintLast Go.Proofs.YtmlmiocomlehgaaW.PrintMore Go.Proofs.Ytmlmiocomlehgaa.PA Go.Proofs.Ytmlmiocomlehgaa.PF Go.Proofs.Ytmlmiocomlehgaa.Hid Go.Proofs.Ytmlmiocomlehgaa.Na Go.Proofs.Ytmlmiocomlehgaa.Nil
theorem place_nil (nm : ByteArray) (j : Int) : placeOf [] nm j = -1 := rfl
theorem place_one (nm : ByteArray) (a : Int) (b : Bool) : placeOf [⟨nm, a, b⟩] nm 0 = 0 := by simp [placeOf]
theorem end_nil (nm : ByteArray) : endF ⟨[]⟩ nm = ⟨[]⟩ := by simp [endF, endRow, placeOf]
theorem end_one (nm : ByteArray) (a : Int) (b : Bool) : endF ⟨[⟨nm, a, b⟩]⟩ nm = ⟨[]⟩ := by simp [endF, endRow, place_one]
theorem ask_nil {nm : ByteArray} (h : nameB nm = true) : askF ⟨[]⟩ nm = (0, ⟨[⟨nm, 0, false⟩]⟩) := by
  unfold askF
  rw [if_pos h, if_pos (by rw [place_nil]; decide), if_pos (by decide)]
  rfl
theorem ask_one {nm : ByteArray} (h : nameB nm = true) (a : Int) (b : Bool) : askF ⟨[⟨nm, a, b⟩]⟩ nm = (6, ⟨[⟨nm, a, b⟩]⟩) := by
  unfold askF
  rw [if_pos h, if_neg (by rw [place_one]; decide)]
def clampN (n : Int) : Int := mn (mx n 0) 1099511627776
theorem begin_nil {nm : ByteArray} (h : nameB nm = true) (dl : Int) : beginF ⟨[]⟩ nm dl = (0, ⟨[⟨nm, clampN dl, true⟩]⟩) := by
  unfold beginF
  rw [if_pos h, if_pos (by rw [place_nil]; decide)]
  rfl
theorem idx_nil (nm : ByteArray) (j : Int) : idxOf [] nm j = -1 := rfl
theorem idx_one (nm : ByteArray) : idxOf [nm] nm 0 = 0 := by simp [idxOf]
theorem names_wait (nm : ByteArray) (a : Int) : namesOf [⟨nm, a, false⟩] false = [nm] := rfl
theorem names_under (nm : ByteArray) (a : Int) : namesOf [⟨nm, a, true⟩] false = [] := rfl
theorem due_none (now : Int) : dueOf ⟨[]⟩ now = [] := rfl
theorem past_self (now : Int) : pastB now (clampN now) = true := by
  unfold pastB clampN cutT mn mx
  refine decide_eq_true ?_
  (repeat' split) <;> omega
theorem due_one (nm : ByteArray) (now : Int) : dueOf ⟨[⟨nm, clampN now, true⟩]⟩ now = [nm] := by
  have hd : deadOf ⟨[⟨nm, clampN now, true⟩]⟩ nm = (clampN now, true) := dead_of (b := 1) ⟨by simp, by simp, by simp [namesOf]⟩ (x := ⟨nm, clampN now, true⟩) (by simp)
  unfold dueOf
  show List.filter _ [nm] = [nm]
  rw [List.filter_cons, hd, if_pos (past_self now)]
  rfl
section
variable {s : FS} {i : Nat} {x : HV} (hn : (s.hs.map (·.nm)).Nodup) (hx : s.hs[i]? = some x) (hb : nameB x.nm = true)
include hn hx
theorem state_at : stateV s x.nm = (x.st, true) := by unfold stateV; rw [look_at hn hx]
theorem leaves_at : leavesV s x.nm = x.lv := by unfold leavesV; rw [look_at hn hx]
theorem setH_i (y : HV) : setH s.hs x.nm y = s.hs.set i y := setH_at (posH_of hn hx) y
theorem delH_i : delH s.hs x.nm = s.hs.eraseIdx i := delH_at (posH_of hn hx)
theorem empty_yes (h : nextB x.st 4 = true) (hl : x.lv = false) : emptyF s x.nm = (true, { s with hs := s.hs.set i (evH x 4), ds := endF s.ds x.nm }) := by
  unfold emptyF
  rw [look_at hn hx]
  simp only [h, if_true, hl, Bool.false_eq_true, if_false]
  rw [setH_i hn hx]
theorem empty_gone (h : nextB x.st 4 = true) (hl : x.lv = true) : emptyF s x.nm = (true, { s with hs := s.hs.eraseIdx i, ds := endF s.ds x.nm }) := by
  unfold emptyF
  rw [look_at hn hx]
  simp only [h, if_true, hl]
  rw [delH_i hn hx]
include hb
theorem known_at : knownE s x.nm = 0 := by
  unfold knownE
  rw [if_pos hb, posH_of hn hx, if_neg (by omega)]
theorem drain_yes (h1 : x.st = 0) : drainF s x.nm = ((askF s.ds x.nm).1, { s with ds := (askF s.ds x.nm).2 }) := by
  unfold drainF
  rw [if_pos (known_at hn hx hb), look_at hn hx]
  dsimp only
  rw [if_neg (by omega)]
theorem drain_no (h1 : x.st = 1 ∨ x.st = 3) : drainF s x.nm = (8, s) := by
  unfold drainF
  rw [if_pos (known_at hn hx hb), look_at hn hx]
  dsimp only
  rw [if_pos h1]
theorem undrain_wait (hl : x.lv = false) (h : 0 ≤ idxOf (namesOf s.ds.row false) x.nm 0) : undrainF s x.nm = (0, { s with ds := endF s.ds x.nm }) := by
  unfold undrainF
  rw [if_pos (known_at hn hx hb), look_at hn hx]
  dsimp only
  rw [hl, if_neg (by decide), if_neg (by omega)]
theorem undrain_back (hl : x.lv = false) (h : idxOf (namesOf s.ds.row false) x.nm 0 < 0) (he : nextB x.st 1 = true) : undrainF s x.nm = (0, { s with hs := s.hs.set i (evH x 1), ds := endF s.ds x.nm }) := by
  unfold undrainF
  rw [if_pos (known_at hn hx hb), look_at hn hx]
  dsimp only
  rw [hl, if_neg (by decide), if_pos h, if_pos he, setH_i hn hx]
theorem undrain_no (hl : x.lv = false) (h : idxOf (namesOf s.ds.row false) x.nm 0 < 0) (he : nextB x.st 1 = false) : undrainF s x.nm = (8, s) := by
  unfold undrainF
  rw [if_pos (known_at hn hx hb), look_at hn hx]
  dsimp only
  rw [hl, if_neg (by decide), if_pos h, he, if_neg (by decide)]
theorem force_yes (h : x.st ≠ 3) (now : Int) : forceF s x.nm now = ((beginF (endF s.ds x.nm) x.nm now).1, { s with hs := s.hs.set i (evH x 0), ds := (beginF (endF s.ds x.nm) x.nm now).2 }) := by
  unfold forceF
  rw [if_pos (known_at hn hx hb), look_at hn hx]
  dsimp only
  rw [if_neg h, setH_i hn hx]
theorem force_no (h : x.st = 3) (now : Int) : forceF s x.nm now = (8, s) := by
  unfold forceF
  rw [if_pos (known_at hn hx hb), look_at hn hx]
  dsimp only
  rw [if_pos h]
theorem eject_no (h : x.st ≠ 0) : ejectF s x.nm = (8, s) := by
  unfold ejectF
  rw [if_pos (known_at hn hx hb), look_at hn hx]
  dsimp only
  rw [if_neg h]
end
end Go.Proofs.Ytmlmiocomlehgaa.Man
namespace Go.Proofs.Ytmlmiocomlehgaa.Man
open Go.RowKit Go.Proofs.YtmlmiocomlehgaaW.PrintWords Go.Proofs.YtmlmiocomlehgaaW.PrintLast Go.Proofs.YtmlmiocomlehgaaW.PrintMore Go.Proofs.Ytmlmiocomlehgaa.PA Go.Proofs.Ytmlmiocomlehgaa.PF Go.Proofs.Ytmlmiocomlehgaa.Hid Go.Proofs.Ytmlmiocomlehgaa.Na Go.Proofs.Ytmlmiocomlehgaa.Nil
theorem look_cases (hs : List HV) (nm : ByteArray) : (lookH hs nm = none ∧ posH hs nm = -1 ∧ nm ∉ hs.map (·.nm)) ∨ ∃ (i : Nat) (x : HV), lookH hs nm = some x ∧ posH hs nm = (i : Int) ∧ hs[i]? = some x ∧ x.nm = nm := by
  rcases posH_bd hs nm with ⟨h1, h2⟩ | ⟨i, x, h1, h2, h3⟩
  · refine .inl ⟨look_none h1, h1, fun h => ?_⟩
    obtain ⟨x, hx, e⟩ := List.mem_map.1 h
    exact h2 x hx e
  · exact .inr ⟨i, x, look_some h1 h2, h1, h2, h3⟩
theorem setH_nm {hs : List HV} {nm : ByteArray} {x y : HV} (h : lookH hs nm = some x) (hy : y.nm = x.nm) : (setH hs nm y).map (·.nm) = hs.map (·.nm) := by
  rcases look_cases hs nm with ⟨h1, _⟩ | ⟨i, z, h1, h2, h3, h4⟩
  · rw [h] at h1; cases h1
  · rw [h] at h1
    injection h1 with h1
    subst h1
    rw [setH_at h2, List.map_set, hy]
    refine set_same ?_
    rw [List.getElem?_map, h3]
    rfl
theorem admit1_nm (s : FS) (nm : ByteArray) (dl : Int) : (admit1 s nm dl).hs.map (·.nm) = s.hs.map (·.nm) := by
  unfold admit1
  dsimp only
  split
  · rename_i x hx
    exact setH_nm hx rfl
  · rfl
theorem admitL_spec (dl : Int) : ∀ (l : List ByteArray) (s : FS) (b : Nat), DOk s.ds b → namesOf s.ds.row false = l →
    ∃ adm rest, l = adm ++ rest ∧ (admitL dl l s).2 = adm ∧ namesOf (admitL dl l s).1.ds.row false = rest ∧ (admitL dl l s).1.hs.map (·.nm) = s.hs.map (·.nm) ∧ (admitL dl l s).1.each = s.each ∧ (admitL dl l s).1.guard = s.guard ∧ ∀ nm l', rest = nm :: l' → mayS (admitL dl l s).1 nm = false
  | [], s, b, h, hw => ⟨[], [], rfl, rfl, hw, rfl, rfl, rfl, fun _ _ h => by cases h⟩
  | nm :: l, s, b, h, hw => by
    unfold admitL
    by_cases c : mayS s nm = true
    · rw [if_pos c]
      obtain ⟨h1, h2, h3⟩ := admit_ok h hw dl
      obtain ⟨adm, rest, h4, h5, h6, h7, h8, h9, h10⟩ := admitL_spec dl l (admit1 s nm dl) _ h1 h3
      exact ⟨nm :: adm, rest, by rw [h4]; rfl, by rw [h5], h6, h7.trans (admit1_nm s nm dl), h8, h9, h10⟩
    · rw [if_neg c]
      refine ⟨[], nm :: l, rfl, rfl, hw, rfl, rfl, rfl, fun nm' l' h => ?_⟩
      injection h with h _
      rw [← h]
      simpa using c
/-- What FleetRow keeps. -/
structure RowI (s : FS) (names asked got : List ByteArray) (each gu : Int) (n : Nat) : Prop where
  inv : FInv s n
  nm : s.hs.map (·.nm) = names
  row : got ++ namesOf s.ds.row false = asked
  sub : ∀ x ∈ namesOf s.ds.row false, x ∈ names
  e : s.each = each
  g : s.guard = gu
theorem act_le (hs : List HV) : actN hs ≤ hs.length := List.length_filter_le _ _
theorem cap_eq {s : FS} {names : List ByteArray} {e : Nat} (hg : Goods names) (hn : s.hs.map (·.nm) = names) (he : s.each = (e : Int)) (h8 : e ≤ 8) : capV s = (actN s.hs : Int) * (e : Int) ∧ 0 ≤ capV s ∧ capV s ≤ 48 := by
  have h1 := act_le s.hs
  have h2 : s.hs.length ≤ 6 := by
    have := hg.len
    rw [← hn, List.length_map] at this
    exact this
  have h3 : pos0 s.each = (e : Int) := by rw [he]; unfold pos0; rw [if_pos (by omega)]
  unfold capV
  rw [h3]
  generalize actN s.hs = a at h1
  have ha : a ≤ 6 := Nat.le_trans h1 h2
  have h4 : a * e ≤ 6 * 8 := Nat.mul_le_mul ha h8
  have h5 : (a : Int) * (e : Int) = ((a * e : Nat) : Int) := by simp
  rw [h5]
  generalize a * e = m at h4
  have : wrap64 (m : Int) = (m : Int) := by unfold wrap64; omega
  rw [this]
  omega
theorem row_admit {s : FS} {names asked got : List ByteArray} {e n : Nat} {gu : Int} (hg : Goods names) (h8 : e ≤ 8) (h : RowI s names asked got (e : Int) gu n) (dl : Int) :
    RowI (admitF s dl).2 names asked (got ++ (admitF s dl).1) (e : Int) gu (n + 1) ∧ (got ++ (admitF s dl).1).length ≤ asked.length ∧ ((got ++ (admitF s dl).1).length < asked.length → decide (gu ≤ capV (admitF s dl).2 - (e : Int)) = false) := by
  obtain ⟨adm, rest, h1, h2, h3, h4, h5, h6, h7⟩ := admitL_spec dl (namesOf s.ds.row false) s _ h.inv.ok rfl
  have ha : (admitF s dl).1 = adm := h2
  have hr : namesOf (admitF s dl).2.ds.row false = rest := h3
  have hn : (admitF s dl).2.hs.map (·.nm) = names := h4.trans h.nm
  have he : (admitF s dl).2.each = (e : Int) := h5.trans h.e
  have hgu : (admitF s dl).2.guard = gu := h6.trans h.g
  have hm : ∀ nm l', rest = nm :: l' → mayS (admitF s dl).2 nm = false := h7
  have hrow := h.row
  rw [h1] at hrow
  rw [ha]
  have hI : RowI (admitF s dl).2 names asked (got ++ adm) (e : Int) gu (n + 1) := ⟨h.inv.admit dl, hn, by rw [hr, List.append_assoc]; exact hrow, fun x hx => h.sub x (by rw [h1]; rw [hr] at hx; simp [hx]), he, hgu⟩
  refine ⟨hI, ?_, fun hlt => ?_⟩
  · rw [← hrow]
    simp
  · cases rest with
    | nil =>
      rw [← hrow] at hlt
      simp at hlt
    | cons nm l' =>
      have hmay := hm nm l' rfl
      have hin : nm ∈ (admitF s dl).2.hs.map (·.nm) := by
        rw [hn]
        exact h.sub nm (by rw [h1]; simp)
      generalize (admitF s dl).2 = s' at hn he hgu hmay hin
      obtain ⟨hc1, hc2, hc3⟩ := cap_eq hg hn he h8
      rcases look_cases s'.hs nm with ⟨_, _, h⟩ | ⟨i, x, _, h2, h3, h4⟩
      · exact absurd hin h
      · have hilt := (List.getElem?_eq_some_iff.1 h3).1
        unfold mayS mayI at hmay
        rw [h2, if_neg (by rw [List.length_map]; omega)] at hmay
        have hc : wrap64 ((actI (s'.hs.map (·.st)) : Int) * pos0 s'.each) = capV s' := by rw [actI_map]; rfl
        have hp : pos0 s'.each = (e : Int) := by rw [he]; unfold pos0; rw [if_pos (by omega)]
        rw [hc, hp, hgu] at hmay
        have hw : wrap64 (capV s' - (e : Int)) = capV s' - (e : Int) := by unfold wrap64; omega
        rw [hw] at hmay
        split at hmay
        · exact hmay
        · cases hmay
theorem idx_last (nm : ByteArray) : ∀ (l : List ByteArray) (j : Int), nm ∉ l → idxOf (l ++ [nm]) nm j = j + (l.length : Int)
  | [], j, _ => by simp [idxOf]
  | y :: l, j, h => by
    have hy : nm ≠ y := fun e => h (by rw [e]; simp)
    rw [List.cons_append, idxOf, if_neg (fun e => hy (tl_inj.1 e)), idx_last nm l (j + 1) (fun e => h (by simp [e]))]
    simp
    omega
theorem ask_cases (d : DS) (nm : ByteArray) : ((askF d nm).1 ≠ 0 ∧ (askF d nm).2 = d) ∨ ((askF d nm).1 = 0 ∧ (askF d nm).2 = ⟨d.row ++ [⟨nm, 0, false⟩]⟩ ∧ nm ∉ d.row.map (·.f0)) := by
  unfold askF
  split
  · split
    · rename_i hp
      split
      · exact .inr ⟨rfl, rfl, (place_neg nm d.row 0 (by omega)).1 hp⟩
      · exact .inl ⟨show (7 : Int) ≠ 0 by decide, rfl⟩
    · exact .inl ⟨show (6 : Int) ≠ 0 by decide, rfl⟩
  · exact .inl ⟨show (11 : Int) ≠ 0 by decide, rfl⟩
theorem drain_cases {s : FS} {nm : ByteArray} (hn : nm ∈ s.hs.map (·.nm)) (hb : nameB nm = true) : ((drainF s nm).1 ≠ 0 ∧ (drainF s nm).2 = s) ∨ ((drainF s nm).1 = 0 ∧ (drainF s nm).2 = { s with ds := ⟨s.ds.row ++ [⟨nm, 0, false⟩]⟩ } ∧ nm ∉ s.ds.row.map (·.f0)) := by
  rcases look_cases s.hs nm with ⟨_, _, h⟩ | ⟨i, x, h1, h2, h3, h4⟩
  · exact absurd hn h
  · have hk : knownE s nm = 0 := by
      unfold knownE
      rw [if_pos hb, h2, if_neg (by omega)]
    unfold drainF
    rw [if_pos hk, h1]
    dsimp only
    split
    · exact .inl ⟨show (8 : Int) ≠ 0 by decide, rfl⟩
    · rcases ask_cases s.ds nm with ⟨h5, h6⟩ | ⟨h5, h6, h7⟩
      · exact .inl ⟨h5, by dsimp only; rw [h6]⟩
      · exact .inr ⟨h5, by dsimp only; rw [h6], h7⟩
theorem row_drain {s : FS} {names asked got : List ByteArray} {e gu : Int} {n : Nat} (hn : n ≤ 100) (hg : Goods names) (h : RowI s names asked got e gu n) {nm : ByteArray} (hm : nm ∈ names) :
    ((drainF s nm).1 ≠ 0 ∧ RowI (drainF s nm).2 names asked got e gu (n + 1)) ∨ ((drainF s nm).1 = 0 ∧ RowI (drainF s nm).2 names (asked ++ [nm]) got e gu (n + 1) ∧ idxOf (namesOf (drainF s nm).2.ds.row false) nm 0 = ((asked.length : Int) + 1) - (got.length : Int) - 1) := by
  have hi := h.inv.drain hn nm
  rcases drain_cases (s := s) (by rw [h.nm]; exact hm) (h6_ok (hg.2 hm)).1 with ⟨h1, h2⟩ | ⟨h1, h2, h3⟩
  · refine .inl ⟨h1, ?_⟩
    rw [h2] at hi ⊢
    exact ⟨hi, h.nm, h.row, h.sub, h.e, h.g⟩
  · refine .inr ⟨h1, ?_, ?_⟩
    · rw [h2] at hi ⊢
      have hw : namesOf (s.ds.row ++ [⟨nm, 0, false⟩]) false = namesOf s.ds.row false ++ [nm] := by rw [namesOf_append]; rfl
      refine ⟨hi, h.nm, ?_, ?_, h.e, h.g⟩
      · show got ++ namesOf (s.ds.row ++ [⟨nm, 0, false⟩]) false = _
        rw [hw, ← List.append_assoc, h.row]
      · intro x hx
        have hx' : x ∈ namesOf (s.ds.row ++ [⟨nm, 0, false⟩]) false := hx
        rw [hw] at hx'
        rcases List.mem_append.1 hx' with hx' | hx'
        · exact h.sub x hx'
        · rw [List.mem_singleton.1 hx']
          exact hm
    · rw [h2]
      show idxOf (namesOf (s.ds.row ++ [⟨nm, 0, false⟩]) false) nm 0 = _
      have hw : namesOf (s.ds.row ++ [⟨nm, 0, false⟩]) false = namesOf s.ds.row false ++ [nm] := by rw [namesOf_append]; rfl
      have hnw : nm ∉ namesOf s.ds.row false := fun hx => h3 ((mem_names s.ds.row nm).2 (.inl hx))
      rw [hw, idx_last nm _ 0 hnw, ← h.row]
      simp
      omega
end Go.Proofs.Ytmlmiocomlehgaa.Man
namespace Go.Proofs.Ytmlmiocomlehgaa.Man
open Go.RowKit Go.Proofs.YtmlmiocomlehgaaW.PrintWords Go.Proofs.YtmlmiocomlehgaaW.PrintLast Go.Proofs.YtmlmiocomlehgaaW.PrintMore Go.Proofs.Ytmlmiocomlehgaa.PA Go.Proofs.Ytmlmiocomlehgaa.PF Go.Proofs.Ytmlmiocomlehgaa.Hid Go.Proofs.Ytmlmiocomlehgaa.Na Go.Proofs.Ytmlmiocomlehgaa.Nil
theorem has_mem (x : ByteArray) (l : List ByteArray) : hasB x l = memB x l := by
  by_cases c : x ∈ l
  · rw [(hasB_iff x l).2 c, memB_iff.2 c]
  · rw [hasB_no x l c, memB_no.2 c]
def notin (l p : List ByteArray) : List ByteArray := p.filter (fun nm => !memB nm l)
theorem mem_notin {l p : List ByteArray} {x : ByteArray} : x ∈ notin l p ↔ x ∈ p ∧ x ∉ l := by
  unfold notin
  rw [List.mem_filter, Bool.not_eq_true', memB_no]
theorem notin_app (l p q : List ByteArray) : notin l (p ++ q) = notin l p ++ notin l q := by simp [notin]
theorem notin_yes {l : List ByteArray} {x : ByteArray} (h : memB x l = true) : notin l [x] = [] := by simp [notin, h]
theorem notin_no {l : List ByteArray} {x : ByteArray} (h : memB x l = false) : notin l [x] = [x] := by simp [notin, h]
def mkb (l : List ByteArray) (nm : ByteArray) : HV := if memB nm l = true then ⟨nm, 0, false⟩ else ⟨nm, 1, true⟩
theorem mkb_nm (l : List ByteArray) (nm : ByteArray) : (mkb l nm).nm = nm := by unfold mkb; split <;> rfl
theorem mkb_map (l p : List ByteArray) : (p.map (mkb l)).map (·.nm) = p := by
  rw [List.map_map]
  have : ((fun x : HV => x.nm) ∘ mkb l) = id := by funext x; exact mkb_nm l x
  rw [this, List.map_id]
def rwD (dl : Int) (nm : ByteArray) : S88 := ⟨nm, clampN dl, true⟩
theorem rwD_nm (dl : Int) (p : List ByteArray) : (p.map (rwD dl)).map (·.f0) = p := by simp [rwD, Function.comp_def]
theorem rwD_wait (dl : Int) : ∀ p : List ByteArray, namesOf (p.map (rwD dl)) false = []
  | [] => rfl
  | x :: p => by
    have := rwD_wait dl p
    simp [namesOf, rwD] at this ⊢
theorem rwD_under (dl : Int) : ∀ p : List ByteArray, namesOf (p.map (rwD dl)) true = p
  | [] => rfl
  | x :: p => by
    have := rwD_under dl p
    simp [namesOf, rwD, Function.comp_def] at this ⊢
    exact this
theorem begin_fresh {d : DS} {nm : ByteArray} (h : nameB nm = true) (hn : nm ∉ d.row.map (·.f0)) (dl : Int) : (beginF d nm dl).2 = ⟨d.row ++ [rwD dl nm]⟩ := by
  unfold beginF
  rw [if_pos h, if_pos ((place_neg nm d.row 0 (by omega)).2 hn)]
  rfl
theorem left_spec (l : List ByteArray) (dl : Int) (e gu : Int) : ∀ (q p : List ByteArray), (p ++ q).Nodup → (∀ x ∈ q, nameB x = true) →
    leftL l dl (freshH q) ⟨e, gu, p.map (mkb l) ++ freshH q, ⟨(notin l p).map (rwD dl)⟩⟩ = (⟨e, gu, (p ++ q).map (mkb l), ⟨(notin l (p ++ q)).map (rwD dl)⟩⟩, notin l q)
  | [], p, _, _ => by
    show ((⟨e, gu, p.map (mkb l) ++ freshH [], ⟨(notin l p).map (rwD dl)⟩⟩ : FS), ([] : List ByteArray)) = _
    simp [freshH, notin]
  | nm :: q, p, hn, hb => by
    have hn2 : (p ++ [nm] ++ q).Nodup := by simpa using hn
    have ih := left_spec l dl e gu q (p ++ [nm]) hn2 (fun x hx => hb x (by simp [hx]))
    have hassoc : p ++ [nm] ++ q = p ++ nm :: q := by simp
    rw [hassoc] at ih
    show leftL l dl (⟨nm, 0, false⟩ :: freshH q) _ = _
    unfold leftL
    cases hm : memB nm l with
    | true =>
      rw [Bool.false_or, if_pos rfl]
      have e1 : p.map (mkb l) ++ freshH (nm :: q) = (p ++ [nm]).map (mkb l) ++ freshH q := by simp [freshH, mkb, hm]
      have e2 : notin l p = notin l (p ++ [nm]) := by rw [notin_app, notin_yes hm, List.append_nil]
      have e3 : notin l (nm :: q) = notin l q := by simp [notin, hm]
      rw [e1, e2, ih, e3]
    | false =>
      rw [Bool.false_or, if_neg (by decide)]
      have e3 : notin l (nm :: q) = nm :: notin l q := by simp [notin, hm]
      have hlv : leaveF ⟨e, gu, p.map (mkb l) ++ freshH (nm :: q), ⟨(notin l p).map (rwD dl)⟩⟩ ⟨nm, 0, false⟩ dl = ⟨e, gu, (p ++ [nm]).map (mkb l) ++ freshH q, ⟨(notin l (p ++ [nm])).map (rwD dl)⟩⟩ := by
        have hnd : (((⟨e, gu, p.map (mkb l) ++ freshH (nm :: q), ⟨(notin l p).map (rwD dl)⟩⟩ : FS)).hs.map (·.nm)).Nodup := by
          show ((p.map (mkb l) ++ freshH (nm :: q)).map (·.nm)).Nodup
          rw [List.map_append, mkb_map, fresh_nm]
          exact hn
        have hat : ((⟨e, gu, p.map (mkb l) ++ freshH (nm :: q), ⟨(notin l p).map (rwD dl)⟩⟩ : FS)).hs[p.length]? = some ⟨nm, 0, false⟩ := by
          show (p.map (mkb l) ++ freshH (nm :: q))[p.length]? = _
          rw [List.getElem?_append_right (by simp)]
          simp [freshH]
        have hs := setH_i (x := ⟨nm, 0, false⟩) hnd hat ⟨nm, 1, true⟩
        have hd : leaveD ⟨(notin l p).map (rwD dl)⟩ nm = ⟨(notin l p).map (rwD dl)⟩ := by
          unfold leaveD
          rw [rwD_wait, idx_nil, if_neg (by decide)]
        have hnp : nm ∉ p := fun h => by
          have := (List.nodup_append.1 hn).2.2 nm h nm (by simp)
          exact this rfl
        have hbg := begin_fresh (d := ⟨(notin l p).map (rwD dl)⟩) (hb nm (by simp)) (by rw [rwD_nm]; exact fun h => hnp (mem_notin.1 h).1) dl
        unfold leaveF
        rw [if_neg (show ¬ ((0 : Int) = 3) by decide), if_pos (show nextB 0 5 = true by decide)]
        dsimp only
        rw [hd, hbg]
        have hs' : setH (p.map (mkb l) ++ freshH (nm :: q)) nm ⟨nm, nextS 0 5, true⟩ = (p.map (mkb l) ++ freshH (nm :: q)).set p.length ⟨nm, 1, true⟩ := hs
        rw [hs']
        have e4 : (p.map (mkb l) ++ freshH (nm :: q)).set p.length ⟨nm, 1, true⟩ = (p ++ [nm]).map (mkb l) ++ freshH q := by
          rw [List.set_append_right _ _ (by simp)]
          simp [freshH, mkb, hm]
        rw [e4, notin_app, notin_no hm]
        simp only [List.map_append, List.map_cons, List.map_nil]
      rw [hlv, ih, e3]
theorem nd_mem {hs : List HV} (hn : (hs.map (·.nm)).Nodup) {x : HV} (hx : x ∈ hs) : lookH hs x.nm = some x := by
  obtain ⟨i, hi⟩ := List.getElem?_of_mem hx
  exact look_at hn hi
theorem came_spec (a l : List ByteArray) (e gu : Int) (d : DS) (ha : a.Nodup) : ∀ (q p : List ByteArray), (p ++ q).Nodup → (∀ x ∈ q, x ∈ l) →
    cameL q ⟨e, gu, a.map (mkb l) ++ freshH (notin a p), d⟩ = (⟨e, gu, a.map (mkb l) ++ freshH (notin a (p ++ q)), d⟩, notin a q)
  | [], p, _, _ => by simp [cameL, notin]
  | nm :: q, p, hn, hl => by
    have hn2 : (p ++ [nm] ++ q).Nodup := by simpa using hn
    have ih := came_spec a l e gu d ha q (p ++ [nm]) hn2 (fun x hx => hl x (by simp [hx]))
    have hassoc : p ++ [nm] ++ q = p ++ nm :: q := by simp
    rw [hassoc] at ih
    have hnm : (a.map (mkb l) ++ freshH (notin a p)).map (·.nm) = a ++ notin a p := by rw [List.map_append, mkb_map, fresh_nm]
    have hpn : p.Nodup := (List.nodup_append.1 hn).1
    have hnd : ((a.map (mkb l) ++ freshH (notin a p)).map (·.nm)).Nodup := by
      rw [hnm, List.nodup_append]
      exact ⟨ha, hpn.sublist List.filter_sublist, fun x hx y hy => by rintro rfl; exact (mem_notin.1 hy).2 hx⟩
    unfold cameL
    cases hm : memB nm a with
    | true =>
      have hin : nm ∈ a := memB_iff.1 hm
      have hx : mkb l nm ∈ a.map (mkb l) ++ freshH (notin a p) := List.mem_append.2 (.inl (List.mem_map.2 ⟨nm, hin, rfl⟩))
      have hk := nd_mem hnd hx
      rw [mkb_nm] at hk
      have hv : mkb l nm = ⟨nm, 0, false⟩ := by unfold mkb; rw [if_pos (memB_iff.2 (hl nm (by simp)))]
      rw [hv] at hk
      rw [hk]
      dsimp only
      rw [if_neg (by decide)]
      have e2 : notin a p = notin a (p ++ [nm]) := by rw [notin_app, notin_yes hm, List.append_nil]
      have e3 : notin a (nm :: q) = notin a q := by simp [notin, hm]
      rw [e2, ih, e3]
    | false =>
      have hna : nm ∉ a := memB_no.1 hm
      have hnp : nm ∉ p := fun h => (List.nodup_append.1 hn).2.2 nm h nm (by simp) rfl
      rw [look_mem (hs := a.map (mkb l) ++ freshH (notin a p)) (by rw [hnm]; intro h; rcases List.mem_append.1 h with h | h; exact hna h; exact hnp (mem_notin.1 h).1)]
      dsimp only
      have e1 : a.map (mkb l) ++ freshH (notin a p) ++ [⟨nm, 0, false⟩] = a.map (mkb l) ++ freshH (notin a (p ++ [nm])) := by
        rw [notin_app, notin_no hm]
        simp [freshH]
      have e3 : notin a (nm :: q) = nm :: notin a q := by simp [notin, hm]
      rw [e1, ih, e3]
/-- The fleet resolved from one list to another. -/
def twoS (a b : List ByteArray) : FS := ⟨2, 0, a.map (mkb b) ++ freshH (notin a b), ⟨(notin b a).map (rwD 7)⟩⟩
theorem resolve_second {a b : List ByteArray} (ha : Goods a) (hb : Goods b) : resolveF ⟨2, 0, freshH a, ⟨[]⟩⟩ b 7 = ((notin a b, notin b a, 0), twoS a b) := by
  unfold resolveF
  have h1 := left_spec b 7 2 0 a [] (by simpa using ha.1) (fun x hx => (h6_ok (ha.2 hx)).1)
  have h1' : leftL b 7 (freshH a) ⟨2, 0, freshH a, ⟨[]⟩⟩ = (⟨2, 0, a.map (mkb b), ⟨(notin b a).map (rwD 7)⟩⟩, notin b a) := by simpa [notin] using h1
  have h2 := came_spec a b 2 0 ⟨(notin b a).map (rwD 7)⟩ ha.1 b [] (by simpa using hb.1) (fun x hx => hx)
  have h2' : cameL b ⟨2, 0, a.map (mkb b), ⟨(notin b a).map (rwD 7)⟩⟩ = (twoS a b, notin a b) := by simpa [notin, freshH, twoS] using h2
  rw [if_pos hb.check, show (⟨2, 0, freshH a, ⟨[]⟩⟩ : FS).hs = freshH a from rfl, h1']
  dsimp only
  rw [h2']
section
variable {a b : List ByteArray} (ha : Goods a) (hb : Goods b)
include ha hb
theorem two_nd : ((twoS a b).hs.map (·.nm)).Nodup := by
  show ((a.map (mkb b) ++ freshH (notin a b)).map (·.nm)).Nodup
  rw [List.map_append, mkb_map, fresh_nm, List.nodup_append]
  exact ⟨ha.1, hb.1.sublist List.filter_sublist, fun x hx y hy => by rintro rfl; exact (mem_notin.1 hy).2 hx⟩
theorem two_look {x : ByteArray} (hx : x ∈ a) : lookH (twoS a b).hs x = some (mkb b x) := by
  have := nd_mem (two_nd ha hb) (x := mkb b x) (List.mem_append.2 (.inl (List.mem_map.2 ⟨x, hx, rfl⟩)))
  rwa [mkb_nm] at this
theorem two_state {x : ByteArray} (hx : x ∈ a) : stateV (twoS a b) x = (if memB x b = true then 0 else 1, true) := by
  unfold stateV
  rw [two_look ha hb hx]
  unfold mkb
  cases memB x b <;> rfl
theorem two_leaves {x : ByteArray} (hx : x ∈ a) : leavesV (twoS a b) x = !memB x b := by
  unfold leavesV
  rw [two_look ha hb hx]
  unfold mkb
  cases memB x b <;> rfl
theorem two_inv : Inv (twoS a b).ds 6 := by
  refine ⟨?_, ?_, ?_⟩
  · show (((notin b a).map (rwD 7)).map (·.f0)).Nodup
    rw [rwD_nm]
    exact ha.1.sublist List.filter_sublist
  · show ((notin b a).map (rwD 7)).length ≤ 6
    rw [List.length_map]
    exact Nat.le_trans (List.length_filter_le _ _) ha.len
  · show (namesOf ((notin b a).map (rwD 7)) false).length ≤ 16
    rw [rwD_wait]
    exact Nat.zero_le _
theorem two_dead {x : ByteArray} (hx : x ∈ notin b a) : deadOf (twoS a b).ds x = (7, true) := by
  have := dead_of (two_inv ha hb) (x := rwD 7 x) (List.mem_map.2 ⟨x, hx, rfl⟩)
  exact this
theorem two_due7 : dueOf (twoS a b).ds 7 = notin b a := by
  unfold dueOf
  show List.filter _ (namesOf ((notin b a).map (rwD 7)) true) = _
  rw [rwD_under, List.filter_eq_self]
  intro x hx
  rw [two_dead ha hb hx]
  decide
theorem two_due6 : dueOf (twoS a b).ds 6 = [] := by
  unfold dueOf
  show List.filter _ (namesOf ((notin b a).map (rwD 7)) true) = _
  rw [rwD_under, List.filter_eq_nil_iff]
  intro x hx
  rw [two_dead ha hb hx]
  decide
omit ha hb
theorem has_notin {x : ByteArray} (hx : x ∈ a) : hasB x (notin b a) = !memB x b := by
  cases c : memB x b with
  | true => exact hasB_no _ _ (fun h => (mem_notin.1 h).2 (memB_iff.1 c))
  | false => exact (hasB_iff _ _).2 (mem_notin.2 ⟨hx, memB_no.1 c⟩)
end
theorem filter_split {α : Type} (p : α → Bool) : ∀ l : List α, (l.filter p).length + (l.filter (fun x => !p x)).length = l.length
  | [] => rfl
  | x :: l => by
    have := filter_split p l
    cases h : p x <;> simp [List.filter_cons, h] <;> omega
theorem count_ab {a b : List ByteArray} (ha : a.Nodup) (hb : b.Nodup) : (notin a b).length + a.length = (notin b a).length + b.length := by
  have h1 := filter_split (fun nm => memB nm b) a
  have h2 := filter_split (fun nm => memB nm a) b
  have h3 : (a.filter (fun nm => memB nm b)).length ≤ (b.filter (fun nm => memB nm a)).length :=
    List.Nodup.length_le_of_subset (ha.sublist List.filter_sublist) (fun x hx => by
      obtain ⟨h, h'⟩ := List.mem_filter.1 hx
      exact List.mem_filter.2 ⟨memB_iff.1 h', memB_iff.2 h⟩)
  have h4 : (b.filter (fun nm => memB nm a)).length ≤ (a.filter (fun nm => memB nm b)).length :=
    List.Nodup.length_le_of_subset (hb.sublist List.filter_sublist) (fun x hx => by
      obtain ⟨h, h'⟩ := List.mem_filter.1 hx
      exact List.mem_filter.2 ⟨memB_iff.1 h', memB_iff.2 h⟩)
  have h5 : (notin a b).length = (b.filter (fun x => !memB x a)).length := rfl
  have h6 : (notin b a).length = (a.filter (fun x => !memB x b)).length := rfl
  omega
/-- Active and there, or leaving and drained. -/
def JH (x : HV) : Prop := (x.lv = false ∧ x.st = 0) ∨ (x.lv = true ∧ x.st = 1)
structure LV (s : FS) (rest : List ByteArray) (n : Nat) : Prop where
  inv : FInv s n
  nd : (s.hs.map (·.nm)).Nodup
  j : ∀ x ∈ s.hs, JH x
  rest : ∀ y ∈ rest, (⟨y, 1, true⟩ : HV) ∈ s.hs
theorem LV.skip {s : FS} {x : ByteArray} {rest : List ByteArray} {n : Nat} (h : LV s (x :: rest) n) : LV s rest n := ⟨h.inv, h.nd, h.j, fun y hy => h.rest y (by simp [hy])⟩
theorem two_LV {a b : List ByteArray} (ha : Goods a) (hb : Goods b) {n : Nat} (hi : FInv (twoS a b) n) : LV (twoS a b) (notin b a) n := by
  refine ⟨hi, two_nd ha hb, fun x hx => ?_, fun y hy => ?_⟩
  · rcases List.mem_append.1 hx with hx | hx
    · obtain ⟨nm, _, rfl⟩ := List.mem_map.1 hx
      unfold mkb
      split
      · exact .inl ⟨rfl, rfl⟩
      · exact .inr ⟨rfl, rfl⟩
    · obtain ⟨nm, _, rfl⟩ := List.mem_map.1 hx
      exact .inl ⟨rfl, rfl⟩
  · obtain ⟨h1, h2⟩ := mem_notin.1 hy
    refine List.mem_append.2 (.inl (List.mem_map.2 ⟨y, h1, ?_⟩))
    unfold mkb
    rw [memB_no.2 h2, if_neg (by decide)]
theorem LV.empty {s : FS} {x : ByteArray} {rest : List ByteArray} {n : Nat} (h : LV s (x :: rest) n) (hnr : (x :: rest).Nodup) :
    (emptyF s x).1 = true ∧ LV (emptyF s x).2 rest (n + 1) ∧ emptyF (emptyF s x).2 x = (false, (emptyF s x).2) ∧ stateV (emptyF s x).2 x = (0, false) := by
  obtain ⟨i, hi⟩ := List.getElem?_of_mem (h.rest x (by simp))
  have he : emptyF s x = (true, { s with hs := s.hs.eraseIdx i, ds := endF s.ds x }) := empty_gone (x := ⟨x, 1, true⟩) h.nd hi (show nextB 1 4 = true by decide) rfl
  have hinv := h.inv.empty x
  rw [he] at hinv ⊢
  have hgone : x ∉ (s.hs.eraseIdx i).map (·.nm) := fun hm => by
    obtain ⟨z, hz, hzn⟩ := List.mem_map.1 hm
    rw [List.mem_eraseIdx_iff_getElem?] at hz
    obtain ⟨j, hj, hjz⟩ := hz
    have h1 : (s.hs.map (·.nm))[j]? = some x := by rw [List.getElem?_map, hjz]; exact congrArg some hzn
    have h2 : (s.hs.map (·.nm))[i]? = some x := by rw [List.getElem?_map, hi]; rfl
    have := (List.getElem?_inj (List.getElem?_eq_some_iff.1 h1).1 h.nd).1 (h1.trans h2.symm)
    omega
  have hlook : lookH (s.hs.eraseIdx i) x = none := look_mem hgone
  refine ⟨rfl, ⟨hinv, ?_, fun z hz => h.j z ((List.eraseIdx_sublist s.hs i).subset hz), fun y hy => ?_⟩, ?_, ?_⟩
  · exact h.nd.sublist ((List.eraseIdx_sublist s.hs i).map _)
  · obtain ⟨j, hj⟩ := List.getElem?_of_mem (h.rest y (by simp [hy]))
    show _ ∈ s.hs.eraseIdx i
    rw [List.mem_eraseIdx_iff_getElem?]
    refine ⟨j, ?_, hj⟩
    rintro rfl
    rw [hi] at hj
    injection hj with hj
    injection hj with hj _ _
    exact (List.nodup_cons.1 hnr).1 (hj ▸ hy)
  · show emptyF { s with hs := s.hs.eraseIdx i, ds := endF s.ds x } x = _
    unfold emptyF
    rw [show ({ s with hs := s.hs.eraseIdx i, ds := endF s.ds x } : FS).hs = s.hs.eraseIdx i from rfl, hlook]
  · unfold stateV
    rw [show ((true, ({ s with hs := s.hs.eraseIdx i, ds := endF s.ds x } : FS)).2).hs = s.hs.eraseIdx i from rfl, hlook]
theorem mem_set_ne {hs : List HV} {i : Nat} {x y z : HV} (hx : hs[i]? = some x) (hy : y ∈ hs) (hne : y ≠ x) : y ∈ hs.set i z := by
  obtain ⟨j, hj⟩ := List.getElem?_of_mem hy
  refine List.mem_of_getElem? (i := j) ?_
  rw [List.getElem?_set_ne]
  · exact hj
  · rintro rfl
    rw [hx] at hj
    injection hj with hj
    exact hne hj.symm
theorem left_J (l : List ByteArray) (dl : Int) : ∀ (hs : List HV) (s : FS), (hs.map (·.nm)).Nodup → (∀ x ∈ hs, x ∈ s.hs) → (s.hs.map (·.nm)).Nodup → (∀ x ∈ s.hs, JH x) → ((leftL l dl hs s).1.hs.map (·.nm)).Nodup ∧ ∀ x ∈ (leftL l dl hs s).1.hs, JH x
  | [], s, _, _, hn, hj => ⟨hn, hj⟩
  | x :: hs, s, hh, hin, hn, hj => by
    have hh2 := List.nodup_cons.1 hh
    unfold leftL
    split
    · exact left_J l dl hs s hh2.2 (fun y hy => hin y (by simp [hy])) hn hj
    · rename_i hc
      have hlv : x.lv = false := by
        cases h : x.lv with
        | true => rw [h] at hc; exact absurd rfl hc
        | false => rfl
      have hst : x.st = 0 := by
        rcases hj x (hin x (by simp)) with ⟨_, h⟩ | ⟨h, _⟩
        · exact h
        · rw [hlv] at h; cases h
      obtain ⟨i, hi⟩ := List.getElem?_of_mem (hin x (by simp))
      have hsh : (leaveF s x dl).hs = s.hs.set i ⟨x.nm, 1, true⟩ := by
        unfold leaveF
        rw [hst, if_neg (by decide), if_pos (show nextB 0 5 = true by decide)]
        show setH s.hs x.nm ⟨x.nm, nextS 0 5, true⟩ = _
        rw [setH_i hn hi]
        rfl
      have hnm : (leaveF s x dl).hs.map (·.nm) = s.hs.map (·.nm) := by
        rw [hsh, List.map_set]
        refine set_same ?_
        rw [List.getElem?_map, hi]
        rfl
      refine left_J l dl hs (leaveF s x dl) hh2.2 (fun y hy => ?_) (by rw [hnm]; exact hn) (fun y hy => ?_)
      · rw [hsh]
        refine mem_set_ne hi (hin y (by simp [hy])) ?_
        rintro rfl
        exact hh2.1 (List.mem_map.2 ⟨y, hy, rfl⟩)
      · rw [hsh] at hy
        rcases List.mem_or_eq_of_mem_set hy with h | h
        · exact hj y h
        · rw [h]
          exact .inr ⟨rfl, rfl⟩
theorem came_all : ∀ (l : List ByteArray) (s : FS), (s.hs.map (·.nm)).Nodup → (∀ x ∈ s.hs, JH x) → ((cameL l s).1.hs.map (·.nm)).Nodup ∧ (∀ nm, (⟨nm, 0, false⟩ : HV) ∈ s.hs → (⟨nm, 0, false⟩ : HV) ∈ (cameL l s).1.hs) ∧ ∀ nm ∈ l, (⟨nm, 0, false⟩ : HV) ∈ (cameL l s).1.hs
  | [], s, hn, _ => ⟨hn, fun _ h => h, fun _ h => by cases h⟩
  | nm :: l, s, hn, hj => by
    have fin : ∀ s1 : FS, (s1.hs.map (·.nm)).Nodup → (∀ x ∈ s1.hs, JH x) → (∀ z, (⟨z, 0, false⟩ : HV) ∈ s.hs → (⟨z, 0, false⟩ : HV) ∈ s1.hs) → (⟨nm, 0, false⟩ : HV) ∈ s1.hs → ((cameL l s1).1.hs.map (·.nm)).Nodup ∧ (∀ z, (⟨z, 0, false⟩ : HV) ∈ s.hs → (⟨z, 0, false⟩ : HV) ∈ (cameL l s1).1.hs) ∧ ∀ z ∈ nm :: l, (⟨z, 0, false⟩ : HV) ∈ (cameL l s1).1.hs := by
      intro s1 h1 h2 h3 h4
      obtain ⟨g1, g2, g3⟩ := came_all l s1 h1 h2
      refine ⟨g1, fun z hz => g2 z (h3 z hz), fun z hz => ?_⟩
      rcases List.mem_cons.1 hz with rfl | hz
      · exact g2 _ h4
      · exact g3 z hz
    unfold cameL
    rcases look_cases s.hs nm with ⟨h1, _, h3⟩ | ⟨i, x, h1, h2, h3, h4⟩
    · rw [h1]
      dsimp only
      refine fin { s with hs := s.hs ++ [⟨nm, 0, false⟩] } ?_ ?_ (fun z hz => by simp [hz]) (by simp)
      · show ((s.hs ++ ([⟨nm, 0, false⟩] : List HV)).map (fun x => x.nm)).Nodup
        rw [List.map_append, List.nodup_append]
        refine ⟨hn, by simp, fun y hy z hz => ?_⟩
        have : z = nm := by simpa using hz
        rw [this]
        rintro rfl
        exact h3 hy
      · intro y hy
        have hy' : y ∈ s.hs ++ ([⟨nm, 0, false⟩] : List HV) := hy
        rcases List.mem_append.1 hy' with hy | hy
        · exact hj y hy
        · rw [List.mem_singleton.1 hy]
          exact .inl ⟨rfl, rfl⟩
    · subst h4
      rw [h1]
      dsimp only
      rcases hj x (List.mem_of_getElem? h3) with ⟨g1, g2⟩ | ⟨g1, g2⟩
      · rw [g1, if_neg (by decide)]
        refine fin s hn hj (fun _ h => h) ?_
        have : x = ⟨x.nm, 0, false⟩ := by
          cases x
          simp at g1 g2
          simp [g1, g2]
        rw [← this]
        exact List.mem_of_getElem? h3
      · rw [g1, if_pos rfl]
        dsimp only
        have hsh : setH s.hs x.nm ⟨x.nm, nextS x.st 6, false⟩ = s.hs.set i ⟨x.nm, 0, false⟩ := by
          rw [setH_at h2, g2]
          rfl
        rw [hsh]
        refine fin { s with hs := s.hs.set i ⟨x.nm, 0, false⟩, ds := endF s.ds x.nm } ?_ ?_ ?_ ?_
        · show ((s.hs.set i ⟨x.nm, 0, false⟩).map (·.nm)).Nodup
          have hs1 : (s.hs.map (·.nm)).set i x.nm = s.hs.map (·.nm) := set_same (by rw [List.getElem?_map, h3]; rfl)
          rw [List.map_set, hs1]
          exact hn
        · intro y hy
          rcases List.mem_or_eq_of_mem_set hy with h | h
          · exact hj y h
          · rw [h]
            exact .inl ⟨rfl, rfl⟩
        · intro z hz
          refine mem_set_ne h3 hz ?_
          rintro rfl
          simp at g1
        · exact List.mem_of_getElem? (List.getElem?_set_self (List.getElem?_eq_some_iff.1 h3).1)
theorem LV.resolve {s : FS} {n : Nat} (h : LV s [] n) {c : List ByteArray} (hc : Goods c) {x : ByteArray} (hx : x ∈ c) : stateV (resolveF s c 9).2 x = (0, true) ∧ leavesV (resolveF s c 9).2 x = false := by
  have hl := left_J c 9 s.hs s h.nd (fun x hx => hx) h.nd h.j
  obtain ⟨g1, g2, g3⟩ := came_all c (leftL c 9 s.hs s).1 hl.1 hl.2
  have he : (resolveF s c 9).2 = (cameL c (leftL c 9 s.hs s).1).1 := by
    unfold resolveF
    rw [if_pos hc.check]
  have hlook := nd_mem g1 (g3 x hx)
  rw [he]
  have hlook' : lookH (cameL c (leftL c 9 s.hs s).1).1.hs x = some ⟨x, 0, false⟩ := hlook
  unfold stateV leavesV
  rw [hlook']
  exact ⟨rfl, rfl⟩
end Go.Proofs.Ytmlmiocomlehgaa.Man
namespace Go.Proofs.Ytmlmiocomlehgaa.Man
open Go.RowKit Go.Proofs.YtmlmiocomlehgaaW.PrintWords Go.Proofs.YtmlmiocomlehgaaW.PrintLast Go.Proofs.YtmlmiocomlehgaaW.PrintMore Go.Proofs.Ytmlmiocomlehgaa.PA Go.Proofs.Ytmlmiocomlehgaa.PF Go.Proofs.Ytmlmiocomlehgaa.Hid Go.Proofs.Ytmlmiocomlehgaa.Na Go.Proofs.Ytmlmiocomlehgaa.Nil
theorem atS {W : World} {base n : Nat} {A : Option Addr} {ok : Nat → Prop} {l : List ByteArray} (h : Kd.R Kd.string 9 W base ok (.slice A l.length n) l) {k : Nat} {nm : ByteArray} (hk : l[k]? = some nm) : ∃ ad, A = some ad ∧ W.cell? (ad.add k) = some (.string nm) := by
  have hlt := (List.getElem?_eq_some_iff.1 hk).1
  obtain ⟨ad, had, hx⟩ := Kd.at_string (Kd.R_reads' h).2.2 (k : Int) (by omega) (by omega)
  rw [show rdOf ByteArray.empty l (k : Int) = nm by (unfold rdOf; rw [Int.toNat_natCast, List.getD_eq_getElem?_getD, hk]; rfl), Int.toNat_natCast] at hx
  exact ⟨ad, had, hx⟩
def leavesL.T15 : Bool × List (List Nat × List Nat) := (true, [([], []), ([0], [0]), ([1], [1]), ([2], [2]), ([2], [2]), ([2], [2]), ([4, 5, 2], [2, 4, 5]), ([6, 2], [2, 6]), ([3, 7, 2, 2], [2, 3, 7]), ([2], [2]), ([8, 9, 2], [2, 8, 9]), ([2, 10], [2, 10]), ([11, 8], [11]), ([12], [12]), ([12], [12]), ([14, 12], [12, 14]), ([13, 15, 12], [12, 13, 15]), ([12, 16], [12, 16]), ([17, 12], [17]), ([18], [18]), ([18], [18]), ([18], [18]), ([20, 21, 18], [18, 20, 21]), ([22, 18], [18, 22]), ([19, 23, 18, 18], [18, 19, 23]), ([18], [18]), ([24, 25, 18], [18, 24, 25]), ([18, 26], [18, 26]), ([27, 24], [27]), ([28], [28]), ([29, 28], [28, 29]), ([30, 28, 28], [28, 30]), ([31], [31]), ([32, 31, 31], [31, 32]), ([31], [31]), ([31], [31]), ([34, 35, 31], [31, 34, 35]), ([36, 31], [31, 36]), ([33, 37, 33, 31], [31, 33, 37]), ([38, 31], [31, 38]), ([31, 39, 28], [28, 31, 39]), ([28, 40], [28, 40]), ([41, 38], [41]), ([42], [42]), ([43, 42, 42], [42, 43]), ([42], [42]), ([42], [42]), ([45, 46, 42], [42, 45, 46]), ([47, 42], [42, 47]), ([44, 48, 44, 42], [42, 44, 48]), ([42, 49], [42, 49])])
theorem leavesL.tab15 : rtab .any (opsOf Try.f4 15) = leavesL.T15 := by kernel_rfl
set_option maxHeartbeats 32000000 in
set_option maxRecDepth 100000 in
theorem leaves_calls (A0 : Option Addr) (c0 : Nat) (l0 : List Int) (A1 : Option Addr) (c1 : Nat) (l1 : List Int) (A2 : Option Addr) (c2 : Nat) (l2 : List Int) (w : World) (hC0 : Kd.C (Kd.int .i64) w A0 l0.length l0) (hc0 : l0.length ≤ c0) (hC1 : Kd.C (Kd.int .i64) w A1 l1.length l1) (hc1 : l1.length ≤ c1) (hC2 : Kd.C (Kd.int .i64) w A2 l2.length l2) (hc2 : l2.length ≤ c2) :
    Calls Try.prog 4 #[.slice A0 l0.length c0, .slice A1 l1.length c1, .slice A2 l2.length c2] w fun e w' => e = .returned (.bool true) ∧ Below w.heap.size w w' := by
  have HL := Aside0.mk (lives_raw w)
  have gd : ∀ (A : Option Addr) (c : Nat) (l : List Int), Kd.C (Kd.int .i64) w A l.length l → l.length ≤ c → ∃ names, Goods names ∧ ∀ W, Below w.heap.size w W → Calls Try.prog 11 #[.slice A l.length c] W fun e w' => ∃ v0_ : Value, e = .returned v0_ ∧ Kd.R Kd.string 9 w' W.heap.size (fun _ => True) v0_ names ∧ Below W.heap.size W w' := by
    intro A c l hC hc
    obtain ⟨r, h1, h2⟩ := good_loop l hC.2.1 l.length (l.length + 8) 0 [] (Nat.zero_le _) rfl (Nat.le_refl _) ⟨List.nodup_nil, by simp⟩
    exact ⟨r, h2, fun W hb => hostlerref09_Good.calls (l.length + 8) A c l r W (Kd.C_below hC hb) hc h1⟩
  obtain ⟨a, ha, hga⟩ := gd A0 c0 l0 hC0 hc0
  obtain ⟨b, hb, hgb⟩ := gd A1 c1 l1 hC1 hc1
  obtain ⟨c, hcg, hgc⟩ := gd A2 c2 l2 hC2 hc2
  have HGA := Aside0.mk hga
  have HGB := Aside0.mk hgb
  have HGC := Aside0.mk hgc
  have GA := Aside0.mk ha
  have GB := Aside0.mk hb
  have GC := Aside0.mk hcg
  have hal6 := ha.len
  have hbl6 := hb.len
  have hcl6 := hcg.len
  have hcnt := count_ab ha.1 hb.1
  obtain ⟨L, hL⟩ : ∃ q, q = notin b a := ⟨_, rfl⟩
  obtain ⟨M, hM⟩ : ∃ q, q = notin a b := ⟨_, rfl⟩
  have v0 : FInv ⟨2, 0, [], ⟨[]⟩⟩ 0 := FInv.new 2 0
  have v1 : FInv ⟨2, 0, freshH a, ⟨[]⟩⟩ 1 := by have := v0.resolve (by decide) a 5; rwa [resolve_first 2 0 ha 5] at this
  have v2 : FInv (twoS a b) 2 := by have := v1.resolve (by decide) b 7; rwa [resolve_second ha hb] at this
  have HN := Aside0.mk (fun W hb => fnew_raw 2 0 w W hb)
  have HR1 := Aside0.mk (fun (g : Nat) (W : World) (hI : IsF w W g ⟨2, 0, [], ⟨[]⟩⟩) (hB : Below w.heap.size w W) (A : Option Addr) (n base : Nat) (hr : Kd.R Kd.string 9 W base (fun _ => True) (.slice A a.length n) a) =>
    resolve_any (n := 0) (by decide) v0 hI hB a A n 5 (Kd.R_reads' hr).2.1 (fun x hx => (h6_ok (ha.2 hx)).2) (rowC hr))
  rw [resolve_first 2 0 ha 5] at HR1
  have HR2 := Aside0.mk (fun (g : Nat) (W : World) (hI : IsF w W g ⟨2, 0, freshH a, ⟨[]⟩⟩) (hB : Below w.heap.size w W) (A : Option Addr) (n base : Nat) (hr : Kd.R Kd.string 9 W base (fun _ => True) (.slice A b.length n) b) =>
    resolve_any (n := 1) (by decide) v1 hI hB b A n 7 (Kd.R_reads' hr).2.1 (fun x hx => (h6_ok (hb.2 hx)).2) (rowC hr))
  rw [resolve_second ha hb, ← hL, ← hM] at HR2
  have HLV : Aside0 (LV (twoS a b) L 2) := ⟨by rw [hL]; exact two_LV ha hb v2⟩
  have HLND : Aside0 L.Nodup := ⟨by rw [hL]; exact ha.1.sublist List.filter_sublist⟩
  have HSA := Aside0.mk (fun (g : Nat) (W : World) (hI : IsF w W g (twoS a b)) (nm : ByteArray) (hx : nm ∈ a) => (two_state ha hb hx) ▸ state_any hI nm)
  have HLA := Aside0.mk (fun (g : Nat) (W : World) (hI : IsF w W g (twoS a b)) (nm : ByteArray) (hx : nm ∈ a) => (two_leaves ha hb hx) ▸ leaves_any hI nm)
  have HD7 := Aside0.mk (fun (g : Nat) (W : World) (hI : IsF w W g (twoS a b)) => due_any (n := 2) (by decide) v2 hI 7)
  have HD6 := Aside0.mk (fun (g : Nat) (W : World) (hI : IsF w W g (twoS a b)) => due_any (n := 2) (by decide) v2 hI 6)
  rw [show (twoS a b).ds = (twoS a b).ds from rfl, two_due7 ha hb, ← hL] at HD7
  rw [two_due6 ha hb] at HD6
  have HHL := Aside0.mk (fun (nm : ByteArray) (hx : nm ∈ a) => (has_notin (b := b) hx))
  rw [← hL] at HHL
  rw [← hL, ← hM] at hcnt
  have hLa : L.length ≤ a.length := by rw [hL]; exact List.length_filter_le _ _
  have hMb : M.length ≤ b.length := by rw [hM]; exact List.length_filter_le _ _
  clear hga hgb hgc gd hC0 hC1 hC2 v0 v1 v2 ha hb hcg hL hM
  go_enter Try.func4, Try.ntmps4
  go_wp2_with (first
    | (go_at_call 10; refine HL.out.mono ?_; rintro e wl ⟨rfl, hb⟩; have HB1 := Aside0.mk hb; clear hb HL)
    | (go_at_call 11; refine (HGA.out wl HB1.out).mono ?_; rintro e wm ⟨va, rfl, hr, hb⟩; obtain ⟨Aa, na, rfl⟩ := Kd.R_slice hr; have HB2 := Aside0.mk (below_step HB1.out hb); have RA2 := Aside0.mk hr; clear hr hb HB1 HGA)
    | (go_at_call 11; refine (HGB.out wm HB2.out).mono ?_; rintro e wn ⟨vb, rfl, hr, hb⟩; obtain ⟨Ab, nb, rfl⟩ := Kd.R_slice hr; have HB3 := Aside0.mk (below_step HB2.out hb); have RB3 := Aside0.mk hr; have RA3 := Aside0.mk (Kd.R_below RA2.out hb); clear hr hb HB2 HGB RA2)
    | (go_at_call 11; refine (HGC.out wn HB3.out).mono ?_; rintro e wo ⟨vc, rfl, hr, hb⟩; obtain ⟨Ac, nc, rfl⟩ := Kd.R_slice hr; have HB4 := Aside0.mk (below_step HB3.out hb); have RC4 := Aside0.mk hr; have RA4 := Aside0.mk (Kd.R_below RA3.out hb); have RB4 := Aside0.mk (Kd.R_below RB3.out hb); clear hr hb HB3 HGC RA3 RB3)
    | (go_at_call 12; refine (HN.out _ HB4.out).mono ?_; rintro e w5 ⟨g, rfl, hi, hb, hb2⟩; have K5 := Aside0.mk hi; have B5 := Aside0.mk hb; have RA5 := Aside0.mk (Kd.R_below RA4.out hb2); have RB5 := Aside0.mk (Kd.R_below RB4.out hb2); have RC5 := Aside0.mk (Kd.R_below RC4.out hb2); clear hi hb hb2 HB4 RA4 RB4 RC4)
    | (go_at_call 13; refine (HR1.out g w5 K5.out B5.out _ _ _ RA5.out).mono ?_; rintro e w6 ⟨v1, v2, rfl, hr1, hr2, hi, hb, hk⟩; have K6 := Aside0.mk hi; have B6 := Aside0.mk hb; have RA6 := Aside0.mk (row_keepG RA5.out hk str_tf); have RB6 := Aside0.mk (row_keepG RB5.out hk str_tf); have RC6 := Aside0.mk (row_keepG RC5.out hk str_tf); clear hi hb hk HR1 K5 B5 RA5 RB5 RC5 hr1 hr2)
    | (go_at_call 13; refine (HR2.out g w6 K6.out B6.out _ _ _ RB6.out).mono ?_; rintro e w7 ⟨v3, v4, rfl, hr1, hr2, hi, hb, hk⟩; obtain ⟨Am, nm_, rfl⟩ := Kd.R_slice hr1; obtain ⟨Al, nl_, rfl⟩ := Kd.R_slice hr2; have K7 := Aside0.mk hi; have B7 := Aside0.mk hb; have RA7 := Aside0.mk (row_keepG RA6.out hk str_tf); have RB7 := Aside0.mk (row_keepG RB6.out hk str_tf); have RC7 := Aside0.mk (row_keepG RC6.out hk str_tf); have RL7 := Aside0.mk hr2; clear hi hb hk HR2 K6 B6 RA6 RB6 RC6 hr1 hr2))
  go_loopw [14] (fun v14 wr => ∃ k : Nat, v14 = .int .i64 (k : Int) ∧ k ≤ a.length ∧ Aside0 (IsF w wr g (twoS a b)) ∧ Aside0 (Below w.heap.size w wr) ∧ Aside0 (Kd.R Kd.string 9 wr wl.heap.size (fun _ => True) (.slice Aa a.length na) a) ∧ Aside0 (Kd.R Kd.string 9 wr wm.heap.size (fun _ => True) (.slice Ab b.length nb) b) ∧ Aside0 (Kd.R Kd.string 9 wr wn.heap.size (fun _ => True) (.slice Ac c.length nc) c) ∧ Aside0 (Kd.R Kd.string 9 wr w6.heap.size (fun _ => True) (.slice Al L.length nl_) L)) (fun v14 _ => a.length - (intOf v14).toNat)
  case atStart => exact ⟨0, rfl, Nat.zero_le _, K7, B7, RA7, RB7, RC7, RL7⟩
  case round =>
    obtain ⟨k, rfl, hkl, K1, B1, RA1, RB1, RC1, RL1⟩ := hrel
    clear K7 B7 RA7 RB7 RC7 RL7 HN
    by_cases hlt : k < a.length
    · clear HLV HLND
      obtain ⟨x, hx⟩ : ∃ x, a[k]? = some x := ⟨_, List.getElem?_eq_getElem hlt⟩
      have hxa : x ∈ a := List.mem_of_getElem? hx
      have hRD := Aside0.mk (fun (W : World) (h : Kd.R Kd.string 9 W wl.heap.size (fun _ => True) (.slice Aa a.length na) a) => atS h hx)
      obtain ⟨ad, had, hx0⟩ := hRD.out wr RA1.out
      subst had
      have hk0 : (0 : Int) ≤ (k : Int) := by omega
      have hkI : (k : Int) < (a.length : Int) := by omega
      have HXA := Aside0.mk hxa
      have hhl := HHL.out x hxa
      have hhb := has_mem x b
      obtain ⟨EM, hEM⟩ : ∃ q : List ByteArray, q = [] := ⟨_, rfl⟩
      have HD6E : Aside0 (∀ (g : Nat) (W : World), IsF w W g (twoS a b) → Calls Try.prog 22 #[ptr g, .int .i64 6] W fun e w' => ∃ v1_ : Value, e = .returned v1_ ∧ Kd.R Kd.string 9 w' W.heap.size (fun _ => True) v1_ EM ∧ Below W.heap.size W w') := ⟨by rw [hEM]; exact HD6.out⟩
      have hhe : hasB x EM = false := by rw [hEM]; rfl
      clear HHL hx hxa HD6 hEM
      cases hin : memB x b with
      | true =>
        have HS : Aside0 (∀ (W : World), IsF w W g (twoS a b) → Calls Try.prog 20 #[ptr g, .string x] W fun e w' => e = .returned (.tuple #[.int .i64 0, .bool true]) ∧ Below W.heap.size W w') := ⟨fun W hI => by have := HSA.out g W hI x HXA.out; rw [hin] at this; exact this⟩
        have HV : Aside0 (∀ (W : World), IsF w W g (twoS a b) → Calls Try.prog 21 #[ptr g, .string x] W fun e w' => e = .returned (.bool false) ∧ Below W.heap.size W w') := ⟨fun W hI => by have := HLA.out g W hI x HXA.out; rw [hin] at this; exact this⟩
        rw [hin, Bool.not_true] at hhl
        rw [hin] at hhb
        clear HSA HLA
        go_upto_region 15 with (first
            | (go_at_call 19; refine (has_raw x b Ab nb _ (Kd.R_reads' RB1.out).2.2 (Kd.R_reads' RB1.out).2.1).mono ?_; rw [hhb]; rintro e w2 ⟨rfl, hd⟩; have hb := Drawn0.below hd; have K2 := Aside0.mk (K1.out.below hb); have B2 := Aside0.mk (below_step B1.out hb); have RA2 := Aside0.mk (Kd.R_below RA1.out hb); have RB2 := Aside0.mk (Kd.R_below RB1.out hb); have RC2 := Aside0.mk (Kd.R_below RC1.out hb); have RL2 := Aside0.mk (Kd.R_below RL1.out hb); obtain ⟨_, e_2, q2⟩ := hRD.out w2 RA2.out; cases e_2; clear hb hd K1 B1 RA1 RB1 RC1 RL1)
            | (go_at_call 20; refine (HS.out w2 K2.out).mono ?_; rintro e w3 ⟨rfl, hb⟩; have K3 := Aside0.mk (K2.out.below hb); have B3 := Aside0.mk (below_step B2.out hb); have RA3 := Aside0.mk (Kd.R_below RA2.out hb); have RB3 := Aside0.mk (Kd.R_below RB2.out hb); have RC3 := Aside0.mk (Kd.R_below RC2.out hb); have RL3 := Aside0.mk (Kd.R_below RL2.out hb); obtain ⟨_, e_3, q3⟩ := hRD.out w3 RA3.out; cases e_3; clear hb K2 B2 RA2 RB2 RC2 RL2))
        have lt0 := World.block_lt_of_cell? w3 _ q3
        refine start_ (n := 51) (S := fun w' => w'.cell? (ad.add k) = some (.string x)) (ds := []) #[false, false, false, false, false, false, false, false, false, false, false, false, false, false, false, false, false, false, false, false, false, false, false, false, false, false, false, false, false, false, false, false, false, false, false, false, false, false, false, false, false, false, false, false, false, false, false, false, false, false, false] (by kernel_rfl) rfl rfl q3 (fun hHeld => ?_); refine with_tab leavesL.tab15 (fun HT_ => ?_)
        refine pure_ (i := 0) (N := some 66) (v := ?_) (a' := ?_) #[true, false, false, false, false, false, false, false, false, false, false, false, false, false, false, false, false, false, false, false, false, false, false, false, false, false, false, false, false, false, false, false, false, false, false, false, false, false, false, false, false, false, false, false, false, false, false, false, false, false, false] rfl rfl (any_of HT_.out (by kernel_rfl)) (fun _ _ _ h => h) (Or.inl ⟨by rfl, ?_⟩) ?_ ?_
        rotate_left
        · intro w'
          go_simp
          with_reducible rfl
        rotate_left
        · simp only [Act.put, List.setIfInBounds_toArray, List.set_cons_zero, List.set_cons_succ, i64_w, i32_w]
          rfl
        refine pure_ (i := 1) (N := some 67) (v := ?_) (a' := ?_) #[true, true, false, false, false, false, false, false, false, false, false, false, false, false, false, false, false, false, false, false, false, false, false, false, false, false, false, false, false, false, false, false, false, false, false, false, false, false, false, false, false, false, false, false, false, false, false, false, false, false, false] rfl rfl (any_of HT_.out (by kernel_rfl)) (fun _ _ _ h => h) (Or.inl ⟨by rfl, ?_⟩) ?_ ?_
        rotate_left
        · intro w'
          go_simp
          with_reducible rfl
        rotate_left
        · simp only [Act.put, List.setIfInBounds_toArray, List.set_cons_zero, List.set_cons_succ, i64_w, i32_w]
          rfl
        refine pure_ (i := 2) (N := some 68) (v := ?_) (a' := ?_) #[true, true, true, false, false, false, false, false, false, false, false, false, false, false, false, false, false, false, false, false, false, false, false, false, false, false, false, false, false, false, false, false, false, false, false, false, false, false, false, false, false, false, false, false, false, false, false, false, false, false, false] rfl rfl (any_of HT_.out (by kernel_rfl)) (fun _ _ _ h => h) (Or.inl ⟨by rfl, ?_⟩) ?_ ?_
        rotate_left
        · intro w'
          go_simp
          with_reducible rfl
        rotate_left
        · simp only [Act.put, List.setIfInBounds_toArray, List.set_cons_zero, List.set_cons_succ, i64_w, i32_w]
          rfl
        refine pure_ (i := 3) (N := some 69) (v := ?_) (a' := ?_) #[true, true, true, true, false, false, false, false, false, false, false, false, false, false, false, false, false, false, false, false, false, false, false, false, false, false, false, false, false, false, false, false, false, false, false, false, false, false, false, false, false, false, false, false, false, false, false, false, false, false, false] rfl rfl (any_of HT_.out (by kernel_rfl)) (fun _ _ _ h => h) (Or.inl ⟨by rfl, ?_⟩) ?_ ?_
        rotate_left
        · intro w'
          go_simp
          with_reducible rfl
        rotate_left
        · simp only [Act.put, List.setIfInBounds_toArray, List.set_cons_zero, List.set_cons_succ, i64_w, i32_w]
          rfl
        refine pure_ (i := 4) (N := some 70) (v := ?_) (a' := ?_) #[true, true, true, true, true, false, false, false, false, false, false, false, false, false, false, false, false, false, false, false, false, false, false, false, false, false, false, false, false, false, false, false, false, false, false, false, false, false, false, false, false, false, false, false, false, false, false, false, false, false, false] rfl rfl (any_of HT_.out (by kernel_rfl)) (fun _ _ _ h => h) (Or.inl ⟨by rfl, ?_⟩) ?_ ?_
        rotate_left
        · intro w'
          go_simp
          with_reducible rfl
        rotate_left
        · simp only [Act.put, List.setIfInBounds_toArray, List.set_cons_zero, List.set_cons_succ, i64_w, i32_w]
          rfl
        refine pure_ (i := 5) (N := some 71) (v := ?_) (a' := ?_) #[true, true, true, true, true, true, false, false, false, false, false, false, false, false, false, false, false, false, false, false, false, false, false, false, false, false, false, false, false, false, false, false, false, false, false, false, false, false, false, false, false, false, false, false, false, false, false, false, false, false, false] rfl rfl (any_of HT_.out (by kernel_rfl)) (fun _ _ _ h => h) (Or.inl ⟨by rfl, ?_⟩) ?_ ?_
        rotate_left
        · intro w'
          go_simp
          with_reducible rfl
        rotate_left
        · simp only [Act.put, List.setIfInBounds_toArray, List.set_cons_zero, List.set_cons_succ, i64_w, i32_w]
          rfl
        refine pure_ (i := 6) (N := some 72) (v := ?_) (a' := ?_) #[true, true, true, true, true, true, true, false, false, false, false, false, false, false, false, false, false, false, false, false, false, false, false, false, false, false, false, false, false, false, false, false, false, false, false, false, false, false, false, false, false, false, false, false, false, false, false, false, false, false, false] rfl rfl (any_of HT_.out (by kernel_rfl)) (fun _ _ _ h => h) (Or.inl ⟨by rfl, ?_⟩) ?_ ?_
        rotate_left
        · intro w'
          go_simp
          with_reducible rfl
        rotate_left
        · simp only [Act.put, List.setIfInBounds_toArray, List.set_cons_zero, List.set_cons_succ, i64_w, i32_w]
          rfl
        refine pure_ (i := 9) (N := some 75) (v := ?_) (a' := ?_) #[true, true, true, true, true, true, true, false, false, true, false, false, false, false, false, false, false, false, false, false, false, false, false, false, false, false, false, false, false, false, false, false, false, false, false, false, false, false, false, false, false, false, false, false, false, false, false, false, false, false, false] rfl rfl (any_of HT_.out (by kernel_rfl)) (fun _ _ _ h => h) (Or.inl ⟨by rfl, ?_⟩) ?_ ?_
        rotate_left
        · intro w'
          go_simp
          with_reducible rfl
        rotate_left
        · simp only [Act.put, List.setIfInBounds_toArray, List.set_cons_zero, List.set_cons_succ, i64_w, i32_w]
          rfl
        refine take_ (i := 7) (N := some 73) (v := ?_) (a' := ?_) #[true, true, true, true, true, true, true, true, false, true, false, false, false, false, false, false, false, false, false, false, false, false, false, false, false, false, false, false, false, false, false, false, false, false, false, false, false, false, false, false, false, false, false, false, false, false, false, false, false, false, false] rfl rfl (take_of HT_.out (by kernel_rfl)) (fun _ _ _ h => h) (Or.inl ⟨by rfl, ?_⟩) hHeld ?_ ?_
        rotate_left
        · intro w' hS_
          obtain s0 := hS_
          go_simp
          with_reducible rfl
        rotate_left
        · simp only [Act.put, List.setIfInBounds_toArray, List.set_cons_zero, List.set_cons_succ, i64_w, i32_w]
          rfl
        refine one_ (i := 8) (N := some 74) #[true, true, true, true, true, true, true, true, true, true, false, false, false, false, false, false, false, false, false, false, false, false, false, false, false, false, false, false, false, false, false, false, false, false, false, false, false, false, false, false, false, false, false, false, false, false, false, false, false, false, false] rfl rfl (one_of HT_.out (by kernel_rfl)) (by decide) (fun K hK => ?_)
        refine goes_ Try.func21 (by kernel_rfl) rfl #[ptr g, .string x] (by rfl) rfl rfl (by (try simp only [List.map_toArray, List.map_cons, List.map_nil]); first | done | rfl) ?_
        refine (HV.out _ (K3.out.below (below_drew1 (Below.refl _ w3)))).mono ?_
        rintro e xa ⟨rfl, hb_⟩
        have HBxa := Aside0.mk (below_step (below_drew1 (Below.refl _ w3)) hb_)
        clear hb_
        have hsxa : (fun w' => w'.cell? (ad.add k) = some (.string x)) xa := (HBxa.out.cell lt0).trans q3
        refine ⟨_, rfl, ?_⟩
        refine hK.out _ _ hsxa (fun hHeld => ?_)
        clear hK K
        refine norm_ (a' := ?_) ?_ ?_
        rotate_left
        · show Act.put _ (some 74) _ = _
          simp only [Act.put, List.setIfInBounds_toArray, List.set_cons_zero, List.set_cons_succ, i64_w, i32_w]
          rfl
        refine pure_ (i := 10) (N := some 76) (v := ?_) (a' := ?_) #[true, true, true, true, true, true, true, true, true, true, true, false, false, false, false, false, false, false, false, false, false, false, false, false, false, false, false, false, false, false, false, false, false, false, false, false, false, false, false, false, false, false, false, false, false, false, false, false, false, false, false] rfl rfl (any_of HT_.out (by kernel_rfl)) (fun _ _ _ h => h) (Or.inl ⟨by rfl, ?_⟩) ?_ ?_
        rotate_left
        · intro w'
          go_simp
          with_reducible rfl
        rotate_left
        · simp only [Act.put, List.setIfInBounds_toArray, List.set_cons_zero, List.set_cons_succ, i64_w, i32_w]
          rfl
        refine pure_ (i := 11) (N := some 77) (v := ?_) (a' := ?_) #[true, true, true, true, true, true, true, true, true, true, true, true, false, false, false, false, false, false, false, false, false, false, false, false, false, false, false, false, false, false, false, false, false, false, false, false, false, false, false, false, false, false, false, false, false, false, false, false, false, false, false] rfl rfl (any_of HT_.out (by kernel_rfl)) (fun _ _ _ h => h) (Or.inl ⟨by rfl, ?_⟩) ?_ ?_
        rotate_left
        · intro w'
          go_simp
          with_reducible rfl
        rotate_left
        · simp only [Act.put, List.setIfInBounds_toArray, List.set_cons_zero, List.set_cons_succ, i64_w, i32_w]
          rfl
        refine pure_ (i := 12) (N := some 78) (v := ?_) (a' := ?_) #[true, true, true, true, true, true, true, true, true, true, true, true, true, false, false, false, false, false, false, false, false, false, false, false, false, false, false, false, false, false, false, false, false, false, false, false, false, false, false, false, false, false, false, false, false, false, false, false, false, false, false] rfl rfl (any_of HT_.out (by kernel_rfl)) (fun _ _ _ h => h) (Or.inl ⟨by rfl, ?_⟩) ?_ ?_
        rotate_left
        · intro w'
          go_simp
          with_reducible rfl
        rotate_left
        · simp only [Act.put, List.setIfInBounds_toArray, List.set_cons_zero, List.set_cons_succ, i64_w, i32_w]
          rfl
        refine pure_ (i := 13) (N := some 79) (v := ?_) (a' := ?_) #[true, true, true, true, true, true, true, true, true, true, true, true, true, true, false, false, false, false, false, false, false, false, false, false, false, false, false, false, false, false, false, false, false, false, false, false, false, false, false, false, false, false, false, false, false, false, false, false, false, false, false] rfl rfl (any_of HT_.out (by kernel_rfl)) (fun _ _ _ h => h) (Or.inl ⟨by rfl, ?_⟩) ?_ ?_
        rotate_left
        · intro w'
          go_simp
          with_reducible rfl
        rotate_left
        · simp only [Act.put, List.setIfInBounds_toArray, List.set_cons_zero, List.set_cons_succ, i64_w, i32_w]
          rfl
        refine pure_ (i := 14) (N := some 80) (v := ?_) (a' := ?_) #[true, true, true, true, true, true, true, true, true, true, true, true, true, true, true, false, false, false, false, false, false, false, false, false, false, false, false, false, false, false, false, false, false, false, false, false, false, false, false, false, false, false, false, false, false, false, false, false, false, false, false] rfl rfl (any_of HT_.out (by kernel_rfl)) (fun _ _ _ h => h) (Or.inl ⟨by rfl, ?_⟩) ?_ ?_
        rotate_left
        · intro w'
          go_simp
          with_reducible rfl
        rotate_left
        · simp only [Act.put, List.setIfInBounds_toArray, List.set_cons_zero, List.set_cons_succ, i64_w, i32_w]
          rfl
        refine pure_ (i := 15) (N := some 81) (v := ?_) (a' := ?_) #[true, true, true, true, true, true, true, true, true, true, true, true, true, true, true, true, false, false, false, false, false, false, false, false, false, false, false, false, false, false, false, false, false, false, false, false, false, false, false, false, false, false, false, false, false, false, false, false, false, false, false] rfl rfl (any_of HT_.out (by kernel_rfl)) (fun _ _ _ h => h) (Or.inl ⟨by rfl, ?_⟩) ?_ ?_
        rotate_left
        · intro w'
          go_simp
          with_reducible rfl
        rotate_left
        · simp only [Act.put, List.setIfInBounds_toArray, List.set_cons_zero, List.set_cons_succ, i64_w, i32_w]
          rfl
        refine pure_ (i := 16) (N := some 82) (v := ?_) (a' := ?_) #[true, true, true, true, true, true, true, true, true, true, true, true, true, true, true, true, true, false, false, false, false, false, false, false, false, false, false, false, false, false, false, false, false, false, false, false, false, false, false, false, false, false, false, false, false, false, false, false, false, false, false] rfl rfl (any_of HT_.out (by kernel_rfl)) (fun _ _ _ h => h) (Or.inl ⟨by rfl, ?_⟩) ?_ ?_
        rotate_left
        · intro w'
          go_simp
          with_reducible rfl
        rotate_left
        · simp only [Act.put, List.setIfInBounds_toArray, List.set_cons_zero, List.set_cons_succ, i64_w, i32_w]
          rfl
        refine pure_ (i := 17) (N := some 83) (v := ?_) (a' := ?_) #[true, true, true, true, true, true, true, true, true, true, true, true, true, true, true, true, true, true, false, false, false, false, false, false, false, false, false, false, false, false, false, false, false, false, false, false, false, false, false, false, false, false, false, false, false, false, false, false, false, false, false] rfl rfl (any_of HT_.out (by kernel_rfl)) (fun _ _ _ h => h) (Or.inl ⟨by rfl, ?_⟩) ?_ ?_
        rotate_left
        · intro w'
          go_simp
          with_reducible rfl
        rotate_left
        · simp only [Act.put, List.setIfInBounds_toArray, List.set_cons_zero, List.set_cons_succ, i64_w, i32_w]
          rfl
        refine pure_ (i := 18) (N := some 84) (v := ?_) (a' := ?_) #[true, true, true, true, true, true, true, true, true, true, true, true, true, true, true, true, true, true, true, false, false, false, false, false, false, false, false, false, false, false, false, false, false, false, false, false, false, false, false, false, false, false, false, false, false, false, false, false, false, false, false] rfl rfl (any_of HT_.out (by kernel_rfl)) (fun _ _ _ h => h) (Or.inl ⟨by rfl, ?_⟩) ?_ ?_
        rotate_left
        · intro w'
          go_simp
          with_reducible rfl
        rotate_left
        · simp only [Act.put, List.setIfInBounds_toArray, List.set_cons_zero, List.set_cons_succ, i64_w, i32_w]
          rfl
        refine pure_ (i := 19) (N := some 85) (v := ?_) (a' := ?_) #[true, true, true, true, true, true, true, true, true, true, true, true, true, true, true, true, true, true, true, true, false, false, false, false, false, false, false, false, false, false, false, false, false, false, false, false, false, false, false, false, false, false, false, false, false, false, false, false, false, false, false] rfl rfl (any_of HT_.out (by kernel_rfl)) (fun _ _ _ h => h) (Or.inl ⟨by rfl, ?_⟩) ?_ ?_
        rotate_left
        · intro w'
          go_simp
          with_reducible rfl
        rotate_left
        · simp only [Act.put, List.setIfInBounds_toArray, List.set_cons_zero, List.set_cons_succ, i64_w, i32_w]
          rfl
        refine pure_ (i := 20) (N := some 86) (v := ?_) (a' := ?_) #[true, true, true, true, true, true, true, true, true, true, true, true, true, true, true, true, true, true, true, true, true, false, false, false, false, false, false, false, false, false, false, false, false, false, false, false, false, false, false, false, false, false, false, false, false, false, false, false, false, false, false] rfl rfl (any_of HT_.out (by kernel_rfl)) (fun _ _ _ h => h) (Or.inl ⟨by rfl, ?_⟩) ?_ ?_
        rotate_left
        · intro w'
          go_simp
          with_reducible rfl
        rotate_left
        · simp only [Act.put, List.setIfInBounds_toArray, List.set_cons_zero, List.set_cons_succ, i64_w, i32_w]
          rfl
        refine pure_ (i := 21) (N := some 87) (v := ?_) (a' := ?_) #[true, true, true, true, true, true, true, true, true, true, true, true, true, true, true, true, true, true, true, true, true, true, false, false, false, false, false, false, false, false, false, false, false, false, false, false, false, false, false, false, false, false, false, false, false, false, false, false, false, false, false] rfl rfl (any_of HT_.out (by kernel_rfl)) (fun _ _ _ h => h) (Or.inl ⟨by rfl, ?_⟩) ?_ ?_
        rotate_left
        · intro w'
          go_simp
          with_reducible rfl
        rotate_left
        · simp only [Act.put, List.setIfInBounds_toArray, List.set_cons_zero, List.set_cons_succ, i64_w, i32_w]
          rfl
        refine pure_ (i := 22) (N := some 88) (v := ?_) (a' := ?_) #[true, true, true, true, true, true, true, true, true, true, true, true, true, true, true, true, true, true, true, true, true, true, true, false, false, false, false, false, false, false, false, false, false, false, false, false, false, false, false, false, false, false, false, false, false, false, false, false, false, false, false] rfl rfl (any_of HT_.out (by kernel_rfl)) (fun _ _ _ h => h) (Or.inl ⟨by rfl, ?_⟩) ?_ ?_
        rotate_left
        · intro w'
          go_simp
          with_reducible rfl
        rotate_left
        · simp only [Act.put, List.setIfInBounds_toArray, List.set_cons_zero, List.set_cons_succ, i64_w, i32_w]
          rfl
        refine pure_ (i := 25) (N := some 91) (v := ?_) (a' := ?_) #[true, true, true, true, true, true, true, true, true, true, true, true, true, true, true, true, true, true, true, true, true, true, true, false, false, true, false, false, false, false, false, false, false, false, false, false, false, false, false, false, false, false, false, false, false, false, false, false, false, false, false] rfl rfl (any_of HT_.out (by kernel_rfl)) (fun _ _ _ h => h) (Or.inl ⟨by rfl, ?_⟩) ?_ ?_
        rotate_left
        · intro w'
          go_simp
          with_reducible rfl
        rotate_left
        · simp only [Act.put, List.setIfInBounds_toArray, List.set_cons_zero, List.set_cons_succ, i64_w, i32_w]
          rfl
        refine take_ (i := 23) (N := some 89) (v := ?_) (a' := ?_) #[true, true, true, true, true, true, true, true, true, true, true, true, true, true, true, true, true, true, true, true, true, true, true, true, false, true, false, false, false, false, false, false, false, false, false, false, false, false, false, false, false, false, false, false, false, false, false, false, false, false, false] rfl rfl (take_of HT_.out (by kernel_rfl)) (fun _ _ _ h => h) (Or.inl ⟨by rfl, ?_⟩) hHeld ?_ ?_
        rotate_left
        · intro w' hS_
          obtain s0 := hS_
          go_simp
          with_reducible rfl
        rotate_left
        · simp only [Act.put, List.setIfInBounds_toArray, List.set_cons_zero, List.set_cons_succ, i64_w, i32_w]
          rfl
        refine one_ (i := 24) (N := some 90) #[true, true, true, true, true, true, true, true, true, true, true, true, true, true, true, true, true, true, true, true, true, true, true, true, true, true, false, false, false, false, false, false, false, false, false, false, false, false, false, false, false, false, false, false, false, false, false, false, false, false, false] rfl rfl (one_of HT_.out (by kernel_rfl)) (by decide) (fun K hK => ?_)
        refine goes_ Try.func19 (by kernel_rfl) rfl #[.slice Al L.length nl_, .string x] (by rfl) rfl rfl (by (try simp only [List.map_toArray, List.map_cons, List.map_nil]); first | done | rfl) ?_
        refine (has_raw x L Al nl_ _ (Kd.R_reads' (Kd.R_below RL3.out HBxa.out)).2.2 (Kd.R_reads' RL3.out).2.1).mono ?_
        rw [hhl]
        rintro e xb ⟨rfl, hd_⟩
        have HBxb := Aside0.mk (below_step HBxa.out (Drawn0.below hd_))
        clear hd_
        have hsxb : (fun w' => w'.cell? (ad.add k) = some (.string x)) xb := (HBxb.out.cell lt0).trans q3
        refine ⟨_, rfl, ?_⟩
        refine hK.out _ _ hsxb (fun hHeld => ?_)
        clear hK K
        refine norm_ (a' := ?_) ?_ ?_
        rotate_left
        · show Act.put _ (some 90) _ = _
          simp only [Act.put, List.setIfInBounds_toArray, List.set_cons_zero, List.set_cons_succ, i64_w, i32_w]
          rfl
        refine pure_ (i := 26) (N := some 92) (v := ?_) (a' := ?_) #[true, true, true, true, true, true, true, true, true, true, true, true, true, true, true, true, true, true, true, true, true, true, true, true, true, true, true, false, false, false, false, false, false, false, false, false, false, false, false, false, false, false, false, false, false, false, false, false, false, false, false] rfl rfl (any_of HT_.out (by kernel_rfl)) (fun _ _ _ h => h) (Or.inl ⟨by rfl, ?_⟩) ?_ ?_
        rotate_left
        · intro w'
          go_simp
          with_reducible rfl
        rotate_left
        · simp only [Act.put, List.setIfInBounds_toArray, List.set_cons_zero, List.set_cons_succ, i64_w, i32_w]
          rfl
        refine pure_ (i := 27) (N := some 93) (v := ?_) (a' := ?_) #[true, true, true, true, true, true, true, true, true, true, true, true, true, true, true, true, true, true, true, true, true, true, true, true, true, true, true, true, false, false, false, false, false, false, false, false, false, false, false, false, false, false, false, false, false, false, false, false, false, false, false] rfl rfl (any_of HT_.out (by kernel_rfl)) (fun _ _ _ h => h) (Or.inl ⟨by rfl, ?_⟩) ?_ ?_
        rotate_left
        · intro w'
          go_simp
          with_reducible rfl
        rotate_left
        · simp only [Act.put, List.setIfInBounds_toArray, List.set_cons_zero, List.set_cons_succ, i64_w, i32_w]
          rfl
        refine pure_ (i := 28) (N := some 94) (v := ?_) (a' := ?_) #[true, true, true, true, true, true, true, true, true, true, true, true, true, true, true, true, true, true, true, true, true, true, true, true, true, true, true, true, true, false, false, false, false, false, false, false, false, false, false, false, false, false, false, false, false, false, false, false, false, false, false] rfl rfl (any_of HT_.out (by kernel_rfl)) (fun _ _ _ h => h) (Or.inl ⟨by rfl, ?_⟩) ?_ ?_
        rotate_left
        · intro w'
          go_simp
          with_reducible rfl
        rotate_left
        · simp only [Act.put, List.setIfInBounds_toArray, List.set_cons_zero, List.set_cons_succ, i64_w, i32_w]
          rfl
        refine pure_ (i := 29) (N := some 95) (v := ?_) (a' := ?_) #[true, true, true, true, true, true, true, true, true, true, true, true, true, true, true, true, true, true, true, true, true, true, true, true, true, true, true, true, true, true, false, false, false, false, false, false, false, false, false, false, false, false, false, false, false, false, false, false, false, false, false] rfl rfl (any_of HT_.out (by kernel_rfl)) (fun _ _ _ h => h) (Or.inl ⟨by rfl, ?_⟩) ?_ ?_
        rotate_left
        · intro w'
          go_simp
          with_reducible rfl
        rotate_left
        · simp only [Act.put, List.setIfInBounds_toArray, List.set_cons_zero, List.set_cons_succ, i64_w, i32_w]
          rfl
        refine pure_ (i := 30) (N := some 96) (v := ?_) (a' := ?_) #[true, true, true, true, true, true, true, true, true, true, true, true, true, true, true, true, true, true, true, true, true, true, true, true, true, true, true, true, true, true, true, false, false, false, false, false, false, false, false, false, false, false, false, false, false, false, false, false, false, false, false] rfl rfl (any_of HT_.out (by kernel_rfl)) (fun _ _ _ h => h) (Or.inl ⟨by rfl, ?_⟩) ?_ ?_
        rotate_left
        · intro w'
          go_simp
          with_reducible rfl
        rotate_left
        · simp only [Act.put, List.setIfInBounds_toArray, List.set_cons_zero, List.set_cons_succ, i64_w, i32_w]
          rfl
        refine pure_ (i := 31) (N := some 97) (v := ?_) (a' := ?_) #[true, true, true, true, true, true, true, true, true, true, true, true, true, true, true, true, true, true, true, true, true, true, true, true, true, true, true, true, true, true, true, true, false, false, false, false, false, false, false, false, false, false, false, false, false, false, false, false, false, false, false] rfl rfl (any_of HT_.out (by kernel_rfl)) (fun _ _ _ h => h) (Or.inl ⟨by rfl, ?_⟩) ?_ ?_
        rotate_left
        · intro w'
          go_simp
          with_reducible rfl
        rotate_left
        · simp only [Act.put, List.setIfInBounds_toArray, List.set_cons_zero, List.set_cons_succ, i64_w, i32_w]
          rfl
        refine pure_ (i := 32) (N := some 98) (v := undef) (a' := ?_) #[true, true, true, true, true, true, true, true, true, true, true, true, true, true, true, true, true, true, true, true, true, true, true, true, true, true, true, true, true, true, true, true, true, false, false, false, false, false, false, false, false, false, false, false, false, false, false, false, false, false, false] rfl rfl (any_of HT_.out (by kernel_rfl)) (fun _ _ _ h => h) (Or.inr ⟨by rfl, rfl⟩) ?_ ?_
        rotate_left
        · simp only [Act.put, List.setIfInBounds_toArray, List.set_cons_zero, List.set_cons_succ, i64_w, i32_w]
          rfl
        refine pure_ (i := 33) (N := some 99) (v := undef) (a' := ?_) #[true, true, true, true, true, true, true, true, true, true, true, true, true, true, true, true, true, true, true, true, true, true, true, true, true, true, true, true, true, true, true, true, true, true, false, false, false, false, false, false, false, false, false, false, false, false, false, false, false, false, false] rfl rfl (any_of HT_.out (by kernel_rfl)) (fun _ _ _ h => h) (Or.inr ⟨by rfl, rfl⟩) ?_ ?_
        rotate_left
        · simp only [Act.put, List.setIfInBounds_toArray, List.set_cons_zero, List.set_cons_succ, i64_w, i32_w]
          rfl
        refine pure_ (i := 34) (N := some 100) (v := undef) (a' := ?_) #[true, true, true, true, true, true, true, true, true, true, true, true, true, true, true, true, true, true, true, true, true, true, true, true, true, true, true, true, true, true, true, true, true, true, true, false, false, false, false, false, false, false, false, false, false, false, false, false, false, false, false] rfl rfl (any_of HT_.out (by kernel_rfl)) (fun _ _ _ h => h) (Or.inr ⟨by rfl, rfl⟩) ?_ ?_
        rotate_left
        · simp only [Act.put, List.setIfInBounds_toArray, List.set_cons_zero, List.set_cons_succ, i64_w, i32_w]
          rfl
        refine pure_ (i := 35) (N := some 101) (v := undef) (a' := ?_) #[true, true, true, true, true, true, true, true, true, true, true, true, true, true, true, true, true, true, true, true, true, true, true, true, true, true, true, true, true, true, true, true, true, true, true, true, false, false, false, false, false, false, false, false, false, false, false, false, false, false, false] rfl rfl (any_of HT_.out (by kernel_rfl)) (fun _ _ _ h => h) (Or.inr ⟨by rfl, rfl⟩) ?_ ?_
        rotate_left
        · simp only [Act.put, List.setIfInBounds_toArray, List.set_cons_zero, List.set_cons_succ, i64_w, i32_w]
          rfl
        refine pure_ (i := 36) (N := some 102) (v := undef) (a' := ?_) #[true, true, true, true, true, true, true, true, true, true, true, true, true, true, true, true, true, true, true, true, true, true, true, true, true, true, true, true, true, true, true, true, true, true, true, true, true, false, false, false, false, false, false, false, false, false, false, false, false, false, false] rfl rfl (any_of HT_.out (by kernel_rfl)) (fun _ _ _ h => h) (Or.inr ⟨by rfl, rfl⟩) ?_ ?_
        rotate_left
        · simp only [Act.put, List.setIfInBounds_toArray, List.set_cons_zero, List.set_cons_succ, i64_w, i32_w]
          rfl
        refine pure_ (i := 37) (N := some 103) (v := undef) (a' := ?_) #[true, true, true, true, true, true, true, true, true, true, true, true, true, true, true, true, true, true, true, true, true, true, true, true, true, true, true, true, true, true, true, true, true, true, true, true, true, true, false, false, false, false, false, false, false, false, false, false, false, false, false] rfl rfl (any_of HT_.out (by kernel_rfl)) (fun _ _ _ h => h) (Or.inr ⟨by rfl, rfl⟩) ?_ ?_
        rotate_left
        · simp only [Act.put, List.setIfInBounds_toArray, List.set_cons_zero, List.set_cons_succ, i64_w, i32_w]
          rfl
        refine pure_ (i := 38) (N := some 104) (v := undef) (a' := ?_) #[true, true, true, true, true, true, true, true, true, true, true, true, true, true, true, true, true, true, true, true, true, true, true, true, true, true, true, true, true, true, true, true, true, true, true, true, true, true, true, false, false, false, false, false, false, false, false, false, false, false, false] rfl rfl (any_of HT_.out (by kernel_rfl)) (fun _ _ _ h => h) (Or.inr ⟨by rfl, rfl⟩) ?_ ?_
        rotate_left
        · simp only [Act.put, List.setIfInBounds_toArray, List.set_cons_zero, List.set_cons_succ, i64_w, i32_w]
          rfl
        refine pure_ (i := 39) (N := some 105) (v := undef) (a' := ?_) #[true, true, true, true, true, true, true, true, true, true, true, true, true, true, true, true, true, true, true, true, true, true, true, true, true, true, true, true, true, true, true, true, true, true, true, true, true, true, true, true, false, false, false, false, false, false, false, false, false, false, false] rfl rfl (any_of HT_.out (by kernel_rfl)) (fun _ _ _ h => h) (Or.inr ⟨by rfl, rfl⟩) ?_ ?_
        rotate_left
        · simp only [Act.put, List.setIfInBounds_toArray, List.set_cons_zero, List.set_cons_succ, i64_w, i32_w]
          rfl
        refine pure_ (i := 40) (N := some 106) (v := ?_) (a' := ?_) #[true, true, true, true, true, true, true, true, true, true, true, true, true, true, true, true, true, true, true, true, true, true, true, true, true, true, true, true, true, true, true, true, true, true, true, true, true, true, true, true, true, false, false, false, false, false, false, false, false, false, false] rfl rfl (any_of HT_.out (by kernel_rfl)) (fun _ _ _ h => h) (Or.inl ⟨by rfl, ?_⟩) ?_ ?_
        rotate_left
        · intro w'
          go_simp
          with_reducible rfl
        rotate_left
        · simp only [Act.put, List.setIfInBounds_toArray, List.set_cons_zero, List.set_cons_succ, i64_w, i32_w]
          rfl
        refine pure_ (i := 41) (N := some 107) (v := ?_) (a' := ?_) #[true, true, true, true, true, true, true, true, true, true, true, true, true, true, true, true, true, true, true, true, true, true, true, true, true, true, true, true, true, true, true, true, true, true, true, true, true, true, true, true, true, true, false, false, false, false, false, false, false, false, false] rfl rfl (any_of HT_.out (by kernel_rfl)) (fun _ _ _ h => h) (Or.inl ⟨by rfl, ?_⟩) ?_ ?_
        rotate_left
        · intro w'
          go_simp
          with_reducible rfl
        rotate_left
        · simp only [Act.put, List.setIfInBounds_toArray, List.set_cons_zero, List.set_cons_succ, i64_w, i32_w]
          rfl
        refine pure_ (i := 42) (N := some 108) (v := ?_) (a' := ?_) #[true, true, true, true, true, true, true, true, true, true, true, true, true, true, true, true, true, true, true, true, true, true, true, true, true, true, true, true, true, true, true, true, true, true, true, true, true, true, true, true, true, true, true, false, false, false, false, false, false, false, false] rfl rfl (any_of HT_.out (by kernel_rfl)) (fun _ _ _ h => h) (Or.inl ⟨by rfl, ?_⟩) ?_ ?_
        rotate_left
        · intro w'
          go_simp
          with_reducible rfl
        rotate_left
        · simp only [Act.put, List.setIfInBounds_toArray, List.set_cons_zero, List.set_cons_succ, i64_w, i32_w]
          rfl
        refine pure_ (i := 43) (N := some 109) (v := ?_) (a' := ?_) #[true, true, true, true, true, true, true, true, true, true, true, true, true, true, true, true, true, true, true, true, true, true, true, true, true, true, true, true, true, true, true, true, true, true, true, true, true, true, true, true, true, true, true, true, false, false, false, false, false, false, false] rfl rfl (any_of HT_.out (by kernel_rfl)) (fun _ _ _ h => h) (Or.inl ⟨by rfl, ?_⟩) ?_ ?_
        rotate_left
        · intro w'
          go_simp
          with_reducible rfl
        rotate_left
        · simp only [Act.put, List.setIfInBounds_toArray, List.set_cons_zero, List.set_cons_succ, i64_w, i32_w]
          rfl
        refine pure_ (i := 45) (N := some 111) (v := ?_) (a' := ?_) #[true, true, true, true, true, true, true, true, true, true, true, true, true, true, true, true, true, true, true, true, true, true, true, true, true, true, true, true, true, true, true, true, true, true, true, true, true, true, true, true, true, true, true, true, false, true, false, false, false, false, false] rfl rfl (any_of HT_.out (by kernel_rfl)) (fun _ _ _ h => h) (Or.inl ⟨by rfl, ?_⟩) ?_ ?_
        rotate_left
        · intro w'
          go_simp
          with_reducible rfl
        rotate_left
        · simp only [Act.put, List.setIfInBounds_toArray, List.set_cons_zero, List.set_cons_succ, i64_w, i32_w]
          rfl
        refine pure_ (i := 46) (N := some 112) (v := ?_) (a' := ?_) #[true, true, true, true, true, true, true, true, true, true, true, true, true, true, true, true, true, true, true, true, true, true, true, true, true, true, true, true, true, true, true, true, true, true, true, true, true, true, true, true, true, true, true, true, false, true, true, false, false, false, false] rfl rfl (any_of HT_.out (by kernel_rfl)) (fun _ _ _ h => h) (Or.inl ⟨by rfl, ?_⟩) ?_ ?_
        rotate_left
        · intro w'
          go_simp
          with_reducible rfl
        rotate_left
        · simp only [Act.put, List.setIfInBounds_toArray, List.set_cons_zero, List.set_cons_succ, i64_w, i32_w]
          rfl
        refine pure_ (i := 47) (N := some 113) (v := ?_) (a' := ?_) #[true, true, true, true, true, true, true, true, true, true, true, true, true, true, true, true, true, true, true, true, true, true, true, true, true, true, true, true, true, true, true, true, true, true, true, true, true, true, true, true, true, true, true, true, false, true, true, true, false, false, false] rfl rfl (any_of HT_.out (by kernel_rfl)) (fun _ _ _ h => h) (Or.inl ⟨by rfl, ?_⟩) ?_ ?_
        rotate_left
        · intro w'
          go_simp
          with_reducible rfl
        rotate_left
        · simp only [Act.put, List.setIfInBounds_toArray, List.set_cons_zero, List.set_cons_succ, i64_w, i32_w]
          rfl
        refine take_ (i := 48) (N := some 114) (v := ?_) (a' := ?_) #[true, true, true, true, true, true, true, true, true, true, true, true, true, true, true, true, true, true, true, true, true, true, true, true, true, true, true, true, true, true, true, true, true, true, true, true, true, true, true, true, true, true, true, true, false, true, true, true, true, false, false] rfl rfl (take_of HT_.out (by kernel_rfl)) (fun _ _ _ h => h) (Or.inl ⟨by rfl, ?_⟩) hHeld ?_ ?_
        rotate_left
        · intro w' hS_
          obtain s0 := hS_
          go_simp
          with_reducible rfl
        rotate_left
        · simp only [Act.put, List.setIfInBounds_toArray, List.set_cons_zero, List.set_cons_succ, i64_w, i32_w]
          rfl
        refine one_ (i := 44) (N := some 110) #[true, true, true, true, true, true, true, true, true, true, true, true, true, true, true, true, true, true, true, true, true, true, true, true, true, true, true, true, true, true, true, true, true, true, true, true, true, true, true, true, true, true, true, true, true, true, true, true, true, false, false] rfl rfl (one_of HT_.out (by kernel_rfl)) (by decide) (fun K hK => ?_)
        refine goes_ Try.func22 (by kernel_rfl) rfl #[ptr g, .int .i64 6] (by rfl) rfl rfl (by (try simp only [List.map_toArray, List.map_cons, List.map_nil]); first | done | rfl) ?_
        refine (HD6E.out g _ (K3.out.below HBxb.out)).mono ?_
        rintro e xe ⟨v_, rfl, hR_, hb_⟩
        obtain ⟨Af, nf, rfl⟩ := Kd.R_slice hR_
        have HQf := Aside0.mk (Kd.R_reads' hR_)
        have HBxe := Aside0.mk (below_step HBxb.out hb_)
        clear hR_ hb_
        have hsxe : (fun w' => w'.cell? (ad.add k) = some (.string x)) xe := (HBxe.out.cell lt0).trans q3
        refine ⟨_, rfl, ?_⟩
        refine hK.out _ _ hsxe (fun hHeld => ?_)
        clear hK K
        refine norm_ (a' := ?_) ?_ ?_
        rotate_left
        · show Act.put _ (some 110) _ = _
          simp only [Act.put, List.setIfInBounds_toArray, List.set_cons_zero, List.set_cons_succ, i64_w, i32_w]
          rfl
        refine one_ (i := 49) (N := some 115) #[true, true, true, true, true, true, true, true, true, true, true, true, true, true, true, true, true, true, true, true, true, true, true, true, true, true, true, true, true, true, true, true, true, true, true, true, true, true, true, true, true, true, true, true, true, true, true, true, true, true, false] rfl rfl (one_of HT_.out (by kernel_rfl)) (by decide) (fun K hK => ?_)
        refine goes_ Try.func19 (by kernel_rfl) rfl #[.slice Af EM.length nf, .string x] (by rfl) rfl rfl (by (try simp only [List.map_toArray, List.map_cons, List.map_nil]); first | done | rfl) ?_
        refine (has_raw x EM Af nf _ HQf.out.2.2 HQf.out.2.1).mono ?_
        rw [hhe]
        rintro e xf ⟨rfl, hd_⟩
        have HBxf := Aside0.mk (below_step HBxe.out (Drawn0.below hd_))
        clear hd_
        have hsxf : (fun w' => w'.cell? (ad.add k) = some (.string x)) xf := (HBxf.out.cell lt0).trans q3
        refine ⟨_, rfl, ?_⟩
        refine hK.out _ _ hsxf (fun hHeld => ?_)
        clear hK K
        refine norm_ (a' := ?_) ?_ ?_
        rotate_left
        · show Act.put _ (some 115) _ = _
          simp only [Act.put, List.setIfInBounds_toArray, List.set_cons_zero, List.set_cons_succ, i64_w, i32_w]
          rfl
        refine pure_ (i := 50) (N := some 116) (v := ?_) (a' := ?_) #[true, true, true, true, true, true, true, true, true, true, true, true, true, true, true, true, true, true, true, true, true, true, true, true, true, true, true, true, true, true, true, true, true, true, true, true, true, true, true, true, true, true, true, true, true, true, true, true, true, true, true] rfl rfl (any_of HT_.out (by kernel_rfl)) (fun _ _ _ h => h) (Or.inl ⟨by rfl, ?_⟩) ?_ ?_
        rotate_left
        · intro w'
          go_simp
          with_reducible rfl
        rotate_left
        · simp only [Act.put, List.setIfInBounds_toArray, List.set_cons_zero, List.set_cons_succ, i64_w, i32_w]
          rfl
        refine done_ (done_of HT_.out (by kernel_rfl)) ?_
        clear hHeld
        have K9 := Aside0.mk (K3.out.below HBxf.out)
        have B9 := Aside0.mk (below_step B3.out HBxf.out)
        have RA9 := Aside0.mk (Kd.R_below RA3.out HBxf.out)
        have RB9 := Aside0.mk (Kd.R_below RB3.out HBxf.out)
        have RC9 := Aside0.mk (Kd.R_below RC3.out HBxf.out)
        have RL9 := Aside0.mk (Kd.R_below RL3.out HBxf.out)
        go_wp2
        all_goals exact ⟨⟨k + 1, by rw [show ((k : Int) + 1) = ((k + 1 : Nat) : Int) by omega], by omega, K9, B9, RA9, RB9, RC9, RL9⟩, by simp [intOf]; omega⟩
      | false =>
        have HS : Aside0 (∀ (W : World), IsF w W g (twoS a b) → Calls Try.prog 20 #[ptr g, .string x] W fun e w' => e = .returned (.tuple #[.int .i64 1, .bool true]) ∧ Below W.heap.size W w') := ⟨fun W hI => by have := HSA.out g W hI x HXA.out; rw [hin] at this; exact this⟩
        have HV : Aside0 (∀ (W : World), IsF w W g (twoS a b) → Calls Try.prog 21 #[ptr g, .string x] W fun e w' => e = .returned (.bool true) ∧ Below W.heap.size W w') := ⟨fun W hI => by have := HLA.out g W hI x HXA.out; rw [hin] at this; exact this⟩
        rw [hin, Bool.not_false] at hhl
        rw [hin] at hhb
        clear HSA HLA
        go_upto_region 15 with (first
            | (go_at_call 19; refine (has_raw x b Ab nb _ (Kd.R_reads' RB1.out).2.2 (Kd.R_reads' RB1.out).2.1).mono ?_; rw [hhb]; rintro e w2 ⟨rfl, hd⟩; have hb := Drawn0.below hd; have K2 := Aside0.mk (K1.out.below hb); have B2 := Aside0.mk (below_step B1.out hb); have RA2 := Aside0.mk (Kd.R_below RA1.out hb); have RB2 := Aside0.mk (Kd.R_below RB1.out hb); have RC2 := Aside0.mk (Kd.R_below RC1.out hb); have RL2 := Aside0.mk (Kd.R_below RL1.out hb); obtain ⟨_, e_2, q2⟩ := hRD.out w2 RA2.out; cases e_2; clear hb hd K1 B1 RA1 RB1 RC1 RL1)
            | (go_at_call 20; refine (HS.out w2 K2.out).mono ?_; rintro e w3 ⟨rfl, hb⟩; have K3 := Aside0.mk (K2.out.below hb); have B3 := Aside0.mk (below_step B2.out hb); have RA3 := Aside0.mk (Kd.R_below RA2.out hb); have RB3 := Aside0.mk (Kd.R_below RB2.out hb); have RC3 := Aside0.mk (Kd.R_below RC2.out hb); have RL3 := Aside0.mk (Kd.R_below RL2.out hb); obtain ⟨_, e_3, q3⟩ := hRD.out w3 RA3.out; cases e_3; clear hb K2 B2 RA2 RB2 RC2 RL2))
        have lt0 := World.block_lt_of_cell? w3 _ q3
        refine start_ (n := 51) (S := fun w' => w'.cell? (ad.add k) = some (.string x)) (ds := []) #[false, false, false, false, false, false, false, false, false, false, false, false, false, false, false, false, false, false, false, false, false, false, false, false, false, false, false, false, false, false, false, false, false, false, false, false, false, false, false, false, false, false, false, false, false, false, false, false, false, false, false] (by kernel_rfl) rfl rfl q3 (fun hHeld => ?_); refine with_tab leavesL.tab15 (fun HT_ => ?_)
        refine pure_ (i := 0) (N := some 66) (v := ?_) (a' := ?_) #[true, false, false, false, false, false, false, false, false, false, false, false, false, false, false, false, false, false, false, false, false, false, false, false, false, false, false, false, false, false, false, false, false, false, false, false, false, false, false, false, false, false, false, false, false, false, false, false, false, false, false] rfl rfl (any_of HT_.out (by kernel_rfl)) (fun _ _ _ h => h) (Or.inl ⟨by rfl, ?_⟩) ?_ ?_
        rotate_left
        · intro w'
          go_simp
          with_reducible rfl
        rotate_left
        · simp only [Act.put, List.setIfInBounds_toArray, List.set_cons_zero, List.set_cons_succ, i64_w, i32_w]
          rfl
        refine pure_ (i := 1) (N := some 67) (v := ?_) (a' := ?_) #[true, true, false, false, false, false, false, false, false, false, false, false, false, false, false, false, false, false, false, false, false, false, false, false, false, false, false, false, false, false, false, false, false, false, false, false, false, false, false, false, false, false, false, false, false, false, false, false, false, false, false] rfl rfl (any_of HT_.out (by kernel_rfl)) (fun _ _ _ h => h) (Or.inl ⟨by rfl, ?_⟩) ?_ ?_
        rotate_left
        · intro w'
          go_simp
          with_reducible rfl
        rotate_left
        · simp only [Act.put, List.setIfInBounds_toArray, List.set_cons_zero, List.set_cons_succ, i64_w, i32_w]
          rfl
        refine pure_ (i := 2) (N := some 68) (v := ?_) (a' := ?_) #[true, true, true, false, false, false, false, false, false, false, false, false, false, false, false, false, false, false, false, false, false, false, false, false, false, false, false, false, false, false, false, false, false, false, false, false, false, false, false, false, false, false, false, false, false, false, false, false, false, false, false] rfl rfl (any_of HT_.out (by kernel_rfl)) (fun _ _ _ h => h) (Or.inl ⟨by rfl, ?_⟩) ?_ ?_
        rotate_left
        · intro w'
          go_simp
          with_reducible rfl
        rotate_left
        · simp only [Act.put, List.setIfInBounds_toArray, List.set_cons_zero, List.set_cons_succ, i64_w, i32_w]
          rfl
        refine pure_ (i := 3) (N := some 69) (v := ?_) (a' := ?_) #[true, true, true, true, false, false, false, false, false, false, false, false, false, false, false, false, false, false, false, false, false, false, false, false, false, false, false, false, false, false, false, false, false, false, false, false, false, false, false, false, false, false, false, false, false, false, false, false, false, false, false] rfl rfl (any_of HT_.out (by kernel_rfl)) (fun _ _ _ h => h) (Or.inl ⟨by rfl, ?_⟩) ?_ ?_
        rotate_left
        · intro w'
          go_simp
          with_reducible rfl
        rotate_left
        · simp only [Act.put, List.setIfInBounds_toArray, List.set_cons_zero, List.set_cons_succ, i64_w, i32_w]
          rfl
        refine pure_ (i := 4) (N := some 70) (v := ?_) (a' := ?_) #[true, true, true, true, true, false, false, false, false, false, false, false, false, false, false, false, false, false, false, false, false, false, false, false, false, false, false, false, false, false, false, false, false, false, false, false, false, false, false, false, false, false, false, false, false, false, false, false, false, false, false] rfl rfl (any_of HT_.out (by kernel_rfl)) (fun _ _ _ h => h) (Or.inl ⟨by rfl, ?_⟩) ?_ ?_
        rotate_left
        · intro w'
          go_simp
          with_reducible rfl
        rotate_left
        · simp only [Act.put, List.setIfInBounds_toArray, List.set_cons_zero, List.set_cons_succ, i64_w, i32_w]
          rfl
        refine pure_ (i := 5) (N := some 71) (v := ?_) (a' := ?_) #[true, true, true, true, true, true, false, false, false, false, false, false, false, false, false, false, false, false, false, false, false, false, false, false, false, false, false, false, false, false, false, false, false, false, false, false, false, false, false, false, false, false, false, false, false, false, false, false, false, false, false] rfl rfl (any_of HT_.out (by kernel_rfl)) (fun _ _ _ h => h) (Or.inl ⟨by rfl, ?_⟩) ?_ ?_
        rotate_left
        · intro w'
          go_simp
          with_reducible rfl
        rotate_left
        · simp only [Act.put, List.setIfInBounds_toArray, List.set_cons_zero, List.set_cons_succ, i64_w, i32_w]
          rfl
        refine pure_ (i := 6) (N := some 72) (v := ?_) (a' := ?_) #[true, true, true, true, true, true, true, false, false, false, false, false, false, false, false, false, false, false, false, false, false, false, false, false, false, false, false, false, false, false, false, false, false, false, false, false, false, false, false, false, false, false, false, false, false, false, false, false, false, false, false] rfl rfl (any_of HT_.out (by kernel_rfl)) (fun _ _ _ h => h) (Or.inl ⟨by rfl, ?_⟩) ?_ ?_
        rotate_left
        · intro w'
          go_simp
          with_reducible rfl
        rotate_left
        · simp only [Act.put, List.setIfInBounds_toArray, List.set_cons_zero, List.set_cons_succ, i64_w, i32_w]
          rfl
        refine pure_ (i := 9) (N := some 75) (v := ?_) (a' := ?_) #[true, true, true, true, true, true, true, false, false, true, false, false, false, false, false, false, false, false, false, false, false, false, false, false, false, false, false, false, false, false, false, false, false, false, false, false, false, false, false, false, false, false, false, false, false, false, false, false, false, false, false] rfl rfl (any_of HT_.out (by kernel_rfl)) (fun _ _ _ h => h) (Or.inl ⟨by rfl, ?_⟩) ?_ ?_
        rotate_left
        · intro w'
          go_simp
          with_reducible rfl
        rotate_left
        · simp only [Act.put, List.setIfInBounds_toArray, List.set_cons_zero, List.set_cons_succ, i64_w, i32_w]
          rfl
        refine take_ (i := 7) (N := some 73) (v := ?_) (a' := ?_) #[true, true, true, true, true, true, true, true, false, true, false, false, false, false, false, false, false, false, false, false, false, false, false, false, false, false, false, false, false, false, false, false, false, false, false, false, false, false, false, false, false, false, false, false, false, false, false, false, false, false, false] rfl rfl (take_of HT_.out (by kernel_rfl)) (fun _ _ _ h => h) (Or.inl ⟨by rfl, ?_⟩) hHeld ?_ ?_
        rotate_left
        · intro w' hS_
          obtain s0 := hS_
          go_simp
          with_reducible rfl
        rotate_left
        · simp only [Act.put, List.setIfInBounds_toArray, List.set_cons_zero, List.set_cons_succ, i64_w, i32_w]
          rfl
        refine one_ (i := 8) (N := some 74) #[true, true, true, true, true, true, true, true, true, true, false, false, false, false, false, false, false, false, false, false, false, false, false, false, false, false, false, false, false, false, false, false, false, false, false, false, false, false, false, false, false, false, false, false, false, false, false, false, false, false, false] rfl rfl (one_of HT_.out (by kernel_rfl)) (by decide) (fun K hK => ?_)
        refine goes_ Try.func21 (by kernel_rfl) rfl #[ptr g, .string x] (by rfl) rfl rfl (by (try simp only [List.map_toArray, List.map_cons, List.map_nil]); first | done | rfl) ?_
        refine (HV.out _ (K3.out.below (below_drew1 (Below.refl _ w3)))).mono ?_
        rintro e xa ⟨rfl, hb_⟩
        have HBxa := Aside0.mk (below_step (below_drew1 (Below.refl _ w3)) hb_)
        clear hb_
        have hsxa : (fun w' => w'.cell? (ad.add k) = some (.string x)) xa := (HBxa.out.cell lt0).trans q3
        refine ⟨_, rfl, ?_⟩
        refine hK.out _ _ hsxa (fun hHeld => ?_)
        clear hK K
        refine norm_ (a' := ?_) ?_ ?_
        rotate_left
        · show Act.put _ (some 74) _ = _
          simp only [Act.put, List.setIfInBounds_toArray, List.set_cons_zero, List.set_cons_succ, i64_w, i32_w]
          rfl
        refine pure_ (i := 10) (N := some 76) (v := ?_) (a' := ?_) #[true, true, true, true, true, true, true, true, true, true, true, false, false, false, false, false, false, false, false, false, false, false, false, false, false, false, false, false, false, false, false, false, false, false, false, false, false, false, false, false, false, false, false, false, false, false, false, false, false, false, false] rfl rfl (any_of HT_.out (by kernel_rfl)) (fun _ _ _ h => h) (Or.inl ⟨by rfl, ?_⟩) ?_ ?_
        rotate_left
        · intro w'
          go_simp
          with_reducible rfl
        rotate_left
        · simp only [Act.put, List.setIfInBounds_toArray, List.set_cons_zero, List.set_cons_succ, i64_w, i32_w]
          rfl
        refine pure_ (i := 11) (N := some 77) (v := ?_) (a' := ?_) #[true, true, true, true, true, true, true, true, true, true, true, true, false, false, false, false, false, false, false, false, false, false, false, false, false, false, false, false, false, false, false, false, false, false, false, false, false, false, false, false, false, false, false, false, false, false, false, false, false, false, false] rfl rfl (any_of HT_.out (by kernel_rfl)) (fun _ _ _ h => h) (Or.inl ⟨by rfl, ?_⟩) ?_ ?_
        rotate_left
        · intro w'
          go_simp
          with_reducible rfl
        rotate_left
        · simp only [Act.put, List.setIfInBounds_toArray, List.set_cons_zero, List.set_cons_succ, i64_w, i32_w]
          rfl
        refine pure_ (i := 12) (N := some 78) (v := ?_) (a' := ?_) #[true, true, true, true, true, true, true, true, true, true, true, true, true, false, false, false, false, false, false, false, false, false, false, false, false, false, false, false, false, false, false, false, false, false, false, false, false, false, false, false, false, false, false, false, false, false, false, false, false, false, false] rfl rfl (any_of HT_.out (by kernel_rfl)) (fun _ _ _ h => h) (Or.inl ⟨by rfl, ?_⟩) ?_ ?_
        rotate_left
        · intro w'
          go_simp
          with_reducible rfl
        rotate_left
        · simp only [Act.put, List.setIfInBounds_toArray, List.set_cons_zero, List.set_cons_succ, i64_w, i32_w]
          rfl
        refine pure_ (i := 13) (N := some 79) (v := ?_) (a' := ?_) #[true, true, true, true, true, true, true, true, true, true, true, true, true, true, false, false, false, false, false, false, false, false, false, false, false, false, false, false, false, false, false, false, false, false, false, false, false, false, false, false, false, false, false, false, false, false, false, false, false, false, false] rfl rfl (any_of HT_.out (by kernel_rfl)) (fun _ _ _ h => h) (Or.inl ⟨by rfl, ?_⟩) ?_ ?_
        rotate_left
        · intro w'
          go_simp
          with_reducible rfl
        rotate_left
        · simp only [Act.put, List.setIfInBounds_toArray, List.set_cons_zero, List.set_cons_succ, i64_w, i32_w]
          rfl
        refine pure_ (i := 14) (N := some 80) (v := ?_) (a' := ?_) #[true, true, true, true, true, true, true, true, true, true, true, true, true, true, true, false, false, false, false, false, false, false, false, false, false, false, false, false, false, false, false, false, false, false, false, false, false, false, false, false, false, false, false, false, false, false, false, false, false, false, false] rfl rfl (any_of HT_.out (by kernel_rfl)) (fun _ _ _ h => h) (Or.inl ⟨by rfl, ?_⟩) ?_ ?_
        rotate_left
        · intro w'
          go_simp
          with_reducible rfl
        rotate_left
        · simp only [Act.put, List.setIfInBounds_toArray, List.set_cons_zero, List.set_cons_succ, i64_w, i32_w]
          rfl
        refine pure_ (i := 15) (N := some 81) (v := ?_) (a' := ?_) #[true, true, true, true, true, true, true, true, true, true, true, true, true, true, true, true, false, false, false, false, false, false, false, false, false, false, false, false, false, false, false, false, false, false, false, false, false, false, false, false, false, false, false, false, false, false, false, false, false, false, false] rfl rfl (any_of HT_.out (by kernel_rfl)) (fun _ _ _ h => h) (Or.inl ⟨by rfl, ?_⟩) ?_ ?_
        rotate_left
        · intro w'
          go_simp
          with_reducible rfl
        rotate_left
        · simp only [Act.put, List.setIfInBounds_toArray, List.set_cons_zero, List.set_cons_succ, i64_w, i32_w]
          rfl
        refine pure_ (i := 16) (N := some 82) (v := ?_) (a' := ?_) #[true, true, true, true, true, true, true, true, true, true, true, true, true, true, true, true, true, false, false, false, false, false, false, false, false, false, false, false, false, false, false, false, false, false, false, false, false, false, false, false, false, false, false, false, false, false, false, false, false, false, false] rfl rfl (any_of HT_.out (by kernel_rfl)) (fun _ _ _ h => h) (Or.inl ⟨by rfl, ?_⟩) ?_ ?_
        rotate_left
        · intro w'
          go_simp
          with_reducible rfl
        rotate_left
        · simp only [Act.put, List.setIfInBounds_toArray, List.set_cons_zero, List.set_cons_succ, i64_w, i32_w]
          rfl
        refine pure_ (i := 17) (N := some 83) (v := ?_) (a' := ?_) #[true, true, true, true, true, true, true, true, true, true, true, true, true, true, true, true, true, true, false, false, false, false, false, false, false, false, false, false, false, false, false, false, false, false, false, false, false, false, false, false, false, false, false, false, false, false, false, false, false, false, false] rfl rfl (any_of HT_.out (by kernel_rfl)) (fun _ _ _ h => h) (Or.inl ⟨by rfl, ?_⟩) ?_ ?_
        rotate_left
        · intro w'
          go_simp
          with_reducible rfl
        rotate_left
        · simp only [Act.put, List.setIfInBounds_toArray, List.set_cons_zero, List.set_cons_succ, i64_w, i32_w]
          rfl
        refine pure_ (i := 18) (N := some 84) (v := ?_) (a' := ?_) #[true, true, true, true, true, true, true, true, true, true, true, true, true, true, true, true, true, true, true, false, false, false, false, false, false, false, false, false, false, false, false, false, false, false, false, false, false, false, false, false, false, false, false, false, false, false, false, false, false, false, false] rfl rfl (any_of HT_.out (by kernel_rfl)) (fun _ _ _ h => h) (Or.inl ⟨by rfl, ?_⟩) ?_ ?_
        rotate_left
        · intro w'
          go_simp
          with_reducible rfl
        rotate_left
        · simp only [Act.put, List.setIfInBounds_toArray, List.set_cons_zero, List.set_cons_succ, i64_w, i32_w]
          rfl
        refine pure_ (i := 19) (N := some 85) (v := ?_) (a' := ?_) #[true, true, true, true, true, true, true, true, true, true, true, true, true, true, true, true, true, true, true, true, false, false, false, false, false, false, false, false, false, false, false, false, false, false, false, false, false, false, false, false, false, false, false, false, false, false, false, false, false, false, false] rfl rfl (any_of HT_.out (by kernel_rfl)) (fun _ _ _ h => h) (Or.inl ⟨by rfl, ?_⟩) ?_ ?_
        rotate_left
        · intro w'
          go_simp
          with_reducible rfl
        rotate_left
        · simp only [Act.put, List.setIfInBounds_toArray, List.set_cons_zero, List.set_cons_succ, i64_w, i32_w]
          rfl
        refine pure_ (i := 20) (N := some 86) (v := ?_) (a' := ?_) #[true, true, true, true, true, true, true, true, true, true, true, true, true, true, true, true, true, true, true, true, true, false, false, false, false, false, false, false, false, false, false, false, false, false, false, false, false, false, false, false, false, false, false, false, false, false, false, false, false, false, false] rfl rfl (any_of HT_.out (by kernel_rfl)) (fun _ _ _ h => h) (Or.inl ⟨by rfl, ?_⟩) ?_ ?_
        rotate_left
        · intro w'
          go_simp
          with_reducible rfl
        rotate_left
        · simp only [Act.put, List.setIfInBounds_toArray, List.set_cons_zero, List.set_cons_succ, i64_w, i32_w]
          rfl
        refine pure_ (i := 21) (N := some 87) (v := ?_) (a' := ?_) #[true, true, true, true, true, true, true, true, true, true, true, true, true, true, true, true, true, true, true, true, true, true, false, false, false, false, false, false, false, false, false, false, false, false, false, false, false, false, false, false, false, false, false, false, false, false, false, false, false, false, false] rfl rfl (any_of HT_.out (by kernel_rfl)) (fun _ _ _ h => h) (Or.inl ⟨by rfl, ?_⟩) ?_ ?_
        rotate_left
        · intro w'
          go_simp
          with_reducible rfl
        rotate_left
        · simp only [Act.put, List.setIfInBounds_toArray, List.set_cons_zero, List.set_cons_succ, i64_w, i32_w]
          rfl
        refine pure_ (i := 22) (N := some 88) (v := ?_) (a' := ?_) #[true, true, true, true, true, true, true, true, true, true, true, true, true, true, true, true, true, true, true, true, true, true, true, false, false, false, false, false, false, false, false, false, false, false, false, false, false, false, false, false, false, false, false, false, false, false, false, false, false, false, false] rfl rfl (any_of HT_.out (by kernel_rfl)) (fun _ _ _ h => h) (Or.inl ⟨by rfl, ?_⟩) ?_ ?_
        rotate_left
        · intro w'
          go_simp
          with_reducible rfl
        rotate_left
        · simp only [Act.put, List.setIfInBounds_toArray, List.set_cons_zero, List.set_cons_succ, i64_w, i32_w]
          rfl
        refine pure_ (i := 25) (N := some 91) (v := ?_) (a' := ?_) #[true, true, true, true, true, true, true, true, true, true, true, true, true, true, true, true, true, true, true, true, true, true, true, false, false, true, false, false, false, false, false, false, false, false, false, false, false, false, false, false, false, false, false, false, false, false, false, false, false, false, false] rfl rfl (any_of HT_.out (by kernel_rfl)) (fun _ _ _ h => h) (Or.inl ⟨by rfl, ?_⟩) ?_ ?_
        rotate_left
        · intro w'
          go_simp
          with_reducible rfl
        rotate_left
        · simp only [Act.put, List.setIfInBounds_toArray, List.set_cons_zero, List.set_cons_succ, i64_w, i32_w]
          rfl
        refine take_ (i := 23) (N := some 89) (v := ?_) (a' := ?_) #[true, true, true, true, true, true, true, true, true, true, true, true, true, true, true, true, true, true, true, true, true, true, true, true, false, true, false, false, false, false, false, false, false, false, false, false, false, false, false, false, false, false, false, false, false, false, false, false, false, false, false] rfl rfl (take_of HT_.out (by kernel_rfl)) (fun _ _ _ h => h) (Or.inl ⟨by rfl, ?_⟩) hHeld ?_ ?_
        rotate_left
        · intro w' hS_
          obtain s0 := hS_
          go_simp
          with_reducible rfl
        rotate_left
        · simp only [Act.put, List.setIfInBounds_toArray, List.set_cons_zero, List.set_cons_succ, i64_w, i32_w]
          rfl
        refine one_ (i := 24) (N := some 90) #[true, true, true, true, true, true, true, true, true, true, true, true, true, true, true, true, true, true, true, true, true, true, true, true, true, true, false, false, false, false, false, false, false, false, false, false, false, false, false, false, false, false, false, false, false, false, false, false, false, false, false] rfl rfl (one_of HT_.out (by kernel_rfl)) (by decide) (fun K hK => ?_)
        refine goes_ Try.func19 (by kernel_rfl) rfl #[.slice Al L.length nl_, .string x] (by rfl) rfl rfl (by (try simp only [List.map_toArray, List.map_cons, List.map_nil]); first | done | rfl) ?_
        refine (has_raw x L Al nl_ _ (Kd.R_reads' (Kd.R_below RL3.out HBxa.out)).2.2 (Kd.R_reads' RL3.out).2.1).mono ?_
        rw [hhl]
        rintro e xb ⟨rfl, hd_⟩
        have HBxb := Aside0.mk (below_step HBxa.out (Drawn0.below hd_))
        clear hd_
        have hsxb : (fun w' => w'.cell? (ad.add k) = some (.string x)) xb := (HBxb.out.cell lt0).trans q3
        refine ⟨_, rfl, ?_⟩
        refine hK.out _ _ hsxb (fun hHeld => ?_)
        clear hK K
        refine norm_ (a' := ?_) ?_ ?_
        rotate_left
        · show Act.put _ (some 90) _ = _
          simp only [Act.put, List.setIfInBounds_toArray, List.set_cons_zero, List.set_cons_succ, i64_w, i32_w]
          rfl
        refine pure_ (i := 26) (N := some 92) (v := ?_) (a' := ?_) #[true, true, true, true, true, true, true, true, true, true, true, true, true, true, true, true, true, true, true, true, true, true, true, true, true, true, true, false, false, false, false, false, false, false, false, false, false, false, false, false, false, false, false, false, false, false, false, false, false, false, false] rfl rfl (any_of HT_.out (by kernel_rfl)) (fun _ _ _ h => h) (Or.inl ⟨by rfl, ?_⟩) ?_ ?_
        rotate_left
        · intro w'
          go_simp
          with_reducible rfl
        rotate_left
        · simp only [Act.put, List.setIfInBounds_toArray, List.set_cons_zero, List.set_cons_succ, i64_w, i32_w]
          rfl
        refine pure_ (i := 27) (N := some 93) (v := ?_) (a' := ?_) #[true, true, true, true, true, true, true, true, true, true, true, true, true, true, true, true, true, true, true, true, true, true, true, true, true, true, true, true, false, false, false, false, false, false, false, false, false, false, false, false, false, false, false, false, false, false, false, false, false, false, false] rfl rfl (any_of HT_.out (by kernel_rfl)) (fun _ _ _ h => h) (Or.inl ⟨by rfl, ?_⟩) ?_ ?_
        rotate_left
        · intro w'
          go_simp
          with_reducible rfl
        rotate_left
        · simp only [Act.put, List.setIfInBounds_toArray, List.set_cons_zero, List.set_cons_succ, i64_w, i32_w]
          rfl
        refine pure_ (i := 28) (N := some 94) (v := ?_) (a' := ?_) #[true, true, true, true, true, true, true, true, true, true, true, true, true, true, true, true, true, true, true, true, true, true, true, true, true, true, true, true, true, false, false, false, false, false, false, false, false, false, false, false, false, false, false, false, false, false, false, false, false, false, false] rfl rfl (any_of HT_.out (by kernel_rfl)) (fun _ _ _ h => h) (Or.inl ⟨by rfl, ?_⟩) ?_ ?_
        rotate_left
        · intro w'
          go_simp
          with_reducible rfl
        rotate_left
        · simp only [Act.put, List.setIfInBounds_toArray, List.set_cons_zero, List.set_cons_succ, i64_w, i32_w]
          rfl
        refine pure_ (i := 29) (N := some 95) (v := ?_) (a' := ?_) #[true, true, true, true, true, true, true, true, true, true, true, true, true, true, true, true, true, true, true, true, true, true, true, true, true, true, true, true, true, true, false, false, false, false, false, false, false, false, false, false, false, false, false, false, false, false, false, false, false, false, false] rfl rfl (any_of HT_.out (by kernel_rfl)) (fun _ _ _ h => h) (Or.inl ⟨by rfl, ?_⟩) ?_ ?_
        rotate_left
        · intro w'
          go_simp
          with_reducible rfl
        rotate_left
        · simp only [Act.put, List.setIfInBounds_toArray, List.set_cons_zero, List.set_cons_succ, i64_w, i32_w]
          rfl
        refine pure_ (i := 30) (N := some 96) (v := ?_) (a' := ?_) #[true, true, true, true, true, true, true, true, true, true, true, true, true, true, true, true, true, true, true, true, true, true, true, true, true, true, true, true, true, true, true, false, false, false, false, false, false, false, false, false, false, false, false, false, false, false, false, false, false, false, false] rfl rfl (any_of HT_.out (by kernel_rfl)) (fun _ _ _ h => h) (Or.inl ⟨by rfl, ?_⟩) ?_ ?_
        rotate_left
        · intro w'
          go_simp
          with_reducible rfl
        rotate_left
        · simp only [Act.put, List.setIfInBounds_toArray, List.set_cons_zero, List.set_cons_succ, i64_w, i32_w]
          rfl
        refine pure_ (i := 31) (N := some 97) (v := ?_) (a' := ?_) #[true, true, true, true, true, true, true, true, true, true, true, true, true, true, true, true, true, true, true, true, true, true, true, true, true, true, true, true, true, true, true, true, false, false, false, false, false, false, false, false, false, false, false, false, false, false, false, false, false, false, false] rfl rfl (any_of HT_.out (by kernel_rfl)) (fun _ _ _ h => h) (Or.inl ⟨by rfl, ?_⟩) ?_ ?_
        rotate_left
        · intro w'
          go_simp
          with_reducible rfl
        rotate_left
        · simp only [Act.put, List.setIfInBounds_toArray, List.set_cons_zero, List.set_cons_succ, i64_w, i32_w]
          rfl
        refine pure_ (i := 32) (N := some 98) (v := ?_) (a' := ?_) #[true, true, true, true, true, true, true, true, true, true, true, true, true, true, true, true, true, true, true, true, true, true, true, true, true, true, true, true, true, true, true, true, true, false, false, false, false, false, false, false, false, false, false, false, false, false, false, false, false, false, false] rfl rfl (any_of HT_.out (by kernel_rfl)) (fun _ _ _ h => h) (Or.inl ⟨by rfl, ?_⟩) ?_ ?_
        rotate_left
        · intro w'
          go_simp
          with_reducible rfl
        rotate_left
        · simp only [Act.put, List.setIfInBounds_toArray, List.set_cons_zero, List.set_cons_succ, i64_w, i32_w]
          rfl
        refine pure_ (i := 34) (N := some 100) (v := ?_) (a' := ?_) #[true, true, true, true, true, true, true, true, true, true, true, true, true, true, true, true, true, true, true, true, true, true, true, true, true, true, true, true, true, true, true, true, true, false, true, false, false, false, false, false, false, false, false, false, false, false, false, false, false, false, false] rfl rfl (any_of HT_.out (by kernel_rfl)) (fun _ _ _ h => h) (Or.inl ⟨by rfl, ?_⟩) ?_ ?_
        rotate_left
        · intro w'
          go_simp
          with_reducible rfl
        rotate_left
        · simp only [Act.put, List.setIfInBounds_toArray, List.set_cons_zero, List.set_cons_succ, i64_w, i32_w]
          rfl
        refine pure_ (i := 35) (N := some 101) (v := ?_) (a' := ?_) #[true, true, true, true, true, true, true, true, true, true, true, true, true, true, true, true, true, true, true, true, true, true, true, true, true, true, true, true, true, true, true, true, true, false, true, true, false, false, false, false, false, false, false, false, false, false, false, false, false, false, false] rfl rfl (any_of HT_.out (by kernel_rfl)) (fun _ _ _ h => h) (Or.inl ⟨by rfl, ?_⟩) ?_ ?_
        rotate_left
        · intro w'
          go_simp
          with_reducible rfl
        rotate_left
        · simp only [Act.put, List.setIfInBounds_toArray, List.set_cons_zero, List.set_cons_succ, i64_w, i32_w]
          rfl
        refine pure_ (i := 36) (N := some 102) (v := ?_) (a' := ?_) #[true, true, true, true, true, true, true, true, true, true, true, true, true, true, true, true, true, true, true, true, true, true, true, true, true, true, true, true, true, true, true, true, true, false, true, true, true, false, false, false, false, false, false, false, false, false, false, false, false, false, false] rfl rfl (any_of HT_.out (by kernel_rfl)) (fun _ _ _ h => h) (Or.inl ⟨by rfl, ?_⟩) ?_ ?_
        rotate_left
        · intro w'
          go_simp
          with_reducible rfl
        rotate_left
        · simp only [Act.put, List.setIfInBounds_toArray, List.set_cons_zero, List.set_cons_succ, i64_w, i32_w]
          rfl
        refine take_ (i := 37) (N := some 103) (v := ?_) (a' := ?_) #[true, true, true, true, true, true, true, true, true, true, true, true, true, true, true, true, true, true, true, true, true, true, true, true, true, true, true, true, true, true, true, true, true, false, true, true, true, true, false, false, false, false, false, false, false, false, false, false, false, false, false] rfl rfl (take_of HT_.out (by kernel_rfl)) (fun _ _ _ h => h) (Or.inl ⟨by rfl, ?_⟩) hHeld ?_ ?_
        rotate_left
        · intro w' hS_
          obtain s0 := hS_
          go_simp
          with_reducible rfl
        rotate_left
        · simp only [Act.put, List.setIfInBounds_toArray, List.set_cons_zero, List.set_cons_succ, i64_w, i32_w]
          rfl
        refine one_ (i := 33) (N := some 99) #[true, true, true, true, true, true, true, true, true, true, true, true, true, true, true, true, true, true, true, true, true, true, true, true, true, true, true, true, true, true, true, true, true, true, true, true, true, true, false, false, false, false, false, false, false, false, false, false, false, false, false] rfl rfl (one_of HT_.out (by kernel_rfl)) (by decide) (fun K hK => ?_)
        refine goes_ Try.func22 (by kernel_rfl) rfl #[ptr g, .int .i64 7] (by rfl) rfl rfl (by (try simp only [List.map_toArray, List.map_cons, List.map_nil]); first | done | rfl) ?_
        refine (HD7.out g _ (K3.out.below HBxb.out)).mono ?_
        rintro e xc ⟨v_, rfl, hR_, hb_⟩
        obtain ⟨Ae, ne, rfl⟩ := Kd.R_slice hR_
        have HQe := Aside0.mk (Kd.R_reads' hR_)
        have HBxc := Aside0.mk (below_step HBxb.out hb_)
        clear hR_ hb_
        have hsxc : (fun w' => w'.cell? (ad.add k) = some (.string x)) xc := (HBxc.out.cell lt0).trans q3
        refine ⟨_, rfl, ?_⟩
        refine hK.out _ _ hsxc (fun hHeld => ?_)
        clear hK K
        refine norm_ (a' := ?_) ?_ ?_
        rotate_left
        · show Act.put _ (some 99) _ = _
          simp only [Act.put, List.setIfInBounds_toArray, List.set_cons_zero, List.set_cons_succ, i64_w, i32_w]
          rfl
        refine one_ (i := 38) (N := some 104) #[true, true, true, true, true, true, true, true, true, true, true, true, true, true, true, true, true, true, true, true, true, true, true, true, true, true, true, true, true, true, true, true, true, true, true, true, true, true, true, false, false, false, false, false, false, false, false, false, false, false, false] rfl rfl (one_of HT_.out (by kernel_rfl)) (by decide) (fun K hK => ?_)
        refine goes_ Try.func19 (by kernel_rfl) rfl #[.slice Ae L.length ne, .string x] (by rfl) rfl rfl (by (try simp only [List.map_toArray, List.map_cons, List.map_nil]); first | done | rfl) ?_
        refine (has_raw x L Ae ne _ HQe.out.2.2 HQe.out.2.1).mono ?_
        rw [hhl]
        rintro e xd ⟨rfl, hd_⟩
        have HBxd := Aside0.mk (below_step HBxc.out (Drawn0.below hd_))
        clear hd_
        have hsxd : (fun w' => w'.cell? (ad.add k) = some (.string x)) xd := (HBxd.out.cell lt0).trans q3
        refine ⟨_, rfl, ?_⟩
        refine hK.out _ _ hsxd (fun hHeld => ?_)
        clear hK K
        refine norm_ (a' := ?_) ?_ ?_
        rotate_left
        · show Act.put _ (some 104) _ = _
          simp only [Act.put, List.setIfInBounds_toArray, List.set_cons_zero, List.set_cons_succ, i64_w, i32_w]
          rfl
        refine pure_ (i := 39) (N := some 105) (v := ?_) (a' := ?_) #[true, true, true, true, true, true, true, true, true, true, true, true, true, true, true, true, true, true, true, true, true, true, true, true, true, true, true, true, true, true, true, true, true, true, true, true, true, true, true, true, false, false, false, false, false, false, false, false, false, false, false] rfl rfl (any_of HT_.out (by kernel_rfl)) (fun _ _ _ h => h) (Or.inl ⟨by rfl, ?_⟩) ?_ ?_
        rotate_left
        · intro w'
          go_simp
          with_reducible rfl
        rotate_left
        · simp only [Act.put, List.setIfInBounds_toArray, List.set_cons_zero, List.set_cons_succ, i64_w, i32_w]
          rfl
        refine pure_ (i := 40) (N := some 106) (v := ?_) (a' := ?_) #[true, true, true, true, true, true, true, true, true, true, true, true, true, true, true, true, true, true, true, true, true, true, true, true, true, true, true, true, true, true, true, true, true, true, true, true, true, true, true, true, true, false, false, false, false, false, false, false, false, false, false] rfl rfl (any_of HT_.out (by kernel_rfl)) (fun _ _ _ h => h) (Or.inl ⟨by rfl, ?_⟩) ?_ ?_
        rotate_left
        · intro w'
          go_simp
          with_reducible rfl
        rotate_left
        · simp only [Act.put, List.setIfInBounds_toArray, List.set_cons_zero, List.set_cons_succ, i64_w, i32_w]
          rfl
        refine pure_ (i := 41) (N := some 107) (v := ?_) (a' := ?_) #[true, true, true, true, true, true, true, true, true, true, true, true, true, true, true, true, true, true, true, true, true, true, true, true, true, true, true, true, true, true, true, true, true, true, true, true, true, true, true, true, true, true, false, false, false, false, false, false, false, false, false] rfl rfl (any_of HT_.out (by kernel_rfl)) (fun _ _ _ h => h) (Or.inl ⟨by rfl, ?_⟩) ?_ ?_
        rotate_left
        · intro w'
          go_simp
          with_reducible rfl
        rotate_left
        · simp only [Act.put, List.setIfInBounds_toArray, List.set_cons_zero, List.set_cons_succ, i64_w, i32_w]
          rfl
        refine pure_ (i := 42) (N := some 108) (v := ?_) (a' := ?_) #[true, true, true, true, true, true, true, true, true, true, true, true, true, true, true, true, true, true, true, true, true, true, true, true, true, true, true, true, true, true, true, true, true, true, true, true, true, true, true, true, true, true, true, false, false, false, false, false, false, false, false] rfl rfl (any_of HT_.out (by kernel_rfl)) (fun _ _ _ h => h) (Or.inl ⟨by rfl, ?_⟩) ?_ ?_
        rotate_left
        · intro w'
          go_simp
          with_reducible rfl
        rotate_left
        · simp only [Act.put, List.setIfInBounds_toArray, List.set_cons_zero, List.set_cons_succ, i64_w, i32_w]
          rfl
        refine pure_ (i := 43) (N := some 109) (v := ?_) (a' := ?_) #[true, true, true, true, true, true, true, true, true, true, true, true, true, true, true, true, true, true, true, true, true, true, true, true, true, true, true, true, true, true, true, true, true, true, true, true, true, true, true, true, true, true, true, true, false, false, false, false, false, false, false] rfl rfl (any_of HT_.out (by kernel_rfl)) (fun _ _ _ h => h) (Or.inl ⟨by rfl, ?_⟩) ?_ ?_
        rotate_left
        · intro w'
          go_simp
          with_reducible rfl
        rotate_left
        · simp only [Act.put, List.setIfInBounds_toArray, List.set_cons_zero, List.set_cons_succ, i64_w, i32_w]
          rfl
        refine pure_ (i := 45) (N := some 111) (v := ?_) (a' := ?_) #[true, true, true, true, true, true, true, true, true, true, true, true, true, true, true, true, true, true, true, true, true, true, true, true, true, true, true, true, true, true, true, true, true, true, true, true, true, true, true, true, true, true, true, true, false, true, false, false, false, false, false] rfl rfl (any_of HT_.out (by kernel_rfl)) (fun _ _ _ h => h) (Or.inl ⟨by rfl, ?_⟩) ?_ ?_
        rotate_left
        · intro w'
          go_simp
          with_reducible rfl
        rotate_left
        · simp only [Act.put, List.setIfInBounds_toArray, List.set_cons_zero, List.set_cons_succ, i64_w, i32_w]
          rfl
        refine pure_ (i := 46) (N := some 112) (v := ?_) (a' := ?_) #[true, true, true, true, true, true, true, true, true, true, true, true, true, true, true, true, true, true, true, true, true, true, true, true, true, true, true, true, true, true, true, true, true, true, true, true, true, true, true, true, true, true, true, true, false, true, true, false, false, false, false] rfl rfl (any_of HT_.out (by kernel_rfl)) (fun _ _ _ h => h) (Or.inl ⟨by rfl, ?_⟩) ?_ ?_
        rotate_left
        · intro w'
          go_simp
          with_reducible rfl
        rotate_left
        · simp only [Act.put, List.setIfInBounds_toArray, List.set_cons_zero, List.set_cons_succ, i64_w, i32_w]
          rfl
        refine pure_ (i := 47) (N := some 113) (v := ?_) (a' := ?_) #[true, true, true, true, true, true, true, true, true, true, true, true, true, true, true, true, true, true, true, true, true, true, true, true, true, true, true, true, true, true, true, true, true, true, true, true, true, true, true, true, true, true, true, true, false, true, true, true, false, false, false] rfl rfl (any_of HT_.out (by kernel_rfl)) (fun _ _ _ h => h) (Or.inl ⟨by rfl, ?_⟩) ?_ ?_
        rotate_left
        · intro w'
          go_simp
          with_reducible rfl
        rotate_left
        · simp only [Act.put, List.setIfInBounds_toArray, List.set_cons_zero, List.set_cons_succ, i64_w, i32_w]
          rfl
        refine take_ (i := 48) (N := some 114) (v := ?_) (a' := ?_) #[true, true, true, true, true, true, true, true, true, true, true, true, true, true, true, true, true, true, true, true, true, true, true, true, true, true, true, true, true, true, true, true, true, true, true, true, true, true, true, true, true, true, true, true, false, true, true, true, true, false, false] rfl rfl (take_of HT_.out (by kernel_rfl)) (fun _ _ _ h => h) (Or.inl ⟨by rfl, ?_⟩) hHeld ?_ ?_
        rotate_left
        · intro w' hS_
          obtain s0 := hS_
          go_simp
          with_reducible rfl
        rotate_left
        · simp only [Act.put, List.setIfInBounds_toArray, List.set_cons_zero, List.set_cons_succ, i64_w, i32_w]
          rfl
        refine one_ (i := 44) (N := some 110) #[true, true, true, true, true, true, true, true, true, true, true, true, true, true, true, true, true, true, true, true, true, true, true, true, true, true, true, true, true, true, true, true, true, true, true, true, true, true, true, true, true, true, true, true, true, true, true, true, true, false, false] rfl rfl (one_of HT_.out (by kernel_rfl)) (by decide) (fun K hK => ?_)
        refine goes_ Try.func22 (by kernel_rfl) rfl #[ptr g, .int .i64 6] (by rfl) rfl rfl (by (try simp only [List.map_toArray, List.map_cons, List.map_nil]); first | done | rfl) ?_
        refine (HD6E.out g _ (K3.out.below HBxd.out)).mono ?_
        rintro e xe ⟨v_, rfl, hR_, hb_⟩
        obtain ⟨Af, nf, rfl⟩ := Kd.R_slice hR_
        have HQf := Aside0.mk (Kd.R_reads' hR_)
        have HBxe := Aside0.mk (below_step HBxd.out hb_)
        clear hR_ hb_
        have hsxe : (fun w' => w'.cell? (ad.add k) = some (.string x)) xe := (HBxe.out.cell lt0).trans q3
        refine ⟨_, rfl, ?_⟩
        refine hK.out _ _ hsxe (fun hHeld => ?_)
        clear hK K
        refine norm_ (a' := ?_) ?_ ?_
        rotate_left
        · show Act.put _ (some 110) _ = _
          simp only [Act.put, List.setIfInBounds_toArray, List.set_cons_zero, List.set_cons_succ, i64_w, i32_w]
          rfl
        refine one_ (i := 49) (N := some 115) #[true, true, true, true, true, true, true, true, true, true, true, true, true, true, true, true, true, true, true, true, true, true, true, true, true, true, true, true, true, true, true, true, true, true, true, true, true, true, true, true, true, true, true, true, true, true, true, true, true, true, false] rfl rfl (one_of HT_.out (by kernel_rfl)) (by decide) (fun K hK => ?_)
        refine goes_ Try.func19 (by kernel_rfl) rfl #[.slice Af EM.length nf, .string x] (by rfl) rfl rfl (by (try simp only [List.map_toArray, List.map_cons, List.map_nil]); first | done | rfl) ?_
        refine (has_raw x EM Af nf _ HQf.out.2.2 HQf.out.2.1).mono ?_
        rw [hhe]
        rintro e xf ⟨rfl, hd_⟩
        have HBxf := Aside0.mk (below_step HBxe.out (Drawn0.below hd_))
        clear hd_
        have hsxf : (fun w' => w'.cell? (ad.add k) = some (.string x)) xf := (HBxf.out.cell lt0).trans q3
        refine ⟨_, rfl, ?_⟩
        refine hK.out _ _ hsxf (fun hHeld => ?_)
        clear hK K
        refine norm_ (a' := ?_) ?_ ?_
        rotate_left
        · show Act.put _ (some 115) _ = _
          simp only [Act.put, List.setIfInBounds_toArray, List.set_cons_zero, List.set_cons_succ, i64_w, i32_w]
          rfl
        refine pure_ (i := 50) (N := some 116) (v := ?_) (a' := ?_) #[true, true, true, true, true, true, true, true, true, true, true, true, true, true, true, true, true, true, true, true, true, true, true, true, true, true, true, true, true, true, true, true, true, true, true, true, true, true, true, true, true, true, true, true, true, true, true, true, true, true, true] rfl rfl (any_of HT_.out (by kernel_rfl)) (fun _ _ _ h => h) (Or.inl ⟨by rfl, ?_⟩) ?_ ?_
        rotate_left
        · intro w'
          go_simp
          with_reducible rfl
        rotate_left
        · simp only [Act.put, List.setIfInBounds_toArray, List.set_cons_zero, List.set_cons_succ, i64_w, i32_w]
          rfl
        refine done_ (done_of HT_.out (by kernel_rfl)) ?_
        clear hHeld
        have K9 := Aside0.mk (K3.out.below HBxf.out)
        have B9 := Aside0.mk (below_step B3.out HBxf.out)
        have RA9 := Aside0.mk (Kd.R_below RA3.out HBxf.out)
        have RB9 := Aside0.mk (Kd.R_below RB3.out HBxf.out)
        have RC9 := Aside0.mk (Kd.R_below RC3.out HBxf.out)
        have RL9 := Aside0.mk (Kd.R_below RL3.out HBxf.out)
        go_wp2
        all_goals exact ⟨⟨k + 1, by rw [show ((k : Int) + 1) = ((k + 1 : Nat) : Int) by omega], by omega, K9, B9, RA9, RB9, RC9, RL9⟩, by simp [intOf]; omega⟩
    · have hkI : ¬ (k : Int) < (a.length : Int) := by omega
      clear HSA HLA HHL HD7 HD6
      go_wp2
      go_loopw [18] (fun v18 wq => ∃ (m : Nat) (s : FS), v18 = .int .i64 (m : Int) ∧ m ≤ L.length ∧ Aside0 (LV s (L.drop m) (m + 2)) ∧ Aside0 (IsF w wq g s) ∧ Aside0 (Below w.heap.size w wq) ∧ Aside0 (Kd.R Kd.string 9 wq wn.heap.size (fun _ => True) (.slice Ac c.length nc) c) ∧ Aside0 (Kd.R Kd.string 9 wq w6.heap.size (fun _ => True) (.slice Al L.length nl_) L)) (fun v18 _ => L.length - (intOf v18).toNat)
      case atStart => exact ⟨0, _, rfl, Nat.zero_le _, ⟨by rw [List.drop_zero]; exact HLV.out⟩, K1, B1, RC1, RL1⟩
      case round =>
        obtain ⟨m, s, rfl, hml, HV, K1, B1, RC1, RL1⟩ := hrel
        clear HLV RA1 RB1
        by_cases hlt2 : m < L.length
        · obtain ⟨x, hx⟩ : ∃ x, L[m]? = some x := ⟨_, List.getElem?_eq_getElem hlt2⟩
          have hdrop : L.drop m = x :: L.drop (m + 1) := by
            rw [List.drop_eq_getElem_cons hlt2, (List.getElem?_eq_some_iff.1 hx).2]
          have hV := HV.out
          rw [hdrop] at hV
          have hnd2 : (x :: L.drop (m + 1)).Nodup := by rw [← hdrop]; exact HLND.out.sublist (List.drop_sublist _ _)
          have hRD := Aside0.mk (fun (W : World) (h : Kd.R Kd.string 9 W w6.heap.size (fun _ => True) (.slice Al L.length nl_) L) => atS h hx)
          obtain ⟨ad, had, hx0⟩ := hRD.out wr RL1.out
          subst had
          have hk0 : (0 : Int) ≤ (m : Int) := by omega
          have hmI : (m : Int) < (L.length : Int) := by omega
          have hm100 : m + 2 ≤ 100 := by omega
          clear hx hdrop HV
          cases hin : hasB x c with
          | true =>
            have HV2 : Aside0 (LV s (L.drop (m + 1)) (m + 1 + 2)) := ⟨⟨hV.inv.next, hV.skip.nd, hV.skip.j, hV.skip.rest⟩⟩
            clear hV hnd2
            go_wp2_with (first
              | (go_at_call 19; refine (has_raw x c Ac nc _ (Kd.R_reads' RC1.out).2.2 (Kd.R_reads' RC1.out).2.1).mono ?_; rw [hin]; rintro e w2 ⟨rfl, hd⟩; have hb := Drawn0.below hd; have K2 := Aside0.mk (K1.out.below hb); have B2 := Aside0.mk (below_step B1.out hb); have RC2 := Aside0.mk (Kd.R_below RC1.out hb); have RL2 := Aside0.mk (Kd.R_below RL1.out hb); obtain ⟨_, e_2, q2⟩ := hRD.out w2 RL2.out; cases e_2; clear hb hd K1 B1 RC1 RL1))
            all_goals exact ⟨⟨m + 1, _, by rw [show ((m : Int) + 1) = ((m + 1 : Nat) : Int) by omega], by omega, HV2, K2, B2, RC2, RL2⟩, by simp [intOf]; omega⟩
          | false =>
            obtain ⟨he1, hV2, he2, hst⟩ := hV.empty hnd2
            obtain ⟨s', hs'⟩ : ∃ q, q = (emptyF s x).2 := ⟨_, rfl⟩
            rw [← hs'] at hV2 he2 hst
            have HE1 := Aside0.mk (fun (W : World) (hF : IsF w W g s) (hB : Below w.heap.size w W) => empty_any (n := m + 2) hm100 hV.inv hF hB x)
            rw [he1, ← hs'] at HE1
            have HE2 := Aside0.mk (fun (W : World) (hF : IsF w W g s') (hB : Below w.heap.size w W) => empty_any (n := m + 2 + 1) (by omega) hV2.inv hF hB x)
            rw [he2] at HE2
            have HST := Aside0.mk (fun (W : World) (hF : IsF w W g s') => state_any hF x)
            rw [hst] at HST
            have HV2 : Aside0 (LV s' (L.drop (m + 1)) (m + 1 + 2)) := ⟨hV2⟩
            clear hV hnd2 he1 hV2 he2 hst hs'
            go_wp2_with (first
              | (go_at_call 19; refine (has_raw x c Ac nc _ (Kd.R_reads' RC1.out).2.2 (Kd.R_reads' RC1.out).2.1).mono ?_; rw [hin]; rintro e w2 ⟨rfl, hd⟩; have hb := Drawn0.below hd; have K2 := Aside0.mk (K1.out.below hb); have B2 := Aside0.mk (below_step B1.out hb); have RC2 := Aside0.mk (Kd.R_below RC1.out hb); have RL2 := Aside0.mk (Kd.R_below RL1.out hb); obtain ⟨_, e_2, q2⟩ := hRD.out w2 RL2.out; cases e_2; clear hb hd K1 B1 RC1 RL1)
              | (go_at_call 23; refine (HE1.out w2 K2.out B2.out).mono ?_; rintro e w3 ⟨rfl, hi, hb, hk⟩; have K3 := Aside0.mk hi; have B3 := Aside0.mk hb; have RC3 := Aside0.mk (row_keepG RC2.out hk str_tf); have RL3 := Aside0.mk (row_keepG RL2.out hk str_tf); obtain ⟨_, e_3, q3⟩ := hRD.out w3 RL3.out; cases e_3; clear hi hb hk K2 B2 RC2 RL2)
              | (go_at_call 23; refine (HE2.out w3 K3.out B3.out).mono ?_; rintro e w4 ⟨rfl, hi, hb, hk⟩; have K4 := Aside0.mk hi; have B4 := Aside0.mk hb; have RC4 := Aside0.mk (row_keepG RC3.out hk str_tf); have RL4 := Aside0.mk (row_keepG RL3.out hk str_tf); obtain ⟨_, e_4, q4⟩ := hRD.out w4 RL4.out; cases e_4; clear hi hb hk K3 B3 RC3 RL3)
              | (go_at_call 20; refine (HST.out w4 K4.out).mono ?_; rintro e w5 ⟨rfl, hb⟩; have K5 := Aside0.mk (K4.out.below hb); have B5 := Aside0.mk (below_step B4.out hb); have RC5 := Aside0.mk (Kd.R_below RC4.out hb); have RL5 := Aside0.mk (Kd.R_below RL4.out hb); obtain ⟨_, e_5, q5⟩ := hRD.out w5 RL5.out; cases e_5; clear hb K4 B4 RC4 RL4))
            all_goals exact ⟨⟨m + 1, _, by rw [show ((m : Int) + 1) = ((m + 1 : Nat) : Int) by omega], by omega, HV2, K5, B5, RC5, RL5⟩, by simp [intOf]; omega⟩
        · have hmI : ¬ (m : Int) < (L.length : Int) := by omega
          have hV : LV s [] (m + 2) := by
            have h := HV.out
            rwa [List.drop_eq_nil_of_le (by omega)] at h
          have HRC := Aside0.mk (resolve_any (n := m + 2) (by omega) hV.inv K1.out B1.out c Ac nc 9 (Kd.R_reads' RC1.out).2.1 (fun x hx => (h6_ok (GC.out.2 hx)).2) (rowC RC1.out))
          have hfin := fun x (hx : x ∈ c) => hV.resolve GC.out hx
          obtain ⟨RF, hRF⟩ : ∃ q, q = resolveF s c 9 := ⟨_, rfl⟩
          rw [← hRF] at HRC hfin
          have HFIN := Aside0.mk hfin
          clear hfin hRF hV HV
          go_wp2_with (go_at_call 13; refine HRC.out.mono ?_; rintro e w2 ⟨v5, v6, rfl, hr1, hr2, hi, hb, hk⟩; have K2 := Aside0.mk hi; have B2 := Aside0.mk hb; have RC2 := Aside0.mk (row_keepG RC1.out hk str_tf); clear hi hb hk HRC hr1 hr2)
          go_loopw [21] (fun v21 wp => ∃ q : Nat, v21 = .int .i64 (q : Int) ∧ q ≤ c.length ∧ Aside0 (IsF w wp g RF.2) ∧ Aside0 (Below w.heap.size w wp) ∧ Aside0 (Kd.R Kd.string 9 wp wn.heap.size (fun _ => True) (.slice Ac c.length nc) c)) (fun v21 _ => c.length - (intOf v21).toNat)
          case atStart => exact ⟨0, rfl, Nat.zero_le _, K2, B2, RC2⟩
          case round =>
            obtain ⟨q, rfl, hql, K1, B1, RC1⟩ := hrel
            clear K2 B2 RC2
            by_cases hlt3 : q < c.length
            · obtain ⟨x, hx⟩ : ∃ x, c[q]? = some x := ⟨_, List.getElem?_eq_getElem hlt3⟩
              obtain ⟨f1, f2⟩ := HFIN.out x (List.mem_of_getElem? hx)
              have hRD := Aside0.mk (fun (W : World) (h : Kd.R Kd.string 9 W wn.heap.size (fun _ => True) (.slice Ac c.length nc) c) => atS h hx)
              obtain ⟨ad, had, hx0⟩ := hRD.out wr RC1.out
              subst had
              have hq0 : (0 : Int) ≤ (q : Int) := by omega
              have hqI : (q : Int) < (c.length : Int) := by omega
              have HST := Aside0.mk (fun (W : World) (hF : IsF w W g RF.2) => state_any hF x)
              rw [f1] at HST
              have HLE := Aside0.mk (fun (W : World) (hF : IsF w W g RF.2) => leaves_any hF x)
              rw [f2] at HLE
              clear f1 f2 hx
              go_wp2_with (first
                | (go_at_call 20; refine (HST.out wr K1.out).mono ?_; rintro e w2 ⟨rfl, hb⟩; have K2 := Aside0.mk (K1.out.below hb); have B2 := Aside0.mk (below_step B1.out hb); have RC2 := Aside0.mk (Kd.R_below RC1.out hb); obtain ⟨_, e_2, q2⟩ := hRD.out w2 RC2.out; cases e_2; clear hb K1 B1 RC1)
                | (go_at_call 21; refine (HLE.out w2 K2.out).mono ?_; rintro e w3 ⟨rfl, hb⟩; have K3 := Aside0.mk (K2.out.below hb); have B3 := Aside0.mk (below_step B2.out hb); have RC3 := Aside0.mk (Kd.R_below RC2.out hb); obtain ⟨_, e_3, q3⟩ := hRD.out w3 RC3.out; cases e_3; clear hb K2 B2 RC2))
              all_goals exact ⟨⟨q + 1, by rw [show ((q : Int) + 1) = ((q + 1 : Nat) : Int) by omega], by omega, K3, B3, RC3⟩, by simp [intOf]; omega⟩
            · have hqI : ¬ (q : Int) < (c.length : Int) := by omega
              have hsum : ((M.length : Int) + (a.length : Int) - (L.length : Int) == (b.length : Int)) = true := by rw [beq_iff_eq]; omega
              go_wp2
              go_ret
              exact ⟨rfl, B1.out⟩
theorem leaves_law (A0 : Option Addr) (c0 : Nat) (l0 : List Int) (A1 : Option Addr) (c1 : Nat) (l1 : List Int) (A2 : Option Addr) (c2 : Nat) (l2 : List Int) (w : World) (hC0 : Kd.C (Kd.int .i64) w A0 l0.length l0) (hc0 : l0.length ≤ c0) (_ : ∀ x ∈ l0, (Lit.int .i64 x).wf = true) (hC1 : Kd.C (Kd.int .i64) w A1 l1.length l1) (hc1 : l1.length ≤ c1) (_ : ∀ x ∈ l1, (Lit.int .i64 x).wf = true) (hC2 : Kd.C (Kd.int .i64) w A2 l2.length l2) (hc2 : l2.length ≤ c2) (_ : ∀ x ∈ l2, (Lit.int .i64 x).wf = true) :
    Calls Try.prog 4 #[.slice A0 l0.length c0, .slice A1 l1.length c1, .slice A2 l2.length c2] w fun e w' => e = .returned (.bool true) ∧ Below w.heap.size w w' := leaves_calls A0 c0 l0 A1 c1 l1 A2 c2 l2 w hC0 hc0 hC1 hc1 hC2 hc2
end Go.Proofs.Ytmlmiocomlehgaa.Man
