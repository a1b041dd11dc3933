/-
  The fleet: contracts of its functions, proved by walking them, and plain facts, several texts in one (Gd, Pu, Pr, Lr). Conditions: none.
-/
import Derived.Test.YtmlmiocomlehgaaB7
import Derived.Test.YtmlmiocomlehgaaPAx2
set_option linter.unusedVariables false
set_option linter.unusedSimpArgs false
set_option linter.unusedSectionVars false
namespace Go.Proofs.Ytmlmiocomlehgaa.Man
open Go.RowKit Go.Proofs.YtmlmiocomlehgaaW.PrintWords Go.Proofs.YtmlmiocomlehgaaW.PrintLast Go.Proofs.YtmlmiocomlehgaaW.PrintMore Go.Proofs.Ytmlmiocomlehgaa.PA Go.Proofs.Ytmlmiocomlehgaa.PF Go.Proofs.Ytmlmiocomlehgaa.Hid Go.Proofs.Ytmlmiocomlehgaa.Na Go.Proofs.Ytmlmiocomlehgaa.Nil
/-- The six names. -/
def H6 : List ByteArray := [(⟨#[104, 48]⟩ : ByteArray), (⟨#[104, 49]⟩ : ByteArray), (⟨#[104, 50]⟩ : ByteArray), (⟨#[104, 51]⟩ : ByteArray), (⟨#[104, 52]⟩ : ByteArray), (⟨#[104, 53]⟩ : ByteArray)]
/-- Names that differ, of the six. -/
def Goods (r : List ByteArray) : Prop := r.Nodup ∧ r ⊆ H6
theorem Goods.len {r : List ByteArray} (h : Goods r) : r.length ≤ 6 := List.Nodup.length_le_of_subset h.1 h.2
theorem has_le (x : ByteArray) (l : List ByteArray) (hm : l.length ≤ 6) (k : Nat) (hk : 7 ≤ k) : hostlerref09_Has.f k l x = some (hasB x l) := by
  obtain ⟨j, rfl⟩ : ∃ j, k = l.length + 1 + j := ⟨k - (l.length + 1), by omega⟩
  induction j with
  | zero => exact has_some x l (by omega)
  | succ j ih =>
    by_cases c : 7 ≤ l.length + 1 + j
    · exact hostlerref09_Has.mono _ _ _ _ (ih c)
    · clear ih
      have h1 : ∀ j, hostlerref09_Has.f (l.length + 1 + j) l x = some (hasB x l) := by
        intro j
        induction j with
        | zero => exact has_some x l (by omega)
        | succ j ih => exact hostlerref09_Has.mono _ _ _ _ ih
      exact h1 (j + 1)
theorem good_loop (l : List Int) (hm : l.length ≤ 9223372036854775807) (d : Nat) : ∀ (k j : Nat) (acc : List ByteArray), j ≤ l.length → l.length - j = d → d + 8 ≤ k → Goods acc → ∃ r, hostlerref09_Good.l0 k l acc H6 (j : Int) = some r ∧ Goods r := by
  induction d with
  | zero =>
    intro k j acc hj hd hk hg
    obtain ⟨k, rfl⟩ : ∃ k', k = k' + 1 := ⟨k - 1, by omega⟩
    refine ⟨acc, ?_, hg⟩
    simp only [hostlerref09_Good.l0]
    rw [if_neg (by omega)]
  | succ d ih =>
    intro k j acc hj hd hk hg
    obtain ⟨k, rfl⟩ : ∃ k', k = k' + 1 := ⟨k - 1, by omega⟩
    simp only [hostlerref09_Good.l0]
    rw [if_pos (by omega), if_pos (by omega)]
    obtain ⟨q, hq, hq6⟩ := mod_n (rd l (j : Int)) 6 (by decide) (by decide)
    have hq' : wrap64 (Int.tmod (IntKind.u64.wrap (rd l (j : Int))) 6) = (q : Int) := hq
    rw [hq', if_pos (by omega), if_pos (show (q : Int) < (H6.length : Int) by show (q : Int) < 6; omega)]
    have hw : wrap64 ((j : Int) + 1) = ((j + 1 : Nat) : Int) := by unfold wrap64; omega
    rw [has_le _ _ hg.len k (by omega), hw]
    simp only [Option.bind_some]
    have hin : rdOf ByteArray.empty H6 (q : Int) ∈ H6 := by
      unfold rdOf
      rw [Int.toNat_natCast, List.getD_eq_getElem?_getD, List.getElem?_eq_getElem (show q < H6.length from hq6)]
      exact List.getElem_mem _
    generalize rdOf ByteArray.empty H6 (q : Int) = nm at hin
    by_cases c : nm ∈ acc
    · rw [(hasB_iff nm acc).2 c, if_pos rfl]
      exact ih k (j + 1) acc (by omega) (by omega) (by omega) hg
    · rw [hasB_no nm acc c, if_neg (by decide), if_pos (by have := hg.len; omega)]
      refine ih k (j + 1) (acc ++ [nm]) (by omega) (by omega) (by omega) ⟨?_, ?_⟩
      · rw [List.nodup_append]
        refine ⟨hg.1, by simp, fun a ha b hb => ?_⟩
        rw [List.mem_singleton.1 hb]
        rintro rfl
        exact c ha
      · intro a ha
        rcases List.mem_append.1 ha with ha | ha
        · exact hg.2 ha
        · rw [List.mem_singleton.1 ha]
          exact hin
theorem good_raw (l : List Int) (A : Option Addr) (c : Nat) (w : World) (hC : Kd.C (Kd.int .i64) w A l.length l) (hc : l.length ≤ c) :
    ∃ r, Goods r ∧ Calls Try.prog 11 #[.slice A l.length c] w fun e w' => ∃ v0_ : Value, e = .returned v0_ ∧ Kd.R Kd.string 9 w' w.heap.size (fun _ => True) v0_ r ∧ Below w.heap.size w w' := by
  obtain ⟨r, h1, h2⟩ := good_loop l hC.2.1 l.length (l.length + 8) 0 [] (Nat.zero_le _) rfl (Nat.le_refl _) ⟨List.nodup_nil, by simp⟩
  exact ⟨r, h2, hostlerref09_Good.calls (l.length + 8) A c l r w hC hc h1⟩
theorem h6_ok {x : ByteArray} (h : x ∈ H6) : nameB x = true ∧ x.size ≤ maxLen := by
  have : ∀ x ∈ H6, nameB x = true ∧ x.size ≤ maxLen := by decide
  exact this x h
theorem Goods.check {r : List ByteArray} (h : Goods r) : checkE r = 0 := by
  unfold checkE
  have := h.len
  rw [if_neg (by omega), if_neg, if_pos (nodupB_iff.2 h.1)]
  have : r.all nameB = true := List.all_eq_true.2 (fun x hx => (h6_ok (h.2 hx)).1)
  rw [this]
  decide
theorem look_mem {hs : List HV} {nm : ByteArray} (h : nm ∉ hs.map (·.nm)) : lookH hs nm = none := by
  rcases posH_bd hs nm with ⟨h1, _⟩ | ⟨i, x, h1, h2, h3⟩
  · exact look_none h1
  · exact absurd (List.mem_map.2 ⟨x, List.mem_of_getElem? h2, h3⟩) h
theorem look_at {hs : List HV} (hn : (hs.map (·.nm)).Nodup) {i : Nat} {x : HV} (hx : hs[i]? = some x) : lookH hs x.nm = some x := look_some (posH_of hn hx) hx
def freshH (l : List ByteArray) : List HV := l.map (fun nm => ⟨nm, 0, false⟩)
theorem fresh_nm (l : List ByteArray) : (freshH l).map (·.nm) = l := by simp [freshH, Function.comp_def]
/-- Names that aren't there come. -/
theorem came_fresh : ∀ (l : List ByteArray) (s : FS), l.Nodup → (∀ x ∈ l, x ∉ s.hs.map (·.nm)) → cameL l s = ({ s with hs := s.hs ++ freshH l }, l)
  | [], s, _, _ => by simp [cameL, freshH]
  | nm :: l, s, hn, hd => by
    unfold cameL
    obtain ⟨h1, h2⟩ := List.nodup_cons.1 hn
    rw [look_mem (hd nm (by simp))]
    dsimp only
    rw [came_fresh l { s with hs := s.hs ++ [⟨nm, 0, false⟩] } h2 (fun x hx hm => by
      simp only [List.map_append, List.map_cons, List.map_nil, List.mem_append, List.mem_singleton] at hm
      rcases hm with hm | hm
      · exact hd x (by simp [hx]) hm
      · exact h1 (hm ▸ hx))]
    simp [freshH]
/-- A fleet resolved for the first time. -/
theorem resolve_first (each guard : Int) {r : List ByteArray} (h : Goods r) (dl : Int) : resolveF ⟨each, guard, [], ⟨[]⟩⟩ r dl = ((r, [], 0), ⟨each, guard, freshH r, ⟨[]⟩⟩) := by
  unfold resolveF
  rw [if_pos h.check]
  have : leftL r dl ([] : List HV) ⟨each, guard, [], ⟨[]⟩⟩ = (⟨each, guard, [], ⟨[]⟩⟩, []) := rfl
  rw [this]
  dsimp only
  rw [came_fresh r ⟨each, guard, [], ⟨[]⟩⟩ h.1 (by simp)]
  rfl
end Go.Proofs.Ytmlmiocomlehgaa.Man
namespace Go.Proofs.Ytmlmiocomlehgaa.Man
open Go.RowKit Go.Proofs.YtmlmiocomlehgaaW.PrintWords Go.Proofs.YtmlmiocomlehgaaW.PrintLast Go.Proofs.YtmlmiocomlehgaaW.PrintMore Go.Proofs.Ytmlmiocomlehgaa.PA Go.Proofs.Ytmlmiocomlehgaa.PF Go.Proofs.Ytmlmiocomlehgaa.Hid Go.Proofs.Ytmlmiocomlehgaa.Na Go.Proofs.Ytmlmiocomlehgaa.Nil
theorem place_nil (nm : ByteArray) (j : Int) : placeOf [] nm j = -1 := rfl
theorem place_one (nm : ByteArray) (a : Int) (b : Bool) : placeOf [⟨nm, a, b⟩] nm 0 = 0 := by simp [placeOf]
theorem end_nil (nm : ByteArray) : endF ⟨[]⟩ nm = ⟨[]⟩ := by simp [endF, endRow, placeOf]
theorem end_one (nm : ByteArray) (a : Int) (b : Bool) : endF ⟨[⟨nm, a, b⟩]⟩ nm = ⟨[]⟩ := by simp [endF, endRow, place_one]
theorem ask_nil {nm : ByteArray} (h : nameB nm = true) : askF ⟨[]⟩ nm = (0, ⟨[⟨nm, 0, false⟩]⟩) := by
  unfold askF
  rw [if_pos h, if_pos (by rw [place_nil]; decide), if_pos (by decide)]
  rfl
theorem ask_one {nm : ByteArray} (h : nameB nm = true) (a : Int) (b : Bool) : askF ⟨[⟨nm, a, b⟩]⟩ nm = (6, ⟨[⟨nm, a, b⟩]⟩) := by
  unfold askF
  rw [if_pos h, if_neg (by rw [place_one]; decide)]
def clampN (n : Int) : Int := mn (mx n 0) 1099511627776
theorem begin_nil {nm : ByteArray} (h : nameB nm = true) (dl : Int) : beginF ⟨[]⟩ nm dl = (0, ⟨[⟨nm, clampN dl, true⟩]⟩) := by
  unfold beginF
  rw [if_pos h, if_pos (by rw [place_nil]; decide)]
  rfl
theorem idx_nil (nm : ByteArray) (j : Int) : idxOf [] nm j = -1 := rfl
theorem idx_one (nm : ByteArray) : idxOf [nm] nm 0 = 0 := by simp [idxOf]
theorem names_wait (nm : ByteArray) (a : Int) : namesOf [⟨nm, a, false⟩] false = [nm] := rfl
theorem names_under (nm : ByteArray) (a : Int) : namesOf [⟨nm, a, true⟩] false = [] := rfl
theorem due_none (now : Int) : dueOf ⟨[]⟩ now = [] := rfl
theorem past_self (now : Int) : pastB now (clampN now) = true := by
  unfold pastB clampN cutT mn mx
  refine decide_eq_true ?_
  (repeat' split) <;> omega
theorem due_one (nm : ByteArray) (now : Int) : dueOf ⟨[⟨nm, clampN now, true⟩]⟩ now = [nm] := by
  have hd : deadOf ⟨[⟨nm, clampN now, true⟩]⟩ nm = (clampN now, true) := dead_of (b := 1) ⟨by simp, by simp, by simp [namesOf]⟩ (x := ⟨nm, clampN now, true⟩) (by simp)
  unfold dueOf
  show List.filter _ [nm] = [nm]
  rw [List.filter_cons, hd, if_pos (past_self now)]
  rfl
section
variable {s : FS} {i : Nat} {x : HV} (hn : (s.hs.map (·.nm)).Nodup) (hx : s.hs[i]? = some x) (hb : nameB x.nm = true)
include hn hx
theorem state_at : stateV s x.nm = (x.st, true) := by unfold stateV; rw [look_at hn hx]
theorem leaves_at : leavesV s x.nm = x.lv := by unfold leavesV; rw [look_at hn hx]
theorem setH_i (y : HV) : setH s.hs x.nm y = s.hs.set i y := setH_at (posH_of hn hx) y
theorem delH_i : delH s.hs x.nm = s.hs.eraseIdx i := delH_at (posH_of hn hx)
theorem empty_yes (h : nextB x.st 4 = true) (hl : x.lv = false) : emptyF s x.nm = (true, { s with hs := s.hs.set i (evH x 4), ds := endF s.ds x.nm }) := by
  unfold emptyF
  rw [look_at hn hx]
  simp only [h, if_true, hl, Bool.false_eq_true, if_false]
  rw [setH_i hn hx]
theorem empty_gone (h : nextB x.st 4 = true) (hl : x.lv = true) : emptyF s x.nm = (true, { s with hs := s.hs.eraseIdx i, ds := endF s.ds x.nm }) := by
  unfold emptyF
  rw [look_at hn hx]
  simp only [h, if_true, hl]
  rw [delH_i hn hx]
include hb
theorem known_at : knownE s x.nm = 0 := by
  unfold knownE
  rw [if_pos hb, posH_of hn hx, if_neg (by omega)]
theorem drain_yes (h1 : x.st = 0) : drainF s x.nm = ((askF s.ds x.nm).1, { s with ds := (askF s.ds x.nm).2 }) := by
  unfold drainF
  rw [if_pos (known_at hn hx hb), look_at hn hx]
  dsimp only
  rw [if_neg (by omega)]
theorem drain_no (h1 : x.st = 1 ∨ x.st = 3) : drainF s x.nm = (8, s) := by
  unfold drainF
  rw [if_pos (known_at hn hx hb), look_at hn hx]
  dsimp only
  rw [if_pos h1]
theorem undrain_wait (hl : x.lv = false) (h : 0 ≤ idxOf (namesOf s.ds.row false) x.nm 0) : undrainF s x.nm = (0, { s with ds := endF s.ds x.nm }) := by
  unfold undrainF
  rw [if_pos (known_at hn hx hb), look_at hn hx]
  dsimp only
  rw [hl, if_neg (by decide), if_neg (by omega)]
theorem undrain_back (hl : x.lv = false) (h : idxOf (namesOf s.ds.row false) x.nm 0 < 0) (he : nextB x.st 1 = true) : undrainF s x.nm = (0, { s with hs := s.hs.set i (evH x 1), ds := endF s.ds x.nm }) := by
  unfold undrainF
  rw [if_pos (known_at hn hx hb), look_at hn hx]
  dsimp only
  rw [hl, if_neg (by decide), if_pos h, if_pos he, setH_i hn hx]
theorem undrain_no (hl : x.lv = false) (h : idxOf (namesOf s.ds.row false) x.nm 0 < 0) (he : nextB x.st 1 = false) : undrainF s x.nm = (8, s) := by
  unfold undrainF
  rw [if_pos (known_at hn hx hb), look_at hn hx]
  dsimp only
  rw [hl, if_neg (by decide), if_pos h, he, if_neg (by decide)]
theorem force_yes (h : x.st ≠ 3) (now : Int) : forceF s x.nm now = ((beginF (endF s.ds x.nm) x.nm now).1, { s with hs := s.hs.set i (evH x 0), ds := (beginF (endF s.ds x.nm) x.nm now).2 }) := by
  unfold forceF
  rw [if_pos (known_at hn hx hb), look_at hn hx]
  dsimp only
  rw [if_neg h, setH_i hn hx]
theorem force_no (h : x.st = 3) (now : Int) : forceF s x.nm now = (8, s) := by
  unfold forceF
  rw [if_pos (known_at hn hx hb), look_at hn hx]
  dsimp only
  rw [if_pos h]
theorem eject_no (h : x.st ≠ 0) : ejectF s x.nm = (8, s) := by
  unfold ejectF
  rw [if_pos (known_at hn hx hb), look_at hn hx]
  dsimp only
  rw [if_neg h]
end
end Go.Proofs.Ytmlmiocomlehgaa.Man
namespace Go.Proofs.Ytmlmiocomlehgaa.Man
open Go.RowKit Go.Proofs.YtmlmiocomlehgaaW.PrintWords Go.Proofs.YtmlmiocomlehgaaW.PrintLast Go.Proofs.YtmlmiocomlehgaaW.PrintMore Go.Proofs.Ytmlmiocomlehgaa.PA Go.Proofs.Ytmlmiocomlehgaa.PF Go.Proofs.Ytmlmiocomlehgaa.Hid Go.Proofs.Ytmlmiocomlehgaa.Na Go.Proofs.Ytmlmiocomlehgaa.Nil
theorem look_cases (hs : List HV) (nm : ByteArray) : (lookH hs nm = none ∧ posH hs nm = -1 ∧ nm ∉ hs.map (·.nm)) ∨ ∃ (i : Nat) (x : HV), lookH hs nm = some x ∧ posH hs nm = (i : Int) ∧ hs[i]? = some x ∧ x.nm = nm := by
  rcases posH_bd hs nm with ⟨h1, h2⟩ | ⟨i, x, h1, h2, h3⟩
  · refine .inl ⟨look_none h1, h1, fun h => ?_⟩
    obtain ⟨x, hx, e⟩ := List.mem_map.1 h
    exact h2 x hx e
  · exact .inr ⟨i, x, look_some h1 h2, h1, h2, h3⟩
theorem setH_nm {hs : List HV} {nm : ByteArray} {x y : HV} (h : lookH hs nm = some x) (hy : y.nm = x.nm) : (setH hs nm y).map (·.nm) = hs.map (·.nm) := by
  rcases look_cases hs nm with ⟨h1, _⟩ | ⟨i, z, h1, h2, h3, h4⟩
  · rw [h] at h1; cases h1
  · rw [h] at h1
    injection h1 with h1
    subst h1
    rw [setH_at h2, List.map_set, hy]
    refine set_same ?_
    rw [List.getElem?_map, h3]
    rfl
theorem admit1_nm (s : FS) (nm : ByteArray) (dl : Int) : (admit1 s nm dl).hs.map (·.nm) = s.hs.map (·.nm) := by
  unfold admit1
  dsimp only
  split
  · rename_i x hx
    exact setH_nm hx rfl
  · rfl
theorem admitL_spec (dl : Int) : ∀ (l : List ByteArray) (s : FS) (b : Nat), DOk s.ds b → namesOf s.ds.row false = l →
    ∃ adm rest, l = adm ++ rest ∧ (admitL dl l s).2 = adm ∧ namesOf (admitL dl l s).1.ds.row false = rest ∧ (admitL dl l s).1.hs.map (·.nm) = s.hs.map (·.nm) ∧ (admitL dl l s).1.each = s.each ∧ (admitL dl l s).1.guard = s.guard ∧ ∀ nm l', rest = nm :: l' → mayS (admitL dl l s).1 nm = false
  | [], s, b, h, hw => ⟨[], [], rfl, rfl, hw, rfl, rfl, rfl, fun _ _ h => by cases h⟩
  | nm :: l, s, b, h, hw => by
    unfold admitL
    by_cases c : mayS s nm = true
    · rw [if_pos c]
      obtain ⟨h1, h2, h3⟩ := admit_ok h hw dl
      obtain ⟨adm, rest, h4, h5, h6, h7, h8, h9, h10⟩ := admitL_spec dl l (admit1 s nm dl) _ h1 h3
      exact ⟨nm :: adm, rest, by rw [h4]; rfl, by rw [h5], h6, h7.trans (admit1_nm s nm dl), h8, h9, h10⟩
    · rw [if_neg c]
      refine ⟨[], nm :: l, rfl, rfl, hw, rfl, rfl, rfl, fun nm' l' h => ?_⟩
      injection h with h _
      rw [← h]
      simpa using c
/-- What FleetRow keeps. -/
structure RowI (s : FS) (names asked got : List ByteArray) (each gu : Int) (n : Nat) : Prop where
  inv : FInv s n
  nm : s.hs.map (·.nm) = names
  row : got ++ namesOf s.ds.row false = asked
  sub : ∀ x ∈ namesOf s.ds.row false, x ∈ names
  e : s.each = each
  g : s.guard = gu
theorem act_le (hs : List HV) : actN hs ≤ hs.length := List.length_filter_le _ _
theorem cap_eq {s : FS} {names : List ByteArray} {e : Nat} (hg : Goods names) (hn : s.hs.map (·.nm) = names) (he : s.each = (e : Int)) (h8 : e ≤ 8) : capV s = (actN s.hs : Int) * (e : Int) ∧ 0 ≤ capV s ∧ capV s ≤ 48 := by
  have h1 := act_le s.hs
  have h2 : s.hs.length ≤ 6 := by
    have := hg.len
    rw [← hn, List.length_map] at this
    exact this
  have h3 : pos0 s.each = (e : Int) := by rw [he]; unfold pos0; rw [if_pos (by omega)]
  unfold capV
  rw [h3]
  generalize actN s.hs = a at h1
  have ha : a ≤ 6 := Nat.le_trans h1 h2
  have h4 : a * e ≤ 6 * 8 := Nat.mul_le_mul ha h8
  have h5 : (a : Int) * (e : Int) = ((a * e : Nat) : Int) := by simp
  rw [h5]
  generalize a * e = m at h4
  have : wrap64 (m : Int) = (m : Int) := by unfold wrap64; omega
  rw [this]
  omega
theorem row_admit {s : FS} {names asked got : List ByteArray} {e n : Nat} {gu : Int} (hg : Goods names) (h8 : e ≤ 8) (h : RowI s names asked got (e : Int) gu n) (dl : Int) :
    RowI (admitF s dl).2 names asked (got ++ (admitF s dl).1) (e : Int) gu (n + 1) ∧ (got ++ (admitF s dl).1).length ≤ asked.length ∧ ((got ++ (admitF s dl).1).length < asked.length → decide (gu ≤ capV (admitF s dl).2 - (e : Int)) = false) := by
  obtain ⟨adm, rest, h1, h2, h3, h4, h5, h6, h7⟩ := admitL_spec dl (namesOf s.ds.row false) s _ h.inv.ok rfl
  have ha : (admitF s dl).1 = adm := h2
  have hr : namesOf (admitF s dl).2.ds.row false = rest := h3
  have hn : (admitF s dl).2.hs.map (·.nm) = names := h4.trans h.nm
  have he : (admitF s dl).2.each = (e : Int) := h5.trans h.e
  have hgu : (admitF s dl).2.guard = gu := h6.trans h.g
  have hm : ∀ nm l', rest = nm :: l' → mayS (admitF s dl).2 nm = false := h7
  have hrow := h.row
  rw [h1] at hrow
  rw [ha]
  have hI : RowI (admitF s dl).2 names asked (got ++ adm) (e : Int) gu (n + 1) := ⟨h.inv.admit dl, hn, by rw [hr, List.append_assoc]; exact hrow, fun x hx => h.sub x (by rw [h1]; rw [hr] at hx; simp [hx]), he, hgu⟩
  refine ⟨hI, ?_, fun hlt => ?_⟩
  · rw [← hrow]
    simp
  · cases rest with
    | nil =>
      rw [← hrow] at hlt
      simp at hlt
    | cons nm l' =>
      have hmay := hm nm l' rfl
      have hin : nm ∈ (admitF s dl).2.hs.map (·.nm) := by
        rw [hn]
        exact h.sub nm (by rw [h1]; simp)
      generalize (admitF s dl).2 = s' at hn he hgu hmay hin
      obtain ⟨hc1, hc2, hc3⟩ := cap_eq hg hn he h8
      rcases look_cases s'.hs nm with ⟨_, _, h⟩ | ⟨i, x, _, h2, h3, h4⟩
      · exact absurd hin h
      · have hilt := (List.getElem?_eq_some_iff.1 h3).1
        unfold mayS mayI at hmay
        rw [h2, if_neg (by rw [List.length_map]; omega)] at hmay
        have hc : wrap64 ((actI (s'.hs.map (·.st)) : Int) * pos0 s'.each) = capV s' := by rw [actI_map]; rfl
        have hp : pos0 s'.each = (e : Int) := by rw [he]; unfold pos0; rw [if_pos (by omega)]
        rw [hc, hp, hgu] at hmay
        have hw : wrap64 (capV s' - (e : Int)) = capV s' - (e : Int) := by unfold wrap64; omega
        rw [hw] at hmay
        split at hmay
        · exact hmay
        · cases hmay
theorem idx_last (nm : ByteArray) : ∀ (l : List ByteArray) (j : Int), nm ∉ l → idxOf (l ++ [nm]) nm j = j + (l.length : Int)
  | [], j, _ => by simp [idxOf]
  | y :: l, j, h => by
    have hy : nm ≠ y := fun e => h (by rw [e]; simp)
    rw [List.cons_append, idxOf, if_neg (fun e => hy (tl_inj.1 e)), idx_last nm l (j + 1) (fun e => h (by simp [e]))]
    simp
    omega
theorem ask_cases (d : DS) (nm : ByteArray) : ((askF d nm).1 ≠ 0 ∧ (askF d nm).2 = d) ∨ ((askF d nm).1 = 0 ∧ (askF d nm).2 = ⟨d.row ++ [⟨nm, 0, false⟩]⟩ ∧ nm ∉ d.row.map (·.f0)) := by
  unfold askF
  split
  · split
    · rename_i hp
      split
      · exact .inr ⟨rfl, rfl, (place_neg nm d.row 0 (by omega)).1 hp⟩
      · exact .inl ⟨show (7 : Int) ≠ 0 by decide, rfl⟩
    · exact .inl ⟨show (6 : Int) ≠ 0 by decide, rfl⟩
  · exact .inl ⟨show (11 : Int) ≠ 0 by decide, rfl⟩
theorem drain_cases {s : FS} {nm : ByteArray} (hn : nm ∈ s.hs.map (·.nm)) (hb : nameB nm = true) : ((drainF s nm).1 ≠ 0 ∧ (drainF s nm).2 = s) ∨ ((drainF s nm).1 = 0 ∧ (drainF s nm).2 = { s with ds := ⟨s.ds.row ++ [⟨nm, 0, false⟩]⟩ } ∧ nm ∉ s.ds.row.map (·.f0)) := by
  rcases look_cases s.hs nm with ⟨_, _, h⟩ | ⟨i, x, h1, h2, h3, h4⟩
  · exact absurd hn h
  · have hk : knownE s nm = 0 := by
      unfold knownE
      rw [if_pos hb, h2, if_neg (by omega)]
    unfold drainF
    rw [if_pos hk, h1]
    dsimp only
    split
    · exact .inl ⟨show (8 : Int) ≠ 0 by decide, rfl⟩
    · rcases ask_cases s.ds nm with ⟨h5, h6⟩ | ⟨h5, h6, h7⟩
      · exact .inl ⟨h5, by dsimp only; rw [h6]⟩
      · exact .inr ⟨h5, by dsimp only; rw [h6], h7⟩
theorem row_drain {s : FS} {names asked got : List ByteArray} {e gu : Int} {n : Nat} (hn : n ≤ 100) (hg : Goods names) (h : RowI s names asked got e gu n) {nm : ByteArray} (hm : nm ∈ names) :
    ((drainF s nm).1 ≠ 0 ∧ RowI (drainF s nm).2 names asked got e gu (n + 1)) ∨ ((drainF s nm).1 = 0 ∧ RowI (drainF s nm).2 names (asked ++ [nm]) got e gu (n + 1) ∧ idxOf (namesOf (drainF s nm).2.ds.row false) nm 0 = ((asked.length : Int) + 1) - (got.length : Int) - 1) := by
  have hi := h.inv.drain hn nm
  rcases drain_cases (s := s) (by rw [h.nm]; exact hm) (h6_ok (hg.2 hm)).1 with ⟨h1, h2⟩ | ⟨h1, h2, h3⟩
  · refine .inl ⟨h1, ?_⟩
    rw [h2] at hi ⊢
    exact ⟨hi, h.nm, h.row, h.sub, h.e, h.g⟩
  · refine .inr ⟨h1, ?_, ?_⟩
    · rw [h2] at hi ⊢
      have hw : namesOf (s.ds.row ++ [⟨nm, 0, false⟩]) false = namesOf s.ds.row false ++ [nm] := by rw [namesOf_append]; rfl
      refine ⟨hi, h.nm, ?_, ?_, h.e, h.g⟩
      · show got ++ namesOf (s.ds.row ++ [⟨nm, 0, false⟩]) false = _
        rw [hw, ← List.append_assoc, h.row]
      · intro x hx
        have hx' : x ∈ namesOf (s.ds.row ++ [⟨nm, 0, false⟩]) false := hx
        rw [hw] at hx'
        rcases List.mem_append.1 hx' with hx' | hx'
        · exact h.sub x hx'
        · rw [List.mem_singleton.1 hx']
          exact hm
    · rw [h2]
      show idxOf (namesOf (s.ds.row ++ [⟨nm, 0, false⟩]) false) nm 0 = _
      have hw : namesOf (s.ds.row ++ [⟨nm, 0, false⟩]) false = namesOf s.ds.row false ++ [nm] := by rw [namesOf_append]; rfl
      have hnw : nm ∉ namesOf s.ds.row false := fun hx => h3 ((mem_names s.ds.row nm).2 (.inl hx))
      rw [hw, idx_last nm _ 0 hnw, ← h.row]
      simp
      omega
end Go.Proofs.Ytmlmiocomlehgaa.Man
namespace Go.Proofs.Ytmlmiocomlehgaa.Man
open Go.RowKit Go.Proofs.YtmlmiocomlehgaaW.PrintWords Go.Proofs.YtmlmiocomlehgaaW.PrintLast Go.Proofs.YtmlmiocomlehgaaW.PrintMore Go.Proofs.Ytmlmiocomlehgaa.PA Go.Proofs.Ytmlmiocomlehgaa.PF Go.Proofs.Ytmlmiocomlehgaa.Hid Go.Proofs.Ytmlmiocomlehgaa.Na Go.Proofs.Ytmlmiocomlehgaa.Nil
theorem one_add (e : Nat) : (1 : Int) + (e : Int) = ((e + 1 : Nat) : Int) := by omega
theorem wrap_small {n : Nat} (h : n ≤ 1000000) : wrap64 (n : Int) = (n : Int) := by unfold wrap64; omega
/-- A row of texts of the law's own has grown: the fleet lives on. -/
theorem grown_IsF {w0 w4 w5 : World} {g : Nat} {s : FS} {v5 : Value} {base : Nat} {ok : Nat → Prop} {xs : List ByteArray} (hI : IsF w0 w4 g s) (hB : Below w0.heap.size w0 w4) (hR : Kd.R Kd.string 9 w4 base ok v5 xs) (hb : w0.heap.size ≤ base) (hg : w4.grownBy w5 v5.ownBlock) : IsF w0 w5 g s ∧ Below w0.heap.size w0 w5 :=
  ⟨hI.grown hg (fun k h => Ko.R_ne (T := TF) hR (by decide) k h), hB.grown hg hB.size (fun k h => Nat.le_trans hb (Kd.R_base hR k h))⟩
theorem grown_old {w4 w5 : World} {v5 u : Value} {base b : Nat} {ok : Nat → Prop} {xs ys : List ByteArray} (hN : Kd.R Kd.string 9 w4 b (fun k => k < base) u ys) (hR : Kd.R Kd.string 9 w4 base ok v5 xs) (hg : w4.grownBy w5 v5.ownBlock) : Kd.R Kd.string 9 w5 b (fun k => k < base) u ys :=
  Kd.R_mono (Kd.R_move (Kd.R_bound hN) (fun k hk => hg.block k hk.2.2.1 (fun he => by have := Kd.R_base hR k he.symm; have := hk.1; omega))) (fun k hk => hk.1)
theorem R_afterA {w4 w5 : World} {v5 v6 u : Value} {b : Nat} {ys : List ByteArray} (h : Kd.R Kd.string 9 w4 b (fun k => True ∧ some k ≠ v5.ownBlock) u ys) (hg : w4.grownBy w5 v5.ownBlock) (hat : v6.ownBlock = v5.ownBlock ∨ ∃ b, v6.ownBlock = some b ∧ w4.heap.size ≤ b) : Kd.R Kd.string 9 w5 b (fun k => True ∧ some k ≠ v6.ownBlock) u ys := Kd.R_after (ok := fun _ => True) h hg hat
set_option maxHeartbeats 16000000 in
set_option maxRecDepth 100000 in
theorem row_calls (A : Option Addr) (c : Nat) (l : List Int) (A1 : Option Addr) (c1 : Nat) (l1 : List Int) (b0 b1 : Int) (w : World) (hC : Kd.C (Kd.int .i64) w A l.length l) (hc : l.length ≤ c) (hC1 : Kd.C (Kd.int .i64) w A1 l1.length l1) (hc1 : l1.length ≤ c1) :
    Calls Try.prog 3 #[.slice A l.length c, .slice A1 l1.length c1, .agg #[.int .i64 b0, .int .i64 b1]] w fun e w' => e = .returned (.bool true) ∧ Below w.heap.size w w' := by
  have HL := Aside0.mk (fun W => lives_raw W)
  obtain ⟨names, hg, hgood⟩ : ∃ names, Goods names ∧ ∀ W, Below w.heap.size w W → Calls Try.prog 11 #[.slice A l.length c] W fun e w' => ∃ v0_ : Value, e = .returned v0_ ∧ Kd.R Kd.string 9 w' W.heap.size (fun _ => True) v0_ names ∧ Below W.heap.size W w' := by
    obtain ⟨r, h1, h2⟩ := good_loop l hC.2.1 l.length (l.length + 8) 0 [] (Nat.zero_le _) rfl (Nat.le_refl _) ⟨List.nodup_nil, by simp⟩
    exact ⟨r, h2, fun W hb => hostlerref09_Good.calls (l.length + 8) A c l r W (Kd.C_below hC hb) hc h1⟩
  have HG := Aside0.mk hgood
  clear hgood hC
  have hlen6 := hg.len
  have hwl : IntKind.u64.wrap (names.length : Int) = (names.length : Int) := by
    unfold IntKind.wrap
    simp [IntKind.bits, IntKind.signed]
    omega
  have HGD := Aside0.mk hg
  have HC1 := Aside0.mk hC1
  have hl1m : l1.length ≤ 9223372036854775807 := hC1.2.1
  obtain ⟨e8, he0, he8⟩ := mod_n b0 8 (by decide) (by decide)
  obtain ⟨g41, hg0, hg41⟩ := mod_n b1 41 (by decide) (by decide)
  have hE : wrap64 (Int.tmod (IntKind.u64.wrap b0) 8) = (e8 : Int) := he0
  have hGU : wrap64 (Int.tmod (IntKind.u64.wrap b1) 41) = (g41 : Int) := hg0
  obtain ⟨EE, hEE⟩ : ∃ E : Nat, E = e8 + 1 := ⟨_, rfl⟩
  have hE1 : (1 : Int) + (e8 : Int) = (EE : Int) := by rw [hEE]; exact one_add e8
  have HE8 := Aside0.mk (show EE ≤ 8 by rw [hEE]; exact he8)
  have hEw : wrap64 (EE : Int) = (EE : Int) := wrap_small (Nat.le_trans HE8.out (by decide))
  have HE1 := Aside0.mk (show 1 ≤ EE by rw [hEE]; exact Nat.le_add_left 1 e8)
  have HN := Aside0.mk (fun W hb => fnew_raw (EE : Int) (g41 : Int) w W hb)
  have HRES := Aside0.mk (fun (g : Nat) (W : World) (hI : IsF w W g ⟨(EE : Int), (g41 : Int), [], ⟨[]⟩⟩) (hB : Below w.heap.size w W) (A : Option Addr) (n base : Nat) (hr : Kd.R Kd.string 9 W base (fun _ => True) (.slice A names.length n) names) =>
    resolve_any (n := 0) (by decide) (FInv.new (EE : Int) (g41 : Int)) hI hB names A n 0 (Kd.R_reads' hr).2.1 (fun x hx => (h6_ok (hg.2 hx)).2) (rowC hr))
  rw [resolve_first (EE : Int) (g41 : Int) hg 0] at HRES
  have HFIRST : Aside0 (RowI ⟨(EE : Int), (g41 : Int), freshH names, ⟨[]⟩⟩ names [] [] (EE : Int) (g41 : Int) 1) := ⟨⟨by have := (FInv.new (EE : Int) (g41 : Int)).resolve (by decide) names 0; rwa [resolve_first (EE : Int) (g41 : Int) hg 0] at this, fresh_nm names, rfl, (fun x hx => by cases hx), rfl, rfl⟩⟩
  clear hg he0 hg0 hEE he8 hg41 hC1
  go_enter Try.func3, Try.ntmps3
  go_wp2_with (first
    | (go_at_call 10; refine (HL.out _).mono ?_; rintro e wl ⟨rfl, hb⟩; have HB1 := Aside0.mk (below_step (below_alloc (Below.refl _ w) _) hb); have HBX := Aside0.mk ((hb.block w.heap.size (by simp)).trans (heap_alloc_new w _)); clear hb)
    | (go_at_call 11; refine (HG.out wl HB1.out).mono ?_; rintro e w2 ⟨v2, rfl, hr, hb⟩; obtain ⟨A2, n2, rfl⟩ := Kd.R_slice hr; have HB2 := Aside0.mk (below_step HB1.out hb); have HR2 := Aside0.mk hr; have HBX := Aside0.mk (blk_below HBX.out hb); clear hb hr))
  have xb0 : w2.drew.cell? ⟨w.heap.size, 0, none⟩ = some (.int .i64 b0) := (blk_cell (blk_drew HBX.out) 0).trans rfl
  have xb1 : w2.drew.cell? ⟨w.heap.size, 1, none⟩ = some (.int .i64 b1) := (blk_cell (blk_drew HBX.out) 1).trans rfl
  have xbl : w.heap.size < w2.drew.heap.size := blk_lt (blk_drew HBX.out)
  have HB2' := Aside0.mk (below_drew1 HB2.out)
  have HR2' := Aside0.mk (Kd.R_drew HR2.out)
  clear HB2 HR2 HBX HB1 HG HL
  go_region
  all_goals
    simp only [hGU, hEw]
    clear xb0 xb1 xbl hE hGU hE1 hEw
    go_wp2_with (first
      | (go_at_call 12; refine (HN.out _ HB2'.out).mono ?_; rintro e w3 ⟨g, rfl, hi, hb, hb2⟩; have K3 := Aside0.mk hi; have B3 := Aside0.mk hb; have N3 := Aside0.mk (Kd.R_below HR2'.out hb2); clear hi hb hb2 HR2' HB2')
      | (go_at_call 13; refine (HRES.out g w3 K3.out B3.out _ _ _ N3.out).mono ?_; rintro e w4 ⟨v1, v2, rfl, hr1, hr2, hi, hb, hk⟩; have K4 := Aside0.mk hi; have B4 := Aside0.mk hb; have N4 := Aside0.mk (Kd.R_mono (Kd.R_bound (row_keepG N3.out hk str_tf)) (fun k h => h.2.2.1)); clear hi hb hk HRES K3 B3 N3 hr1 hr2))
    have HW4 := Aside0.mk (below_size B4.out)
    go_loopw [11, 12, 13] (fun v11 v12 v13 wr => ∃ (k : Nat) (s : FS) (asked got : List ByteArray), v13 = .int .i64 (k : Int) ∧ k ≤ l1.length ∧ k ≤ 30 ∧ Aside0 (RowI s names asked got (EE : Int) (g41 : Int) (k + 1)) ∧ asked.length ≤ k ∧ got.length ≤ asked.length ∧ Aside0 (IsF w wr g s) ∧ Aside0 (Below w.heap.size w wr) ∧ Aside0 (w4.heap.size ≤ wr.heap.size) ∧ Aside0 (Kd.R Kd.string 9 wr wl.heap.size (fun k => k < w4.heap.size) (.slice A2 names.length n2) names) ∧ Aside0 (Kd.R Kd.string 9 wr w4.heap.size (fun k => True ∧ some k ≠ v12.ownBlock) v11 asked) ∧ Aside0 (Kd.R Kd.string 9 wr w4.heap.size (fun k => True ∧ some k ≠ v11.ownBlock) v12 got)) (fun _ _ v13 _ => l1.length - (intOf v13).toNat)
    case atStart => exact ⟨0, _, [], [], rfl, Nat.zero_le _, Nat.zero_le _, HFIRST, Nat.zero_le _, Nat.zero_le _, K4, B4, ⟨Nat.le_refl _⟩, N4, ⟨Kd.R_nil _ _ _ _ _⟩, ⟨Kd.R_nil _ _ _ _ _⟩⟩
    case round =>
      obtain ⟨k, s, asked, got, rfl, hkl, hk30, HI, hak, hga, K1, B1, HZ, N1, O1, G1⟩ := hrel
      clear K4 B4 N4 HN HFIRST
      obtain ⟨Ao, no, rfl⟩ := Kd.R_slice O1.out
      obtain ⟨Ag, ng, rfl⟩ := Kd.R_slice G1.out
      have hgno : got.length ≤ no := Nat.le_trans hga (Kd.R_reads' O1.out).2.1
      have hcut : asked.take got.length = got := by rw [← HI.out.row]; simp
      have HSAME := Aside0.mk (fun (W : World) (hO : Kd.C Kd.string W Ao asked.length asked) (hG : Kd.C Kd.string W Ag got.length got) (hn : got.length ≤ ng) (ho : got.length ≤ no) => same_raw got got Ag Ao ng no W hG hn (by have h := Kd.C_take hO hga; rwa [hcut] at h) ho)
      rw [show decide (got = got) = true from decide_eq_true rfl] at HSAME
      by_cases hlt : k < l1.length
      · by_cases h30 : k < 30
        · by_cases hn0 : 0 < names.length
          · obtain ⟨ad, had, hx0⟩ := Kd.at_int (Kd.C_below HC1.out B1.out) (k : Int) (by omega) (by omega)
            rw [Int.toNat_natCast] at hx0
            obtain ⟨x, hx⟩ : ∃ x, x = rd l1 (k : Int) := ⟨_, rfl⟩
            rw [← hx] at hx0
            subst had
            have hk0 : (0 : Int) ≤ (k : Int) := by omega
            have hkI : (k : Int) < (l1.length : Int) := by omega
            clear hx HSAME
            have h30I : (k : Int) < 30 := by omega
            have hnI : (0 : Int) < (names.length : Int) := by omega
            cases h3 : (x.tmod 3 == 0) with
            | true =>
              have hADM := admit_any (n := k + 1) (by omega) HI.out.inv K1.out B1.out (k : Int)
              obtain ⟨hI2, hle2, hcap2⟩ := row_admit HGD.out HE8.out HI.out (k : Int)
              obtain ⟨adm, hadm⟩ : ∃ a, a = (admitF s (k : Int)).1 := ⟨_, rfl⟩
              obtain ⟨s', hs'⟩ : ∃ a, a = (admitF s (k : Int)).2 := ⟨_, rfl⟩
              rw [← hadm, ← hs'] at hADM
              rw [← hadm, ← hs'] at hI2
              rw [← hadm] at hle2
              rw [← hadm, ← hs'] at hcap2
              have hce := cap_eq HGD.out hI2.nm hI2.e HE8.out
              have HADM := Aside0.mk hADM
              have HCAP := Aside0.mk (fun (W : World) (hI : IsF w W g s') => capacity_any (n := k + 1 + 1) (by omega) hI2.inv hI)
              obtain ⟨cp, hcp⟩ : ∃ q, q = capV s' := ⟨_, rfl⟩
              rw [← hcp] at hcap2 hce HCAP
              obtain ⟨gl, hgl⟩ : ∃ q, q = got ++ adm := ⟨_, rfl⟩
              rw [← hgl] at hI2 hle2 hcap2
              have HGL := Aside0.mk hgl
              have HI2 := Aside0.mk hI2
              have hadl : adm.length ≤ 100000 := by
                have : gl.length = got.length + adm.length := by rw [hgl, List.length_append]
                omega
              have hc0 : 0 ≤ cp := hce.2.1
              have hc48 : cp ≤ 48 := hce.2.2
              have hEE8 := HE8.out
              clear hADM hI2 hce hcp hgl hadm hs'
              cases hgt : decide (gl.length < asked.length) with
              | true =>
                have hq := of_decide_eq_false (hcap2 (of_decide_eq_true hgt))
                have hqI : cp - (EE : Int) < (g41 : Int) := by omega
                have hgtI : (gl.length : Int) < (asked.length : Int) := by have := of_decide_eq_true hgt; omega
                clear hcap2 hgt hq
                go_wp2_with (first
                  | (go_at_call 14; refine HADM.out.mono ?_; rintro e w5 ⟨va, rfl, hr, hi, hb, hk⟩; obtain ⟨Aa, na, rfl⟩ := Kd.R_slice hr; have K5 := Aside0.mk hi; have B5 := Aside0.mk hb; have HZ5 := Aside0.mk (Nat.le_trans HZ.out hk.1.1); have N5 := Aside0.mk (row_keepG N1.out hk str_tf); have O5 := Aside0.mk (row_keepG O1.out hk str_tf); have G5 := Aside0.mk (row_keepG G1.out hk str_tf); have D5 := Aside0.mk (Kd.R_reads' hr).2.2; clear hi hb hk hr)
                  | ((with_reducible refine gate_builtin (b := .append) (xs := #[.tmp 58, .tmp 61]) rfl ?_); (try (refine gate_guard (by rfl) ?_; dsimp only)); at_builtin; refine Kd.R_append_row Value.string ByteArray.empty (h1 := fun _ => rfl) (w0 := w5) w4.heap.size rfl (.tmp 58) (.tmp 61) 25 9 (.string ⟨#[]⟩) 16 rfl Try.underlying25 info9 rfl (by decide) (.slice Ag got.length ng) got adm Aa adm.length na (fun k => True ∧ some k ≠ (Value.slice Ao asked.length no).ownBlock) rfl rfl ?aF ?aO ?aC ?aB ?aS ?aL ?_; (case aF => exact (fun k_ hk => ⟨trivial, Kd.fresh' (Kd.R_lt O5.out) k_ hk⟩)); (case aO => exact G5.out); (case aC => exact D5.out); (case aB => exact Below.refl _ _ |>.mono HZ5.out); (case aS => exact HZ5.out); (case aL => have := hadl; have := hga; have := hak; have := hk30; omega); intro v6 w6 ho hb hg hat; rw [← HGL.out] at ho; obtain ⟨A6, n6, rfl⟩ := Kd.R_slice ho; have hfin := grown_IsF K5.out B5.out G5.out HW4.out hg; have K6 := Aside0.mk hfin.1; have B6 := Aside0.mk hfin.2; have HZ6 := Aside0.mk (Nat.le_trans HZ5.out hg.size); have N6 := Aside0.mk (grown_old N5.out G5.out hg); have O6 := Aside0.mk (R_afterA (v5 := .slice Ag got.length ng) (v6 := .slice A6 gl.length n6) O5.out hg hat); have G6 := Aside0.mk ho; clear hfin ho hb hg hat K5 B5 HZ5 N5 O5 G5 D5)
                  | (go_at_call 15; refine (HCAP.out w6 K6.out).mono ?_; rintro e w7 ⟨rfl, hb⟩; have K7 := Aside0.mk (K6.out.below hb); have B7 := Aside0.mk (below_step B6.out hb); have HZ7 := Aside0.mk (Nat.le_trans HZ6.out hb.size); have N7 := Aside0.mk (Kd.R_below N6.out hb); have O7 := Aside0.mk (Kd.R_below O6.out hb); have G7 := Aside0.mk (Kd.R_below G6.out hb); clear hb K6 B6 HZ6 N6 O6 G6))
                go_roundw
                case measure => simp [intOf]; omega
                case rel => first | exact ⟨k + 1, s', asked, gl, by rw [show ((k : Int) + 1) = ((k + 1 : Nat) : Int) by omega], by omega, by omega, HI2, by omega, hle2, K7, B7, HZ7, N7, O7, G7⟩ | exact ⟨k + 1, s', asked, gl, by rw [show ((k : Int) + 1) = ((k + 1 : Nat) : Int) by omega], by omega, by omega, HI2, by omega, hle2, K6, B6, HZ6, N6, O6, G6⟩
              | false =>
                have hgtI : ¬ (gl.length : Int) < (asked.length : Int) := by have := of_decide_eq_false hgt; omega
                clear hcap2 hgt
                go_wp2_with (first
                  | (go_at_call 14; refine HADM.out.mono ?_; rintro e w5 ⟨va, rfl, hr, hi, hb, hk⟩; obtain ⟨Aa, na, rfl⟩ := Kd.R_slice hr; have K5 := Aside0.mk hi; have B5 := Aside0.mk hb; have HZ5 := Aside0.mk (Nat.le_trans HZ.out hk.1.1); have N5 := Aside0.mk (row_keepG N1.out hk str_tf); have O5 := Aside0.mk (row_keepG O1.out hk str_tf); have G5 := Aside0.mk (row_keepG G1.out hk str_tf); have D5 := Aside0.mk (Kd.R_reads' hr).2.2; clear hi hb hk hr)
                  | ((with_reducible refine gate_builtin (b := .append) (xs := #[.tmp 58, .tmp 61]) rfl ?_); (try (refine gate_guard (by rfl) ?_; dsimp only)); at_builtin; refine Kd.R_append_row Value.string ByteArray.empty (h1 := fun _ => rfl) (w0 := w5) w4.heap.size rfl (.tmp 58) (.tmp 61) 25 9 (.string ⟨#[]⟩) 16 rfl Try.underlying25 info9 rfl (by decide) (.slice Ag got.length ng) got adm Aa adm.length na (fun k => True ∧ some k ≠ (Value.slice Ao asked.length no).ownBlock) rfl rfl ?aF ?aO ?aC ?aB ?aS ?aL ?_; (case aF => exact (fun k_ hk => ⟨trivial, Kd.fresh' (Kd.R_lt O5.out) k_ hk⟩)); (case aO => exact G5.out); (case aC => exact D5.out); (case aB => exact Below.refl _ _ |>.mono HZ5.out); (case aS => exact HZ5.out); (case aL => have := hadl; have := hga; have := hak; have := hk30; omega); intro v6 w6 ho hb hg hat; rw [← HGL.out] at ho; obtain ⟨A6, n6, rfl⟩ := Kd.R_slice ho; have hfin := grown_IsF K5.out B5.out G5.out HW4.out hg; have K6 := Aside0.mk hfin.1; have B6 := Aside0.mk hfin.2; have HZ6 := Aside0.mk (Nat.le_trans HZ5.out hg.size); have N6 := Aside0.mk (grown_old N5.out G5.out hg); have O6 := Aside0.mk (R_afterA (v5 := .slice Ag got.length ng) (v6 := .slice A6 gl.length n6) O5.out hg hat); have G6 := Aside0.mk ho; clear hfin ho hb hg hat K5 B5 HZ5 N5 O5 G5 D5)
                  | (go_at_call 15; refine (HCAP.out w6 K6.out).mono ?_; rintro e w7 ⟨rfl, hb⟩; have K7 := Aside0.mk (K6.out.below hb); have B7 := Aside0.mk (below_step B6.out hb); have HZ7 := Aside0.mk (Nat.le_trans HZ6.out hb.size); have N7 := Aside0.mk (Kd.R_below N6.out hb); have O7 := Aside0.mk (Kd.R_below O6.out hb); have G7 := Aside0.mk (Kd.R_below G6.out hb); clear hb K6 B6 HZ6 N6 O6 G6))
                go_roundw
                case measure => simp [intOf]; omega
                case rel => first | exact ⟨k + 1, s', asked, gl, by rw [show ((k : Int) + 1) = ((k + 1 : Nat) : Int) by omega], by omega, by omega, HI2, by omega, hle2, K7, B7, HZ7, N7, O7, G7⟩ | exact ⟨k + 1, s', asked, gl, by rw [show ((k : Int) + 1) = ((k + 1 : Nat) : Int) by omega], by omega, by omega, HI2, by omega, hle2, K6, B6, HZ6, N6, O6, G6⟩
            | false =>
              have hnn : ¬ (names.length : Int) = 0 := by omega
              obtain ⟨i, hi0, hilt⟩ := mod_n x names.length (by omega) (by omega)
              obtain ⟨nm, hnm⟩ : ∃ nm, names[i]? = some nm := ⟨_, List.getElem?_eq_getElem hilt⟩
              have hiI : (i : Int) < (names.length : Int) := by omega
              have hi00 : (0 : Int) ≤ (i : Int) := by omega
              obtain ⟨ad2, had2, hx2⟩ := Kd.at_string (Kd.R_reads' N1.out).2.2 (i : Int) (by omega) (by omega)
              rw [show rdOf ByteArray.empty names (i : Int) = nm by (unfold rdOf; rw [Int.toNat_natCast, List.getD_eq_getElem?_getD, hnm]; rfl), Int.toNat_natCast] at hx2
              subst had2
              have hDR := drain_any (n := k + 1) (by omega) HI.out.inv K1.out B1.out nm
              have hcases := row_drain (n := k + 1) (by omega) HGD.out HI.out (List.mem_of_getElem? hnm)
              obtain ⟨er, her⟩ : ∃ q, q = (drainF s nm).1 := ⟨_, rfl⟩
              obtain ⟨s', hs'⟩ : ∃ q, q = (drainF s nm).2 := ⟨_, rfl⟩
              rw [← her, ← hs'] at hDR
              rw [← her, ← hs'] at hcases
              have HDR := Aside0.mk hDR
              have hi1 : wrap64 (Int.tmod (IntKind.u64.wrap x) (names.length : Int)) = (i : Int) := hi0
              clear hDR her hs' hi0 hnm
              rcases hcases with ⟨hne, hI2⟩ | ⟨he0, hI2, hidx⟩
              · have hneb : (er == 0) = false := by rw [beq_eq_false_iff_ne]; exact hne
                have HI2 := Aside0.mk hI2
                clear hI2 hne
                go_wp2_with (go_at_call 16; refine HDR.out.mono ?_; rintro e w5 ⟨rfl, hi, hb, hk⟩; have K5 := Aside0.mk hi; have B5 := Aside0.mk hb; have HZ5 := Aside0.mk (Nat.le_trans HZ.out hk.1.1); have N5 := Aside0.mk (row_keepG N1.out hk str_tf); have O5 := Aside0.mk (row_keepG O1.out hk str_tf); have G5 := Aside0.mk (row_keepG G1.out hk str_tf); clear hi hb hk)
                go_roundw
                case measure => simp [intOf]; omega
                case rel => exact ⟨k + 1, s', asked, got, by rw [show ((k : Int) + 1) = ((k + 1 : Nat) : Int) by omega], by omega, by omega, HI2, by omega, hga, K5, B5, HZ5, N5, O5, G5⟩
              · subst he0
                have HAH := Aside0.mk (fun (W : World) (hI : IsF w W g s') => ahead_any (n := k + 1 + 1) (by omega) hI2.inv hI nm)
                rw [hidx] at HAH
                have HI2 := Aside0.mk hI2
                obtain ⟨al, hal⟩ : ∃ q, q = asked ++ [nm] := ⟨_, rfl⟩
                have hall : al.length = asked.length + 1 := by rw [hal]; simp
                have hallI : (al.length : Int) = (asked.length : Int) + 1 := by omega
                rw [← hallI] at HAH
                rw [← hal] at HI2
                have HAL := Aside0.mk hal
                have HALL := Aside0.mk hall
                have hal31 : al.length ≤ 31 := by omega
                have hgal : got.length + 1 ≤ al.length := by omega
                clear hI2 hidx hal hall hallI
                go_wp2_with (first
                  | (go_at_call 16; refine HDR.out.mono ?_; rintro e w5 ⟨rfl, hi, hb, hk⟩; have K5 := Aside0.mk hi; have B5 := Aside0.mk hb; have HZ5 := Aside0.mk (Nat.le_trans HZ.out hk.1.1); have N5 := Aside0.mk (row_keepG N1.out hk str_tf); have O5 := Aside0.mk (row_keepG O1.out hk str_tf); have G5 := Aside0.mk (row_keepG G1.out hk str_tf); clear hi hb hk)
                  | ((with_reducible refine gate_builtin (b := .append) (xs := #[.tmp 94, .tmp 96]) rfl ?_); (try (refine gate_guard (by rfl) ?_; dsimp only)); at_builtin; refine Kd.R_append Kd.string (w0 := w5) w4.heap.size rfl (.tmp 94) (.tmp 96) 25 9 (.string ⟨#[]⟩) 16 rfl Try.underlying25 info9 rfl (by decide) (by omega) (.slice Ao asked.length no) asked nm [.string nm] (fun k => True ∧ some k ≠ (Value.slice Ag got.length ng).ownBlock) (fun _ => False) rfl ?aX ?aP (fun _ h => h.elim) ?aF ?aO ?aB ?aS ?aL ?_; (case aX => (show Value.slice (some ⟨w5.heap.size, 0, none⟩) 1 1 = _; simp)); (case aP => exact rfl); (case aF => exact (fun k_ hk => ⟨trivial, Kd.fresh' (Kd.R_lt G5.out) k_ hk⟩)); (case aO => exact O5.out); (case aB => exact Below.refl _ _ |>.mono HZ5.out); (case aS => exact HZ5.out); (case aL => have := hak; have := hk30; omega); intro v6 w6 ho hb hg hat; rw [← HAL.out] at ho; obtain ⟨A6, n6, rfl⟩ := Kd.R_slice ho; have hfin := grown_IsF K5.out B5.out O5.out HW4.out hg; have K6 := Aside0.mk hfin.1; have B6 := Aside0.mk hfin.2; have HZ6 := Aside0.mk (Nat.le_trans HZ5.out hg.size); have N6 := Aside0.mk (grown_old N5.out O5.out hg); have G6 := Aside0.mk (R_afterA (v5 := .slice Ao asked.length no) (v6 := .slice A6 al.length n6) G5.out hg hat); have O6 := Aside0.mk ho; clear hfin ho hb hg hat K5 B5 HZ5 N5 O5 G5)
                  | (go_at_call 17; refine (HAH.out w6 K6.out).mono ?_; rintro e w7 ⟨rfl, hb⟩; have K7 := Aside0.mk (K6.out.below hb); have B7 := Aside0.mk (below_step B6.out hb); have HZ7 := Aside0.mk (Nat.le_trans HZ6.out hb.size); have N7 := Aside0.mk (Kd.R_below N6.out hb); have O7 := Aside0.mk (Kd.R_below O6.out hb); have G7 := Aside0.mk (Kd.R_below G6.out hb); clear hb K6 B6 HZ6 N6 O6 G6))
                go_roundw
                case measure => simp [intOf]; omega
                case rel => exact ⟨k + 1, s', al, got, by rw [show ((k : Int) + 1) = ((k + 1 : Nat) : Int) by omega], by omega, by omega, HI2, by have := HALL.out; omega, by have := HALL.out; omega, K7, B7, HZ7, N7, O7, G7⟩
          · go_wp2_with (go_at_call 18; refine (HSAME.out _ (Kd.R_reads' O1.out).2.2 (Kd.R_reads' G1.out).2.2 (Kd.R_reads' G1.out).2.1 (Nat.le_trans hga (Kd.R_reads' O1.out).2.1)).mono ?_; rintro e w9 ⟨rfl, hd⟩; have BB := Aside0.mk (below_step B1.out (Drawn0.below hd)))
            go_ret
            exact ⟨rfl, BB.out⟩
        · go_wp2_with (go_at_call 18; refine (HSAME.out _ (Kd.R_reads' O1.out).2.2 (Kd.R_reads' G1.out).2.2 (Kd.R_reads' G1.out).2.1 (Nat.le_trans hga (Kd.R_reads' O1.out).2.1)).mono ?_; rintro e w9 ⟨rfl, hd⟩; have BB := Aside0.mk (below_step B1.out (Drawn0.below hd)))
          go_ret
          exact ⟨rfl, BB.out⟩
      · go_wp2_with (go_at_call 18; refine (HSAME.out _ (Kd.R_reads' O1.out).2.2 (Kd.R_reads' G1.out).2.2 (Kd.R_reads' G1.out).2.1 (Nat.le_trans hga (Kd.R_reads' O1.out).2.1)).mono ?_; rintro e w9 ⟨rfl, hd⟩; have BB := Aside0.mk (below_step B1.out (Drawn0.below hd)))
        go_ret
        exact ⟨rfl, BB.out⟩
theorem row_law (A : Option Addr) (c : Nat) (l : List Int) (A1 : Option Addr) (c1 : Nat) (l1 : List Int) (b0 b1 : Int) (w : World) (hC : Kd.C (Kd.int .i64) w A l.length l) (hc : l.length ≤ c) (_ : ∀ x ∈ l, (Lit.int .i64 x).wf = true) (hC1 : Kd.C (Kd.int .i64) w A1 l1.length l1) (hc1 : l1.length ≤ c1) (_ : ∀ x ∈ l1, (Lit.int .i64 x).wf = true) (_ : (Lit.int .i64 b0).wf = true) (_ : (Lit.int .i64 b1).wf = true) :
    Calls Try.prog 3 #[.slice A l.length c, .slice A1 l1.length c1, .agg #[.int .i64 b0, .int .i64 b1]] w fun e w' => e = .returned (.bool true) ∧ Below w.heap.size w w' := row_calls A c l A1 c1 l1 b0 b1 w hC hc hC1 hc1
end Go.Proofs.Ytmlmiocomlehgaa.Man
