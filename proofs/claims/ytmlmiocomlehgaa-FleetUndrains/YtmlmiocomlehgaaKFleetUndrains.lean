/-
  The fleet: contracts of its functions, proved by walking them, and plain facts, several texts in one (Gd, Pu, Lu). Conditions: none.
-/
import Derived.Test.YtmlmiocomlehgaaB7
import Derived.Test.YtmlmiocomlehgaaPAx2
set_option linter.unusedVariables false
set_option linter.unusedSimpArgs false
set_option linter.unusedSectionVars false
namespace Go.Proofs.Ytmlmiocomlehgaa.Man
open Go.RowKit Go.Proofs.YtmlmiocomlehgaaW.PrintWords Go.Proofs.YtmlmiocomlehgaaW.PrintLast Go.Proofs.YtmlmiocomlehgaaW.PrintMore Go.Proofs.Ytmlmiocomlehgaa.PA Go.Proofs.Ytmlmiocomlehgaa.PF Go.Proofs.Ytmlmiocomlehgaa.Hid Go.Proofs.Ytmlmiocomlehgaa.Na Go.Proofs.Ytmlmiocomlehgaa.Nil
/-- The six names. -/
def H6 : List ByteArray := [(⟨#[104, 48]⟩ : ByteArray), (⟨#[104, 49]⟩ : ByteArray), (⟨#[104, 50]⟩ : ByteArray), (⟨#[104, 51]⟩ : ByteArray), (⟨#[104, 52]⟩ : ByteArray), (⟨#[104, 53]⟩ : ByteArray)]
/-- Names that differ, of the six. -/
def Goods (r : List ByteArray) : Prop := r.Nodup ∧ r ⊆ H6
theorem Goods.len {r : List ByteArray} (h : Goods r) : r.length ≤ 6 := List.Nodup.length_le_of_subset h.1 h.2
theorem has_le (x : ByteArray) (l : List ByteArray) (hm : l.length ≤ 6) (k : Nat) (hk : 7 ≤ k) : hostlerref09_Has.f k l x = some (hasB x l) := by
  obtain ⟨j, rfl⟩ : ∃ j, k = l.length + 1 + j := ⟨k - (l.length + 1), by omega⟩
  induction j with
  | zero => exact has_some x l (by omega)
  | succ j ih =>
    by_cases c : 7 ≤ l.length + 1 + j
    · exact hostlerref09_Has.mono _ _ _ _ (ih c)
    · clear ih
      have h1 : ∀ j, hostlerref09_Has.f (l.length + 1 + j) l x = some (hasB x l) := by
        intro j
        induction j with
        | zero => exact has_some x l (by omega)
        | succ j ih => exact hostlerref09_Has.mono _ _ _ _ ih
      exact h1 (j + 1)
theorem good_loop (l : List Int) (hm : l.length ≤ 9223372036854775807) (d : Nat) : ∀ (k j : Nat) (acc : List ByteArray), j ≤ l.length → l.length - j = d → d + 8 ≤ k → Goods acc → ∃ r, hostlerref09_Good.l0 k l acc H6 (j : Int) = some r ∧ Goods r := by
  induction d with
  | zero =>
    intro k j acc hj hd hk hg
    obtain ⟨k, rfl⟩ : ∃ k', k = k' + 1 := ⟨k - 1, by omega⟩
    refine ⟨acc, ?_, hg⟩
    simp only [hostlerref09_Good.l0]
    rw [if_neg (by omega)]
  | succ d ih =>
    intro k j acc hj hd hk hg
    obtain ⟨k, rfl⟩ : ∃ k', k = k' + 1 := ⟨k - 1, by omega⟩
    simp only [hostlerref09_Good.l0]
    rw [if_pos (by omega), if_pos (by omega)]
    obtain ⟨q, hq, hq6⟩ := mod_n (rd l (j : Int)) 6 (by decide) (by decide)
    have hq' : wrap64 (Int.tmod (IntKind.u64.wrap (rd l (j : Int))) 6) = (q : Int) := hq
    rw [hq', if_pos (by omega), if_pos (show (q : Int) < (H6.length : Int) by show (q : Int) < 6; omega)]
    have hw : wrap64 ((j : Int) + 1) = ((j + 1 : Nat) : Int) := by unfold wrap64; omega
    rw [has_le _ _ hg.len k (by omega), hw]
    simp only [Option.bind_some]
    have hin : rdOf ByteArray.empty H6 (q : Int) ∈ H6 := by
      unfold rdOf
      rw [Int.toNat_natCast, List.getD_eq_getElem?_getD, List.getElem?_eq_getElem (show q < H6.length from hq6)]
      exact List.getElem_mem _
    generalize rdOf ByteArray.empty H6 (q : Int) = nm at hin
    by_cases c : nm ∈ acc
    · rw [(hasB_iff nm acc).2 c, if_pos rfl]
      exact ih k (j + 1) acc (by omega) (by omega) (by omega) hg
    · rw [hasB_no nm acc c, if_neg (by decide), if_pos (by have := hg.len; omega)]
      refine ih k (j + 1) (acc ++ [nm]) (by omega) (by omega) (by omega) ⟨?_, ?_⟩
      · rw [List.nodup_append]
        refine ⟨hg.1, by simp, fun a ha b hb => ?_⟩
        rw [List.mem_singleton.1 hb]
        rintro rfl
        exact c ha
      · intro a ha
        rcases List.mem_append.1 ha with ha | ha
        · exact hg.2 ha
        · rw [List.mem_singleton.1 ha]
          exact hin
theorem good_raw (l : List Int) (A : Option Addr) (c : Nat) (w : World) (hC : Kd.C (Kd.int .i64) w A l.length l) (hc : l.length ≤ c) :
    ∃ r, Goods r ∧ Calls Try.prog 11 #[.slice A l.length c] w fun e w' => ∃ v0_ : Value, e = .returned v0_ ∧ Kd.R Kd.string 9 w' w.heap.size (fun _ => True) v0_ r ∧ Below w.heap.size w w' := by
  obtain ⟨r, h1, h2⟩ := good_loop l hC.2.1 l.length (l.length + 8) 0 [] (Nat.zero_le _) rfl (Nat.le_refl _) ⟨List.nodup_nil, by simp⟩
  exact ⟨r, h2, hostlerref09_Good.calls (l.length + 8) A c l r w hC hc h1⟩
theorem h6_ok {x : ByteArray} (h : x ∈ H6) : nameB x = true ∧ x.size ≤ maxLen := by
  have : ∀ x ∈ H6, nameB x = true ∧ x.size ≤ maxLen := by decide
  exact this x h
theorem Goods.check {r : List ByteArray} (h : Goods r) : checkE r = 0 := by
  unfold checkE
  have := h.len
  rw [if_neg (by omega), if_neg, if_pos (nodupB_iff.2 h.1)]
  have : r.all nameB = true := List.all_eq_true.2 (fun x hx => (h6_ok (h.2 hx)).1)
  rw [this]
  decide
theorem look_mem {hs : List HV} {nm : ByteArray} (h : nm ∉ hs.map (·.nm)) : lookH hs nm = none := by
  rcases posH_bd hs nm with ⟨h1, _⟩ | ⟨i, x, h1, h2, h3⟩
  · exact look_none h1
  · exact absurd (List.mem_map.2 ⟨x, List.mem_of_getElem? h2, h3⟩) h
theorem look_at {hs : List HV} (hn : (hs.map (·.nm)).Nodup) {i : Nat} {x : HV} (hx : hs[i]? = some x) : lookH hs x.nm = some x := look_some (posH_of hn hx) hx
def freshH (l : List ByteArray) : List HV := l.map (fun nm => ⟨nm, 0, false⟩)
theorem fresh_nm (l : List ByteArray) : (freshH l).map (·.nm) = l := by simp [freshH, Function.comp_def]
/-- Names that aren't there come. -/
theorem came_fresh : ∀ (l : List ByteArray) (s : FS), l.Nodup → (∀ x ∈ l, x ∉ s.hs.map (·.nm)) → cameL l s = ({ s with hs := s.hs ++ freshH l }, l)
  | [], s, _, _ => by simp [cameL, freshH]
  | nm :: l, s, hn, hd => by
    unfold cameL
    obtain ⟨h1, h2⟩ := List.nodup_cons.1 hn
    rw [look_mem (hd nm (by simp))]
    dsimp only
    rw [came_fresh l { s with hs := s.hs ++ [⟨nm, 0, false⟩] } h2 (fun x hx hm => by
      simp only [List.map_append, List.map_cons, List.map_nil, List.mem_append, List.mem_singleton] at hm
      rcases hm with hm | hm
      · exact hd x (by simp [hx]) hm
      · exact h1 (hm ▸ hx))]
    simp [freshH]
/-- A fleet resolved for the first time. -/
theorem resolve_first (each guard : Int) {r : List ByteArray} (h : Goods r) (dl : Int) : resolveF ⟨each, guard, [], ⟨[]⟩⟩ r dl = ((r, [], 0), ⟨each, guard, freshH r, ⟨[]⟩⟩) := by
  unfold resolveF
  rw [if_pos h.check]
  have : leftL r dl ([] : List HV) ⟨each, guard, [], ⟨[]⟩⟩ = (⟨each, guard, [], ⟨[]⟩⟩, []) := rfl
  rw [this]
  dsimp only
  rw [came_fresh r ⟨each, guard, [], ⟨[]⟩⟩ h.1 (by simp)]
  rfl
end Go.Proofs.Ytmlmiocomlehgaa.Man
namespace Go.Proofs.Ytmlmiocomlehgaa.Man
open Go.RowKit Go.Proofs.YtmlmiocomlehgaaW.PrintWords Go.Proofs.YtmlmiocomlehgaaW.PrintLast Go.Proofs.YtmlmiocomlehgaaW.PrintMore Go.Proofs.Ytmlmiocomlehgaa.PA Go.Proofs.Ytmlmiocomlehgaa.PF Go.Proofs.Ytmlmiocomlehgaa.Hid Go.Proofs.Ytmlmiocomlehgaa.Na Go.Proofs.Ytmlmiocomlehgaa.Nil
theorem place_nil (nm : ByteArray) (j : Int) : placeOf [] nm j = -1 := rfl
theorem place_one (nm : ByteArray) (a : Int) (b : Bool) : placeOf [⟨nm, a, b⟩] nm 0 = 0 := by simp [placeOf]
theorem end_nil (nm : ByteArray) : endF ⟨[]⟩ nm = ⟨[]⟩ := by simp [endF, endRow, placeOf]
theorem end_one (nm : ByteArray) (a : Int) (b : Bool) : endF ⟨[⟨nm, a, b⟩]⟩ nm = ⟨[]⟩ := by simp [endF, endRow, place_one]
theorem ask_nil {nm : ByteArray} (h : nameB nm = true) : askF ⟨[]⟩ nm = (0, ⟨[⟨nm, 0, false⟩]⟩) := by
  unfold askF
  rw [if_pos h, if_pos (by rw [place_nil]; decide), if_pos (by decide)]
  rfl
theorem ask_one {nm : ByteArray} (h : nameB nm = true) (a : Int) (b : Bool) : askF ⟨[⟨nm, a, b⟩]⟩ nm = (6, ⟨[⟨nm, a, b⟩]⟩) := by
  unfold askF
  rw [if_pos h, if_neg (by rw [place_one]; decide)]
def clampN (n : Int) : Int := mn (mx n 0) 1099511627776
theorem begin_nil {nm : ByteArray} (h : nameB nm = true) (dl : Int) : beginF ⟨[]⟩ nm dl = (0, ⟨[⟨nm, clampN dl, true⟩]⟩) := by
  unfold beginF
  rw [if_pos h, if_pos (by rw [place_nil]; decide)]
  rfl
theorem idx_nil (nm : ByteArray) (j : Int) : idxOf [] nm j = -1 := rfl
theorem idx_one (nm : ByteArray) : idxOf [nm] nm 0 = 0 := by simp [idxOf]
theorem names_wait (nm : ByteArray) (a : Int) : namesOf [⟨nm, a, false⟩] false = [nm] := rfl
theorem names_under (nm : ByteArray) (a : Int) : namesOf [⟨nm, a, true⟩] false = [] := rfl
theorem due_none (now : Int) : dueOf ⟨[]⟩ now = [] := rfl
theorem past_self (now : Int) : pastB now (clampN now) = true := by
  unfold pastB clampN cutT mn mx
  refine decide_eq_true ?_
  (repeat' split) <;> omega
theorem due_one (nm : ByteArray) (now : Int) : dueOf ⟨[⟨nm, clampN now, true⟩]⟩ now = [nm] := by
  have hd : deadOf ⟨[⟨nm, clampN now, true⟩]⟩ nm = (clampN now, true) := dead_of (b := 1) ⟨by simp, by simp, by simp [namesOf]⟩ (x := ⟨nm, clampN now, true⟩) (by simp)
  unfold dueOf
  show List.filter _ [nm] = [nm]
  rw [List.filter_cons, hd, if_pos (past_self now)]
  rfl
section
variable {s : FS} {i : Nat} {x : HV} (hn : (s.hs.map (·.nm)).Nodup) (hx : s.hs[i]? = some x) (hb : nameB x.nm = true)
include hn hx
theorem state_at : stateV s x.nm = (x.st, true) := by unfold stateV; rw [look_at hn hx]
theorem leaves_at : leavesV s x.nm = x.lv := by unfold leavesV; rw [look_at hn hx]
theorem setH_i (y : HV) : setH s.hs x.nm y = s.hs.set i y := setH_at (posH_of hn hx) y
theorem delH_i : delH s.hs x.nm = s.hs.eraseIdx i := delH_at (posH_of hn hx)
theorem empty_yes (h : nextB x.st 4 = true) (hl : x.lv = false) : emptyF s x.nm = (true, { s with hs := s.hs.set i (evH x 4), ds := endF s.ds x.nm }) := by
  unfold emptyF
  rw [look_at hn hx]
  simp only [h, if_true, hl, Bool.false_eq_true, if_false]
  rw [setH_i hn hx]
theorem empty_gone (h : nextB x.st 4 = true) (hl : x.lv = true) : emptyF s x.nm = (true, { s with hs := s.hs.eraseIdx i, ds := endF s.ds x.nm }) := by
  unfold emptyF
  rw [look_at hn hx]
  simp only [h, if_true, hl]
  rw [delH_i hn hx]
include hb
theorem known_at : knownE s x.nm = 0 := by
  unfold knownE
  rw [if_pos hb, posH_of hn hx, if_neg (by omega)]
theorem drain_yes (h1 : x.st = 0) : drainF s x.nm = ((askF s.ds x.nm).1, { s with ds := (askF s.ds x.nm).2 }) := by
  unfold drainF
  rw [if_pos (known_at hn hx hb), look_at hn hx]
  dsimp only
  rw [if_neg (by omega)]
theorem drain_no (h1 : x.st = 1 ∨ x.st = 3) : drainF s x.nm = (8, s) := by
  unfold drainF
  rw [if_pos (known_at hn hx hb), look_at hn hx]
  dsimp only
  rw [if_pos h1]
theorem undrain_wait (hl : x.lv = false) (h : 0 ≤ idxOf (namesOf s.ds.row false) x.nm 0) : undrainF s x.nm = (0, { s with ds := endF s.ds x.nm }) := by
  unfold undrainF
  rw [if_pos (known_at hn hx hb), look_at hn hx]
  dsimp only
  rw [hl, if_neg (by decide), if_neg (by omega)]
theorem undrain_back (hl : x.lv = false) (h : idxOf (namesOf s.ds.row false) x.nm 0 < 0) (he : nextB x.st 1 = true) : undrainF s x.nm = (0, { s with hs := s.hs.set i (evH x 1), ds := endF s.ds x.nm }) := by
  unfold undrainF
  rw [if_pos (known_at hn hx hb), look_at hn hx]
  dsimp only
  rw [hl, if_neg (by decide), if_pos h, if_pos he, setH_i hn hx]
theorem undrain_no (hl : x.lv = false) (h : idxOf (namesOf s.ds.row false) x.nm 0 < 0) (he : nextB x.st 1 = false) : undrainF s x.nm = (8, s) := by
  unfold undrainF
  rw [if_pos (known_at hn hx hb), look_at hn hx]
  dsimp only
  rw [hl, if_neg (by decide), if_pos h, he, if_neg (by decide)]
theorem force_yes (h : x.st ≠ 3) (now : Int) : forceF s x.nm now = ((beginF (endF s.ds x.nm) x.nm now).1, { s with hs := s.hs.set i (evH x 0), ds := (beginF (endF s.ds x.nm) x.nm now).2 }) := by
  unfold forceF
  rw [if_pos (known_at hn hx hb), look_at hn hx]
  dsimp only
  rw [if_neg h, setH_i hn hx]
theorem force_no (h : x.st = 3) (now : Int) : forceF s x.nm now = (8, s) := by
  unfold forceF
  rw [if_pos (known_at hn hx hb), look_at hn hx]
  dsimp only
  rw [if_pos h]
theorem eject_no (h : x.st ≠ 0) : ejectF s x.nm = (8, s) := by
  unfold ejectF
  rw [if_pos (known_at hn hx hb), look_at hn hx]
  dsimp only
  rw [if_neg h]
end
end Go.Proofs.Ytmlmiocomlehgaa.Man
namespace Go.Proofs.Ytmlmiocomlehgaa.Man
open Go.RowKit Go.Proofs.YtmlmiocomlehgaaW.PrintWords Go.Proofs.YtmlmiocomlehgaaW.PrintLast Go.Proofs.YtmlmiocomlehgaaW.PrintMore Go.Proofs.Ytmlmiocomlehgaa.PA Go.Proofs.Ytmlmiocomlehgaa.PF Go.Proofs.Ytmlmiocomlehgaa.Hid Go.Proofs.Ytmlmiocomlehgaa.Na Go.Proofs.Ytmlmiocomlehgaa.Nil
def uS (names : List ByteArray) (i : Nat) (nm : ByteArray) (st : Int) (d : List S88) : FS := ⟨1, 0, (freshH names).set i ⟨nm, st, false⟩, ⟨d⟩⟩
section
variable {names : List ByteArray} {i : Nat} {nm : ByteArray} (hg : Goods names) (hi : names[i]? = some nm)
include hg hi
theorem uS_nd (st : Int) (d : List S88) : ((uS names i nm st d).hs.map (·.nm)).Nodup := by
  show (((freshH names).set i ⟨nm, st, false⟩).map (·.nm)).Nodup
  rw [List.map_set, fresh_nm, set_same hi]
  exact hg.1
theorem uS_at (st : Int) (d : List S88) : (uS names i nm st d).hs[i]? = some ⟨nm, st, false⟩ := by
  show ((freshH names).set i ⟨nm, st, false⟩)[i]? = _
  rw [List.getElem?_set_self]
  have := (List.getElem?_eq_some_iff.1 hi).1
  simpa [freshH] using this
theorem uS_nb : nameB nm = true := (h6_ok (hg.2 (List.mem_of_getElem? hi))).1
theorem uS_first : (⟨1, 0, freshH names, ⟨[]⟩⟩ : FS) = uS names i nm 0 [] := by
  unfold uS
  rw [set_same]
  have hlt := (List.getElem?_eq_some_iff.1 hi).1
  have he := (List.getElem?_eq_some_iff.1 hi).2
  simp [freshH, hlt, he]
theorem uS_len (st : Int) (d : List S88) : (uS names i nm st d).hs.length = names.length := by simp [uS, freshH]
theorem uS_act (d : List S88) : actN (uS names i nm 0 d).hs = names.length := by
  have h := uS_first hg hi
  have : (uS names i nm 0 d).hs = freshH names := by
    have := congrArg FS.hs h
    exact this.symm
  rw [this]
  unfold actN freshH
  rw [List.filter_eq_self.2]
  · simp
  · intro x hx
    obtain ⟨y, _, rfl⟩ := List.mem_map.1 hx
    rfl
theorem uS_cap (d : List S88) : capV (uS names i nm 0 d) = (names.length : Int) := by
  unfold capV
  rw [uS_act hg hi]
  show wrap64 ((names.length : Int) * 1) = _
  have := hg.len
  unfold wrap64
  omega
theorem uS_may (d : List S88) : mayS (uS names i nm 0 d) nm = true := by
  unfold mayS
  have hp := posH_of (uS_nd hg hi 0 d) (uS_at hg hi 0 d)
  have hp' : posH (uS names i nm 0 d).hs nm = (i : Int) := hp
  have hlt := (List.getElem?_eq_some_iff.1 hi).1
  rw [hp']
  unfold mayI
  rw [if_neg (by rw [List.length_map, uS_len hg hi]; omega), actI_map, uS_act hg hi]
  split
  · refine decide_eq_true ?_
    show (0 : Int) ≤ wrap64 (wrap64 ((names.length : Int) * 1) - 1)
    have := hg.len
    unfold wrap64
    omega
  · rfl
theorem uS_set (st st' : Int) (d d' : List S88) : ({ uS names i nm st d with hs := (uS names i nm st d).hs.set i ⟨nm, st', false⟩, ds := ⟨d'⟩ } : FS) = uS names i nm st' d' := by
  unfold uS
  simp
theorem u1 : drainF (uS names i nm 0 []) nm = (0, uS names i nm 0 [⟨nm, 0, false⟩]) := by
  rw [drain_yes (x := ⟨nm, 0, false⟩) (uS_nd hg hi 0 []) (uS_at hg hi 0 []) (uS_nb hg hi) rfl]
  rw [show askF (uS names i nm 0 []).ds nm = _ from ask_nil (uS_nb hg hi)]
  rfl
theorem u2 : drainF (uS names i nm 0 [⟨nm, 0, false⟩]) nm = (6, uS names i nm 0 [⟨nm, 0, false⟩]) := by
  rw [drain_yes (x := ⟨nm, 0, false⟩) (uS_nd hg hi 0 _) (uS_at hg hi 0 _) (uS_nb hg hi) rfl]
  rw [show askF (uS names i nm 0 [⟨nm, 0, false⟩]).ds nm = _ from ask_one (uS_nb hg hi) 0 false]
  rfl
theorem u4 : admitF (uS names i nm 0 [⟨nm, 0, false⟩]) 9 = ([nm], uS names i nm 1 [⟨nm, 9, true⟩]) := by
  unfold admitF
  rw [show namesOf (uS names i nm 0 [⟨nm, 0, false⟩]).ds.row false = [nm] from rfl]
  have h : admitL 9 [nm] (uS names i nm 0 [⟨nm, 0, false⟩]) = (admit1 (uS names i nm 0 [⟨nm, 0, false⟩]) nm 9, [nm]) := by
    unfold admitL
    rw [if_pos (uS_may hg hi _)]
    rfl
  rw [h]
  unfold admit1
  have hl := look_at (uS_nd hg hi 0 [⟨nm, 0, false⟩]) (uS_at hg hi 0 [⟨nm, 0, false⟩])
  have hl' : lookH (uS names i nm 0 [⟨nm, 0, false⟩]).hs nm = some ⟨nm, 0, false⟩ := hl
  rw [hl']
  dsimp only
  rw [show endF (uS names i nm 0 [⟨nm, 0, false⟩]).ds nm = ⟨[]⟩ from end_one nm 0 false, begin_nil (uS_nb hg hi)]
  have hs := setH_i (uS_nd hg hi 0 [⟨nm, 0, false⟩]) (uS_at hg hi 0 [⟨nm, 0, false⟩]) (evH ⟨nm, 0, false⟩ 0)
  have hs' : setH (uS names i nm 0 [⟨nm, 0, false⟩]).hs nm (evH ⟨nm, 0, false⟩ 0) = (uS names i nm 0 [⟨nm, 0, false⟩]).hs.set i ⟨nm, 1, false⟩ := hs
  rw [hs', uS_set hg hi]
  rfl
theorem u5 : emptyF (uS names i nm 1 [⟨nm, 9, true⟩]) nm = (true, uS names i nm 3 []) := by
  rw [empty_yes (x := ⟨nm, 1, false⟩) (uS_nd hg hi 1 _) (uS_at hg hi 1 _) (show nextB 1 4 = true by decide) rfl]
  rw [show endF (uS names i nm 1 [⟨nm, 9, true⟩]).ds nm = ⟨[]⟩ from end_one nm 9 true]
  exact congrArg _ (uS_set hg hi 1 3 _ _)
theorem u6a : undrainF (uS names i nm 0 [⟨nm, 0, false⟩]) nm = (0, uS names i nm 0 []) := by
  rw [undrain_wait (x := ⟨nm, 0, false⟩) (uS_nd hg hi 0 _) (uS_at hg hi 0 _) (uS_nb hg hi) rfl (by rw [show namesOf (uS names i nm 0 [⟨nm, 0, false⟩]).ds.row false = [nm] from rfl, idx_one]; decide)]
  rw [show endF (uS names i nm 0 [⟨nm, 0, false⟩]).ds nm = ⟨[]⟩ from end_one nm 0 false]
  rfl
theorem u6b : undrainF (uS names i nm 1 [⟨nm, 9, true⟩]) nm = (0, uS names i nm 0 []) := by
  rw [undrain_back (x := ⟨nm, 1, false⟩) (uS_nd hg hi 1 _) (uS_at hg hi 1 _) (uS_nb hg hi) rfl (by rw [show namesOf (uS names i nm 1 [⟨nm, 9, true⟩]).ds.row false = [] from rfl, idx_nil]; decide) (show nextB 1 1 = true by decide)]
  rw [show endF (uS names i nm 1 [⟨nm, 9, true⟩]).ds nm = ⟨[]⟩ from end_one nm 9 true]
  exact congrArg _ (uS_set hg hi 1 0 _ _)
theorem u6c : undrainF (uS names i nm 3 []) nm = (0, uS names i nm 0 []) := by
  rw [undrain_back (x := ⟨nm, 3, false⟩) (uS_nd hg hi 3 _) (uS_at hg hi 3 _) (uS_nb hg hi) rfl (by rw [show namesOf (uS names i nm 3 []).ds.row false = [] from rfl, idx_nil]; decide) (show nextB 3 1 = true by decide)]
  rw [show endF (uS names i nm 3 []).ds nm = ⟨[]⟩ from end_nil nm]
  exact congrArg _ (uS_set hg hi 3 0 _ _)
theorem u7 : stateV (uS names i nm 0 []) nm = (0, true) := state_at (x := ⟨nm, 0, false⟩) (uS_nd hg hi 0 _) (uS_at hg hi 0 _)
theorem u11 : admitF (uS names i nm 0 []) 9 = ([], uS names i nm 0 []) := rfl
theorem u12 : undrainF (uS names i nm 0 []) nm = (8, uS names i nm 0 []) :=
  undrain_no (x := ⟨nm, 0, false⟩) (uS_nd hg hi 0 _) (uS_at hg hi 0 _) (uS_nb hg hi) rfl (by rw [show namesOf (uS names i nm 0 []).ds.row false = [] from rfl, idx_nil]; decide) (show nextB 0 1 = false by decide)
end
set_option maxHeartbeats 8000000 in
theorem undrains_calls (A : Option Addr) (c : Nat) (l : List Int) (a1 a2 : Int) (w : World) (hC : Kd.C (Kd.int .i64) w A l.length l) (hc : l.length ≤ c) :
    Calls Try.prog 5 #[.slice A l.length c, .int .i64 a1, .int .i64 a2] w fun e w' => e = .returned (.bool true) ∧ Below w.heap.size w w' := by
  have HL := Aside0.mk (lives_raw w)
  obtain ⟨names, hg, hgood⟩ : ∃ names, Goods names ∧ ∀ W, Below w.heap.size w W → Calls Try.prog 11 #[.slice A l.length c] W fun e w' => ∃ v0_ : Value, e = .returned v0_ ∧ Kd.R Kd.string 9 w' W.heap.size (fun _ => True) v0_ names ∧ Below W.heap.size W w' := by
    obtain ⟨r, h1, h2⟩ := good_loop l hC.2.1 l.length (l.length + 8) 0 [] (Nat.zero_le _) rfl (Nat.le_refl _) ⟨List.nodup_nil, by simp⟩
    exact ⟨r, h2, fun W hb => hostlerref09_Good.calls (l.length + 8) A c l r W (Kd.C_below hC hb) hc h1⟩
  have HG := Aside0.mk hgood
  clear hgood hC
  have hlen6 := hg.len
  by_cases h0 : names.length = 0
  · have hnil : names = [] := List.length_eq_zero_iff.1 h0
    subst hnil
    clear h0 hlen6
    go_enter Try.func5, Try.ntmps5
    go_wp2_with (first
      | (go_at_call 10; refine HL.out.mono ?_; rintro e w1 ⟨rfl, hb⟩; have HB1 := Aside0.mk hb; clear hb)
      | (go_at_call 11; refine (HG.out w1 HB1.out).mono ?_; rintro e w2 ⟨v2, rfl, hr, hb⟩; obtain ⟨A2, n2, rfl⟩ := Kd.R_slice hr; have HB2 := Aside0.mk (below_step HB1.out hb); clear hb hr))
    go_ret
    exact ⟨rfl, HB2.out⟩
  obtain ⟨i, hi0, hilt⟩ := mod_n a1 names.length (by omega) (by omega)
  obtain ⟨nm, hnm⟩ : ∃ nm, names[i]? = some nm := ⟨_, List.getElem?_eq_getElem hilt⟩
  obtain ⟨q, hq0, hq3⟩ := mod_n a2 3 (by decide) (by decide)
  have hwl : IntKind.u64.wrap (names.length : Int) = (names.length : Int) := by
    unfold IntKind.wrap
    simp [IntKind.bits, IntKind.signed]
    omega
  have v0 : FInv ⟨1, 0, [], ⟨[]⟩⟩ 0 := FInv.new 1 0
  have v1 : FInv (uS names i nm 0 []) 1 := by have := v0.resolve (by decide) names 0; rwa [resolve_first 1 0 hg 0, uS_first hg hnm] at this
  have v2 : FInv (uS names i nm 0 [⟨nm, 0, false⟩]) 2 := by have := v1.drain (by decide) nm; rwa [u1 hg hnm] at this
  have v4 : FInv (uS names i nm 1 [⟨nm, 9, true⟩]) 3 := by have := v2.admit 9; rwa [u4 hg hnm] at this
  have v5 : FInv (uS names i nm 3 []) 4 := by have := v4.empty nm; rwa [u5 hg hnm] at this
  have HN := Aside0.mk (fun W hb => fnew_raw 1 0 w W hb)
  have HRES := Aside0.mk (fun (g : Nat) (W : World) (hI : IsF w W g ⟨1, 0, [], ⟨[]⟩⟩) (hB : Below w.heap.size w W) (A : Option Addr) (n base : Nat) (hr : Kd.R Kd.string 9 W base (fun _ => True) (.slice A names.length n) names) =>
    resolve_any (n := 0) (by decide) v0 hI hB names A n 0 (Kd.R_reads' hr).2.1 (fun x hx => (h6_ok (hg.2 hx)).2) (rowC hr))
  rw [resolve_first 1 0 hg 0, uS_first hg hnm] at HRES
  have HD1 := Aside0.mk (fun (g : Nat) (W : World) (hI : IsF w W g (uS names i nm 0 [])) (hB : Below w.heap.size w W) => drain_any (n := 1) (by decide) v1 hI hB nm)
  rw [u1 hg hnm] at HD1
  have HD2 := Aside0.mk (fun (g : Nat) (W : World) (hI : IsF w W g (uS names i nm 0 [⟨nm, 0, false⟩])) (hB : Below w.heap.size w W) => drain_any (n := 2) (by decide) v2 hI hB nm)
  rw [u2 hg hnm] at HD2
  have HA1 := Aside0.mk (fun (g : Nat) (W : World) (hI : IsF w W g (uS names i nm 0 [⟨nm, 0, false⟩])) => ahead_any (n := 2) (by decide) v2 hI nm)
  rw [show namesOf (uS names i nm 0 [⟨nm, 0, false⟩]).ds.row false = [nm] from rfl, idx_one] at HA1
  have HST := Aside0.mk (fun (g : Nat) (W : World) (hI : IsF w W g (uS names i nm 0 [])) => state_any hI nm)
  rw [u7 hg hnm] at HST
  have HDU := Aside0.mk (fun (g : Nat) (W : World) (hI : IsF w W g (uS names i nm 0 [])) => due_any (n := 1) (by decide) v1 hI 9)
  rw [show dueOf (uS names i nm 0 []).ds 9 = [] from rfl] at HDU
  have HA2 := Aside0.mk (fun (g : Nat) (W : World) (hI : IsF w W g (uS names i nm 0 [])) => ahead_any (n := 1) (by decide) v1 hI nm)
  rw [show namesOf (uS names i nm 0 []).ds.row false = [] from rfl, idx_nil] at HA2
  have HCA := Aside0.mk (fun (g : Nat) (W : World) (hI : IsF w W g (uS names i nm 0 [])) => capacity_any (n := 1) (by decide) v1 hI)
  rw [uS_cap hg hnm] at HCA
  have HAD2 := Aside0.mk (fun (g : Nat) (W : World) (hI : IsF w W g (uS names i nm 0 [])) (hB : Below w.heap.size w W) => admit_any (n := 1) (by decide) v1 hI hB 9)
  rw [u11 hg hnm] at HAD2
  have HU2 := Aside0.mk (fun (g : Nat) (W : World) (hI : IsF w W g (uS names i nm 0 [])) (hB : Below w.heap.size w W) => undrain_any (n := 1) (by decide) v1 hI hB nm)
  rw [u12 hg hnm] at HU2
  have HAD1 := Aside0.mk (fun (g : Nat) (W : World) (hI : IsF w W g (uS names i nm 0 [⟨nm, 0, false⟩])) (hB : Below w.heap.size w W) => admit_any (n := 2) (by decide) v2 hI hB 9)
  rw [u4 hg hnm] at HAD1
  have HEM := Aside0.mk (fun (g : Nat) (W : World) (hI : IsF w W g (uS names i nm 1 [⟨nm, 9, true⟩])) (hB : Below w.heap.size w W) => empty_any (n := 3) (by decide) v4 hI hB nm)
  rw [u5 hg hnm] at HEM
  have HUa := Aside0.mk (fun (g : Nat) (W : World) (hI : IsF w W g (uS names i nm 0 [⟨nm, 0, false⟩])) (hB : Below w.heap.size w W) => undrain_any (n := 2) (by decide) v2 hI hB nm)
  rw [u6a hg hnm] at HUa
  have HUb := Aside0.mk (fun (g : Nat) (W : World) (hI : IsF w W g (uS names i nm 1 [⟨nm, 9, true⟩])) (hB : Below w.heap.size w W) => undrain_any (n := 3) (by decide) v4 hI hB nm)
  rw [u6b hg hnm] at HUb
  have HUc := Aside0.mk (fun (g : Nat) (W : World) (hI : IsF w W g (uS names i nm 3 [])) (hB : Below w.heap.size w W) => undrain_any (n := 4) (by decide) v5 hI hB nm)
  rw [u6c hg hnm] at HUc
  clear v0 v1 v2 v4 v5
  have HNM := Aside0.mk hnm
  obtain ⟨x1, hx1⟩ : ∃ x, a1 = x := ⟨_, rfl⟩
  rw [hx1] at hi0 ⊢
  have hnn : ¬ (names.length : Int) = 0 := by omega
  have hI0 : (0 : Int) ≤ (i : Int) := by omega
  have hIl : (i : Int) < (names.length : Int) := by omega
  clear hx1 hnm hg
  rcases (show q = 0 ∨ q = 1 ∨ q = 2 by omega) with rfl | rfl | rfl
  · have hq : wrap64 (Int.tmod (IntKind.u64.wrap a2) 3) = 0 := hq0
    have hi1 : wrap64 (Int.tmod (IntKind.u64.wrap x1) (names.length : Int)) = (i : Int) := hi0
    clear hq0 hi0 hq3
    go_enter Try.func5, Try.ntmps5
    go_wp2_with (first
      | (go_at_call 10; refine HL.out.mono ?_; rintro e wl ⟨rfl, hb⟩; have HB1 := Aside0.mk hb; clear hb)
      | (go_at_call 11; refine (HG.out wl HB1.out).mono ?_; rintro e w2 ⟨v2, rfl, hr, hb⟩; obtain ⟨A2, n2, rfl⟩ := Kd.R_slice hr; obtain ⟨ad2, had2, hx2⟩ := Kd.at_string (Kd.R_reads' hr).2.2 (i : Int) hI0 hIl; subst had2; rw [show rdOf ByteArray.empty names (i : Int) = nm by (unfold rdOf; rw [Int.toNat_natCast, List.getD_eq_getElem?_getD, HNM.out]; rfl), Int.toNat_natCast] at hx2; have HB2 := Aside0.mk (below_step HB1.out hb); have HR2 := Aside0.mk hr; clear hb hr)
      | (go_at_call 12; refine (HN.out w2 HB2.out).mono ?_; rintro e w3 ⟨g, rfl, hi, hb, hb2⟩; have K3 := Aside0.mk hi; have B3 := Aside0.mk hb; have HR3 := Aside0.mk (Kd.R_below HR2.out hb2); clear hi hb hb2 HR2)
      | (go_at_call 13; refine (HRES.out g w3 K3.out B3.out _ _ _ HR3.out).mono ?_; rintro e w4 ⟨v1, v2, rfl, hr1, hr2, hi, hb, _⟩; have K4 := Aside0.mk hi; have B4 := Aside0.mk hb; clear hi hb HRES K3 B3 hr1 hr2)
      | (go_at_call 16; refine (HD1.out g w4 K4.out B4.out).mono ?_; rintro e w5 ⟨rfl, hi, hb, hk⟩; have K5 := Aside0.mk hi; have B5 := Aside0.mk hb; clear hi hb hk; clear HD1 K4 B4)
      | (go_at_call 16; refine (HD2.out g w5 K5.out B5.out).mono ?_; rintro e w6 ⟨rfl, hi, hb, hk⟩; have K6 := Aside0.mk hi; have B6 := Aside0.mk hb; clear hi hb hk; clear HD2 K5 B5)
      | (go_at_call 17; refine (HA1.out g w6 K6.out).mono ?_; rintro e w7 ⟨rfl, hb⟩; have K7 := Aside0.mk (K6.out.below hb); have B7 := Aside0.mk (below_step B6.out hb); clear hb; clear HA1 K6 B6)
      | (go_at_call 24; refine (HUa.out g w7 K7.out B7.out).mono ?_; rintro e w8 ⟨rfl, hi, hb, hk⟩; have K8 := Aside0.mk hi; have B8 := Aside0.mk hb; clear hi hb hk; clear HUa K7 B7)
      | (go_at_call 20; refine (HST.out g w8 K8.out).mono ?_; rintro e w9 ⟨rfl, hb⟩; have K9 := Aside0.mk (K8.out.below hb); have B9 := Aside0.mk (below_step B8.out hb); clear hb; clear HST K8 B8)
      | (go_at_call 22; refine (HDU.out g w9 K9.out).mono ?_; rintro e w10 ⟨vd9, rfl, hr, hb⟩; obtain ⟨Ad9, nd9, rfl⟩ := Kd.R_slice hr; have K10 := Aside0.mk (K9.out.below hb); have B10 := Aside0.mk (below_step B9.out hb); clear hb hr; clear HDU K9 B9)
      | (go_at_call 17; refine (HA2.out g w10 K10.out).mono ?_; rintro e w11 ⟨rfl, hb⟩; have K11 := Aside0.mk (K10.out.below hb); have B11 := Aside0.mk (below_step B10.out hb); clear hb; clear HA2 K10 B10)
      | (go_at_call 15; refine (HCA.out g w11 K11.out).mono ?_; rintro e w12 ⟨rfl, hb⟩; have K12 := Aside0.mk (K11.out.below hb); have B12 := Aside0.mk (below_step B11.out hb); clear hb; clear HCA K11 B11)
      | (go_at_call 14; refine (HAD2.out g w12 K12.out B12.out).mono ?_; rintro e w13 ⟨va12, rfl, hr, hi, hb, hk⟩; obtain ⟨Aa12, na12, rfl⟩ := Kd.R_slice hr; have K13 := Aside0.mk hi; have B13 := Aside0.mk hb; clear hi hb hk hr; clear HAD2 K12 B12)
      | (go_at_call 24; refine (HU2.out g w13 K13.out B13.out).mono ?_; rintro e w14 ⟨rfl, hi, hb, hk⟩; have K14 := Aside0.mk hi; have B14 := Aside0.mk hb; clear hi hb hk; clear HU2 K13 B13))
    go_ret
    exact ⟨rfl, B14.out⟩
  · have hq : wrap64 (Int.tmod (IntKind.u64.wrap a2) 3) = 1 := hq0
    have hi1 : wrap64 (Int.tmod (IntKind.u64.wrap x1) (names.length : Int)) = (i : Int) := hi0
    clear hq0 hi0 hq3
    go_enter Try.func5, Try.ntmps5
    go_wp2_with (first
      | (go_at_call 10; refine HL.out.mono ?_; rintro e wl ⟨rfl, hb⟩; have HB1 := Aside0.mk hb; clear hb)
      | (go_at_call 11; refine (HG.out wl HB1.out).mono ?_; rintro e w2 ⟨v2, rfl, hr, hb⟩; obtain ⟨A2, n2, rfl⟩ := Kd.R_slice hr; obtain ⟨ad2, had2, hx2⟩ := Kd.at_string (Kd.R_reads' hr).2.2 (i : Int) hI0 hIl; subst had2; rw [show rdOf ByteArray.empty names (i : Int) = nm by (unfold rdOf; rw [Int.toNat_natCast, List.getD_eq_getElem?_getD, HNM.out]; rfl), Int.toNat_natCast] at hx2; have HB2 := Aside0.mk (below_step HB1.out hb); have HR2 := Aside0.mk hr; clear hb hr)
      | (go_at_call 12; refine (HN.out w2 HB2.out).mono ?_; rintro e w3 ⟨g, rfl, hi, hb, hb2⟩; have K3 := Aside0.mk hi; have B3 := Aside0.mk hb; have HR3 := Aside0.mk (Kd.R_below HR2.out hb2); clear hi hb hb2 HR2)
      | (go_at_call 13; refine (HRES.out g w3 K3.out B3.out _ _ _ HR3.out).mono ?_; rintro e w4 ⟨v1, v2, rfl, hr1, hr2, hi, hb, _⟩; have K4 := Aside0.mk hi; have B4 := Aside0.mk hb; clear hi hb HRES K3 B3 hr1 hr2)
      | (go_at_call 16; refine (HD1.out g w4 K4.out B4.out).mono ?_; rintro e w5 ⟨rfl, hi, hb, hk⟩; have K5 := Aside0.mk hi; have B5 := Aside0.mk hb; clear hi hb hk; clear HD1 K4 B4)
      | (go_at_call 16; refine (HD2.out g w5 K5.out B5.out).mono ?_; rintro e w6 ⟨rfl, hi, hb, hk⟩; have K6 := Aside0.mk hi; have B6 := Aside0.mk hb; clear hi hb hk; clear HD2 K5 B5)
      | (go_at_call 17; refine (HA1.out g w6 K6.out).mono ?_; rintro e w7 ⟨rfl, hb⟩; have K7 := Aside0.mk (K6.out.below hb); have B7 := Aside0.mk (below_step B6.out hb); clear hb; clear HA1 K6 B6)
      | (go_at_call 14; refine (HAD1.out g w7 K7.out B7.out).mono ?_; rintro e w8 ⟨va7, rfl, hr, hi, hb, hk⟩; obtain ⟨Aa7, na7, rfl⟩ := Kd.R_slice hr; have K8 := Aside0.mk hi; have B8 := Aside0.mk hb; clear hi hb hk hr; clear HAD1 K7 B7)
      | (go_at_call 24; refine (HUb.out g w8 K8.out B8.out).mono ?_; rintro e w9 ⟨rfl, hi, hb, hk⟩; have K9 := Aside0.mk hi; have B9 := Aside0.mk hb; clear hi hb hk; clear HUb K8 B8)
      | (go_at_call 20; refine (HST.out g w9 K9.out).mono ?_; rintro e w10 ⟨rfl, hb⟩; have K10 := Aside0.mk (K9.out.below hb); have B10 := Aside0.mk (below_step B9.out hb); clear hb; clear HST K9 B9)
      | (go_at_call 22; refine (HDU.out g w10 K10.out).mono ?_; rintro e w11 ⟨vd10, rfl, hr, hb⟩; obtain ⟨Ad10, nd10, rfl⟩ := Kd.R_slice hr; have K11 := Aside0.mk (K10.out.below hb); have B11 := Aside0.mk (below_step B10.out hb); clear hb hr; clear HDU K10 B10)
      | (go_at_call 17; refine (HA2.out g w11 K11.out).mono ?_; rintro e w12 ⟨rfl, hb⟩; have K12 := Aside0.mk (K11.out.below hb); have B12 := Aside0.mk (below_step B11.out hb); clear hb; clear HA2 K11 B11)
      | (go_at_call 15; refine (HCA.out g w12 K12.out).mono ?_; rintro e w13 ⟨rfl, hb⟩; have K13 := Aside0.mk (K12.out.below hb); have B13 := Aside0.mk (below_step B12.out hb); clear hb; clear HCA K12 B12)
      | (go_at_call 14; refine (HAD2.out g w13 K13.out B13.out).mono ?_; rintro e w14 ⟨va13, rfl, hr, hi, hb, hk⟩; obtain ⟨Aa13, na13, rfl⟩ := Kd.R_slice hr; have K14 := Aside0.mk hi; have B14 := Aside0.mk hb; clear hi hb hk hr; clear HAD2 K13 B13)
      | (go_at_call 24; refine (HU2.out g w14 K14.out B14.out).mono ?_; rintro e w15 ⟨rfl, hi, hb, hk⟩; have K15 := Aside0.mk hi; have B15 := Aside0.mk hb; clear hi hb hk; clear HU2 K14 B14))
    go_ret
    exact ⟨rfl, B15.out⟩
  · have hq : wrap64 (Int.tmod (IntKind.u64.wrap a2) 3) = 2 := hq0
    have hi1 : wrap64 (Int.tmod (IntKind.u64.wrap x1) (names.length : Int)) = (i : Int) := hi0
    clear hq0 hi0 hq3
    go_enter Try.func5, Try.ntmps5
    go_wp2_with (first
      | (go_at_call 10; refine HL.out.mono ?_; rintro e wl ⟨rfl, hb⟩; have HB1 := Aside0.mk hb; clear hb)
      | (go_at_call 11; refine (HG.out wl HB1.out).mono ?_; rintro e w2 ⟨v2, rfl, hr, hb⟩; obtain ⟨A2, n2, rfl⟩ := Kd.R_slice hr; obtain ⟨ad2, had2, hx2⟩ := Kd.at_string (Kd.R_reads' hr).2.2 (i : Int) hI0 hIl; subst had2; rw [show rdOf ByteArray.empty names (i : Int) = nm by (unfold rdOf; rw [Int.toNat_natCast, List.getD_eq_getElem?_getD, HNM.out]; rfl), Int.toNat_natCast] at hx2; have HB2 := Aside0.mk (below_step HB1.out hb); have HR2 := Aside0.mk hr; clear hb hr)
      | (go_at_call 12; refine (HN.out w2 HB2.out).mono ?_; rintro e w3 ⟨g, rfl, hi, hb, hb2⟩; have K3 := Aside0.mk hi; have B3 := Aside0.mk hb; have HR3 := Aside0.mk (Kd.R_below HR2.out hb2); clear hi hb hb2 HR2)
      | (go_at_call 13; refine (HRES.out g w3 K3.out B3.out _ _ _ HR3.out).mono ?_; rintro e w4 ⟨v1, v2, rfl, hr1, hr2, hi, hb, _⟩; have K4 := Aside0.mk hi; have B4 := Aside0.mk hb; clear hi hb HRES K3 B3 hr1 hr2)
      | (go_at_call 16; refine (HD1.out g w4 K4.out B4.out).mono ?_; rintro e w5 ⟨rfl, hi, hb, hk⟩; have K5 := Aside0.mk hi; have B5 := Aside0.mk hb; clear hi hb hk; clear HD1 K4 B4)
      | (go_at_call 16; refine (HD2.out g w5 K5.out B5.out).mono ?_; rintro e w6 ⟨rfl, hi, hb, hk⟩; have K6 := Aside0.mk hi; have B6 := Aside0.mk hb; clear hi hb hk; clear HD2 K5 B5)
      | (go_at_call 17; refine (HA1.out g w6 K6.out).mono ?_; rintro e w7 ⟨rfl, hb⟩; have K7 := Aside0.mk (K6.out.below hb); have B7 := Aside0.mk (below_step B6.out hb); clear hb; clear HA1 K6 B6)
      | (go_at_call 14; refine (HAD1.out g w7 K7.out B7.out).mono ?_; rintro e w8 ⟨va7, rfl, hr, hi, hb, hk⟩; obtain ⟨Aa7, na7, rfl⟩ := Kd.R_slice hr; have K8 := Aside0.mk hi; have B8 := Aside0.mk hb; clear hi hb hk hr; clear HAD1 K7 B7)
      | (go_at_call 23; refine (HEM.out g w8 K8.out B8.out).mono ?_; rintro e w9 ⟨rfl, hi, hb, hk⟩; have K9 := Aside0.mk hi; have B9 := Aside0.mk hb; clear hi hb hk; clear HEM K8 B8)
      | (go_at_call 24; refine (HUc.out g w9 K9.out B9.out).mono ?_; rintro e w10 ⟨rfl, hi, hb, hk⟩; have K10 := Aside0.mk hi; have B10 := Aside0.mk hb; clear hi hb hk; clear HUc K9 B9)
      | (go_at_call 20; refine (HST.out g w10 K10.out).mono ?_; rintro e w11 ⟨rfl, hb⟩; have K11 := Aside0.mk (K10.out.below hb); have B11 := Aside0.mk (below_step B10.out hb); clear hb; clear HST K10 B10)
      | (go_at_call 22; refine (HDU.out g w11 K11.out).mono ?_; rintro e w12 ⟨vd11, rfl, hr, hb⟩; obtain ⟨Ad11, nd11, rfl⟩ := Kd.R_slice hr; have K12 := Aside0.mk (K11.out.below hb); have B12 := Aside0.mk (below_step B11.out hb); clear hb hr; clear HDU K11 B11)
      | (go_at_call 17; refine (HA2.out g w12 K12.out).mono ?_; rintro e w13 ⟨rfl, hb⟩; have K13 := Aside0.mk (K12.out.below hb); have B13 := Aside0.mk (below_step B12.out hb); clear hb; clear HA2 K12 B12)
      | (go_at_call 15; refine (HCA.out g w13 K13.out).mono ?_; rintro e w14 ⟨rfl, hb⟩; have K14 := Aside0.mk (K13.out.below hb); have B14 := Aside0.mk (below_step B13.out hb); clear hb; clear HCA K13 B13)
      | (go_at_call 14; refine (HAD2.out g w14 K14.out B14.out).mono ?_; rintro e w15 ⟨va14, rfl, hr, hi, hb, hk⟩; obtain ⟨Aa14, na14, rfl⟩ := Kd.R_slice hr; have K15 := Aside0.mk hi; have B15 := Aside0.mk hb; clear hi hb hk hr; clear HAD2 K14 B14)
      | (go_at_call 24; refine (HU2.out g w15 K15.out B15.out).mono ?_; rintro e w16 ⟨rfl, hi, hb, hk⟩; have K16 := Aside0.mk hi; have B16 := Aside0.mk hb; clear hi hb hk; clear HU2 K15 B15))
    go_ret
    exact ⟨rfl, B16.out⟩
theorem undrains_law (A : Option Addr) (c : Nat) (l : List Int) (a1 a2 : Int) (w : World) (hC : Kd.C (Kd.int .i64) w A l.length l) (hc : l.length ≤ c) (_ : ∀ x ∈ l, (Lit.int .i64 x).wf = true) (_ : (Lit.int .i64 a1).wf = true) (_ : (Lit.int .i64 a2).wf = true) :
    Calls Try.prog 5 #[.slice A l.length c, .int .i64 a1, .int .i64 a2] w fun e w' => e = .returned (.bool true) ∧ Below w.heap.size w w' := undrains_calls A c l a1 a2 w hC hc
end Go.Proofs.Ytmlmiocomlehgaa.Man
