/-
  The fleet: contracts of its functions, proved by walking them, and plain facts, several texts in one (Gd, Pu, Lf). Conditions: none.
-/
import Derived.Test.YtmlmiocomlehgaaB7
import Derived.Test.YtmlmiocomlehgaaPAx2
set_option linter.unusedVariables false
set_option linter.unusedSimpArgs false
set_option linter.unusedSectionVars false
namespace Go.Proofs.Ytmlmiocomlehgaa.Man
open Go.RowKit Go.Proofs.YtmlmiocomlehgaaW.PrintWords Go.Proofs.YtmlmiocomlehgaaW.PrintLast Go.Proofs.YtmlmiocomlehgaaW.PrintMore Go.Proofs.Ytmlmiocomlehgaa.PA Go.Proofs.Ytmlmiocomlehgaa.PF Go.Proofs.Ytmlmiocomlehgaa.Hid Go.Proofs.Ytmlmiocomlehgaa.Na Go.Proofs.Ytmlmiocomlehgaa.Nil
/-- The six names. -/
def H6 : List ByteArray := [(⟨#[104, 48]⟩ : ByteArray), (⟨#[104, 49]⟩ : ByteArray), (⟨#[104, 50]⟩ : ByteArray), (⟨#[104, 51]⟩ : ByteArray), (⟨#[104, 52]⟩ : ByteArray), (⟨#[104, 53]⟩ : ByteArray)]
/-- Names that differ, of the six. -/
def Goods (r : List ByteArray) : Prop := r.Nodup ∧ r ⊆ H6
theorem Goods.len {r : List ByteArray} (h : Goods r) : r.length ≤ 6 := List.Nodup.length_le_of_subset h.1 h.2
theorem has_le (x : ByteArray) (l : List ByteArray) (hm : l.length ≤ 6) (k : Nat) (hk : 7 ≤ k) : hostlerref09_Has.f k l x = some (hasB x l) := by
  obtain ⟨j, rfl⟩ : ∃ j, k = l.length + 1 + j := ⟨k - (l.length + 1), by omega⟩
  induction j with
  | zero => exact has_some x l (by omega)
  | succ j ih =>
    by_cases c : 7 ≤ l.length + 1 + j
    · exact hostlerref09_Has.mono _ _ _ _ (ih c)
    · clear ih
      have h1 : ∀ j, hostlerref09_Has.f (l.length + 1 + j) l x = some (hasB x l) := by
        intro j
        induction j with
        | zero => exact has_some x l (by omega)
        | succ j ih => exact hostlerref09_Has.mono _ _ _ _ ih
      exact h1 (j + 1)
theorem good_loop (l : List Int) (hm : l.length ≤ 9223372036854775807) (d : Nat) : ∀ (k j : Nat) (acc : List ByteArray), j ≤ l.length → l.length - j = d → d + 8 ≤ k → Goods acc → ∃ r, hostlerref09_Good.l0 k l acc H6 (j : Int) = some r ∧ Goods r := by
  induction d with
  | zero =>
    intro k j acc hj hd hk hg
    obtain ⟨k, rfl⟩ : ∃ k', k = k' + 1 := ⟨k - 1, by omega⟩
    refine ⟨acc, ?_, hg⟩
    simp only [hostlerref09_Good.l0]
    rw [if_neg (by omega)]
  | succ d ih =>
    intro k j acc hj hd hk hg
    obtain ⟨k, rfl⟩ : ∃ k', k = k' + 1 := ⟨k - 1, by omega⟩
    simp only [hostlerref09_Good.l0]
    rw [if_pos (by omega), if_pos (by omega)]
    obtain ⟨q, hq, hq6⟩ := mod_n (rd l (j : Int)) 6 (by decide) (by decide)
    have hq' : wrap64 (Int.tmod (IntKind.u64.wrap (rd l (j : Int))) 6) = (q : Int) := hq
    rw [hq', if_pos (by omega), if_pos (show (q : Int) < (H6.length : Int) by show (q : Int) < 6; omega)]
    have hw : wrap64 ((j : Int) + 1) = ((j + 1 : Nat) : Int) := by unfold wrap64; omega
    rw [has_le _ _ hg.len k (by omega), hw]
    simp only [Option.bind_some]
    have hin : rdOf ByteArray.empty H6 (q : Int) ∈ H6 := by
      unfold rdOf
      rw [Int.toNat_natCast, List.getD_eq_getElem?_getD, List.getElem?_eq_getElem (show q < H6.length from hq6)]
      exact List.getElem_mem _
    generalize rdOf ByteArray.empty H6 (q : Int) = nm at hin
    by_cases c : nm ∈ acc
    · rw [(hasB_iff nm acc).2 c, if_pos rfl]
      exact ih k (j + 1) acc (by omega) (by omega) (by omega) hg
    · rw [hasB_no nm acc c, if_neg (by decide), if_pos (by have := hg.len; omega)]
      refine ih k (j + 1) (acc ++ [nm]) (by omega) (by omega) (by omega) ⟨?_, ?_⟩
      · rw [List.nodup_append]
        refine ⟨hg.1, by simp, fun a ha b hb => ?_⟩
        rw [List.mem_singleton.1 hb]
        rintro rfl
        exact c ha
      · intro a ha
        rcases List.mem_append.1 ha with ha | ha
        · exact hg.2 ha
        · rw [List.mem_singleton.1 ha]
          exact hin
theorem good_raw (l : List Int) (A : Option Addr) (c : Nat) (w : World) (hC : Kd.C (Kd.int .i64) w A l.length l) (hc : l.length ≤ c) :
    ∃ r, Goods r ∧ Calls Try.prog 11 #[.slice A l.length c] w fun e w' => ∃ v0_ : Value, e = .returned v0_ ∧ Kd.R Kd.string 9 w' w.heap.size (fun _ => True) v0_ r ∧ Below w.heap.size w w' := by
  obtain ⟨r, h1, h2⟩ := good_loop l hC.2.1 l.length (l.length + 8) 0 [] (Nat.zero_le _) rfl (Nat.le_refl _) ⟨List.nodup_nil, by simp⟩
  exact ⟨r, h2, hostlerref09_Good.calls (l.length + 8) A c l r w hC hc h1⟩
theorem h6_ok {x : ByteArray} (h : x ∈ H6) : nameB x = true ∧ x.size ≤ maxLen := by
  have : ∀ x ∈ H6, nameB x = true ∧ x.size ≤ maxLen := by decide
  exact this x h
theorem Goods.check {r : List ByteArray} (h : Goods r) : checkE r = 0 := by
  unfold checkE
  have := h.len
  rw [if_neg (by omega), if_neg, if_pos (nodupB_iff.2 h.1)]
  have : r.all nameB = true := List.all_eq_true.2 (fun x hx => (h6_ok (h.2 hx)).1)
  rw [this]
  decide
theorem look_mem {hs : List HV} {nm : ByteArray} (h : nm ∉ hs.map (·.nm)) : lookH hs nm = none := by
  rcases posH_bd hs nm with ⟨h1, _⟩ | ⟨i, x, h1, h2, h3⟩
  · exact look_none h1
  · exact absurd (List.mem_map.2 ⟨x, List.mem_of_getElem? h2, h3⟩) h
theorem look_at {hs : List HV} (hn : (hs.map (·.nm)).Nodup) {i : Nat} {x : HV} (hx : hs[i]? = some x) : lookH hs x.nm = some x := look_some (posH_of hn hx) hx
def freshH (l : List ByteArray) : List HV := l.map (fun nm => ⟨nm, 0, false⟩)
theorem fresh_nm (l : List ByteArray) : (freshH l).map (·.nm) = l := by simp [freshH, Function.comp_def]
/-- Names that aren't there come. -/
theorem came_fresh : ∀ (l : List ByteArray) (s : FS), l.Nodup → (∀ x ∈ l, x ∉ s.hs.map (·.nm)) → cameL l s = ({ s with hs := s.hs ++ freshH l }, l)
  | [], s, _, _ => by simp [cameL, freshH]
  | nm :: l, s, hn, hd => by
    unfold cameL
    obtain ⟨h1, h2⟩ := List.nodup_cons.1 hn
    rw [look_mem (hd nm (by simp))]
    dsimp only
    rw [came_fresh l { s with hs := s.hs ++ [⟨nm, 0, false⟩] } h2 (fun x hx hm => by
      simp only [List.map_append, List.map_cons, List.map_nil, List.mem_append, List.mem_singleton] at hm
      rcases hm with hm | hm
      · exact hd x (by simp [hx]) hm
      · exact h1 (hm ▸ hx))]
    simp [freshH]
/-- A fleet resolved for the first time. -/
theorem resolve_first (each guard : Int) {r : List ByteArray} (h : Goods r) (dl : Int) : resolveF ⟨each, guard, [], ⟨[]⟩⟩ r dl = ((r, [], 0), ⟨each, guard, freshH r, ⟨[]⟩⟩) := by
  unfold resolveF
  rw [if_pos h.check]
  have : leftL r dl ([] : List HV) ⟨each, guard, [], ⟨[]⟩⟩ = (⟨each, guard, [], ⟨[]⟩⟩, []) := rfl
  rw [this]
  dsimp only
  rw [came_fresh r ⟨each, guard, [], ⟨[]⟩⟩ h.1 (by simp)]
  rfl
end Go.Proofs.Ytmlmiocomlehgaa.Man
namespace Go.Proofs.Ytmlmiocomlehgaa.Man
open Go.RowKit Go.Proofs.YtmlmiocomlehgaaW.PrintWords Go.Proofs.YtmlmiocomlehgaaW.PrintLast Go.Proofs.YtmlmiocomlehgaaW.PrintMore Go.Proofs.Ytmlmiocomlehgaa.PA Go.Proofs.Ytmlmiocomlehgaa.PF Go.Proofs.Ytmlmiocomlehgaa.Hid Go.Proofs.Ytmlmiocomlehgaa.Na Go.Proofs.Ytmlmiocomlehgaa.Nil
theorem place_nil (nm : ByteArray) (j : Int) : placeOf [] nm j = -1 := rfl
theorem place_one (nm : ByteArray) (a : Int) (b : Bool) : placeOf [⟨nm, a, b⟩] nm 0 = 0 := by simp [placeOf]
theorem end_nil (nm : ByteArray) : endF ⟨[]⟩ nm = ⟨[]⟩ := by simp [endF, endRow, placeOf]
theorem end_one (nm : ByteArray) (a : Int) (b : Bool) : endF ⟨[⟨nm, a, b⟩]⟩ nm = ⟨[]⟩ := by simp [endF, endRow, place_one]
theorem ask_nil {nm : ByteArray} (h : nameB nm = true) : askF ⟨[]⟩ nm = (0, ⟨[⟨nm, 0, false⟩]⟩) := by
  unfold askF
  rw [if_pos h, if_pos (by rw [place_nil]; decide), if_pos (by decide)]
  rfl
theorem ask_one {nm : ByteArray} (h : nameB nm = true) (a : Int) (b : Bool) : askF ⟨[⟨nm, a, b⟩]⟩ nm = (6, ⟨[⟨nm, a, b⟩]⟩) := by
  unfold askF
  rw [if_pos h, if_neg (by rw [place_one]; decide)]
def clampN (n : Int) : Int := mn (mx n 0) 1099511627776
theorem begin_nil {nm : ByteArray} (h : nameB nm = true) (dl : Int) : beginF ⟨[]⟩ nm dl = (0, ⟨[⟨nm, clampN dl, true⟩]⟩) := by
  unfold beginF
  rw [if_pos h, if_pos (by rw [place_nil]; decide)]
  rfl
theorem idx_nil (nm : ByteArray) (j : Int) : idxOf [] nm j = -1 := rfl
theorem idx_one (nm : ByteArray) : idxOf [nm] nm 0 = 0 := by simp [idxOf]
theorem names_wait (nm : ByteArray) (a : Int) : namesOf [⟨nm, a, false⟩] false = [nm] := rfl
theorem names_under (nm : ByteArray) (a : Int) : namesOf [⟨nm, a, true⟩] false = [] := rfl
theorem due_none (now : Int) : dueOf ⟨[]⟩ now = [] := rfl
theorem past_self (now : Int) : pastB now (clampN now) = true := by
  unfold pastB clampN cutT mn mx
  refine decide_eq_true ?_
  (repeat' split) <;> omega
theorem due_one (nm : ByteArray) (now : Int) : dueOf ⟨[⟨nm, clampN now, true⟩]⟩ now = [nm] := by
  have hd : deadOf ⟨[⟨nm, clampN now, true⟩]⟩ nm = (clampN now, true) := dead_of (b := 1) ⟨by simp, by simp, by simp [namesOf]⟩ (x := ⟨nm, clampN now, true⟩) (by simp)
  unfold dueOf
  show List.filter _ [nm] = [nm]
  rw [List.filter_cons, hd, if_pos (past_self now)]
  rfl
section
variable {s : FS} {i : Nat} {x : HV} (hn : (s.hs.map (·.nm)).Nodup) (hx : s.hs[i]? = some x) (hb : nameB x.nm = true)
include hn hx
theorem state_at : stateV s x.nm = (x.st, true) := by unfold stateV; rw [look_at hn hx]
theorem leaves_at : leavesV s x.nm = x.lv := by unfold leavesV; rw [look_at hn hx]
theorem setH_i (y : HV) : setH s.hs x.nm y = s.hs.set i y := setH_at (posH_of hn hx) y
theorem delH_i : delH s.hs x.nm = s.hs.eraseIdx i := delH_at (posH_of hn hx)
theorem empty_yes (h : nextB x.st 4 = true) (hl : x.lv = false) : emptyF s x.nm = (true, { s with hs := s.hs.set i (evH x 4), ds := endF s.ds x.nm }) := by
  unfold emptyF
  rw [look_at hn hx]
  simp only [h, if_true, hl, Bool.false_eq_true, if_false]
  rw [setH_i hn hx]
theorem empty_gone (h : nextB x.st 4 = true) (hl : x.lv = true) : emptyF s x.nm = (true, { s with hs := s.hs.eraseIdx i, ds := endF s.ds x.nm }) := by
  unfold emptyF
  rw [look_at hn hx]
  simp only [h, if_true, hl]
  rw [delH_i hn hx]
include hb
theorem known_at : knownE s x.nm = 0 := by
  unfold knownE
  rw [if_pos hb, posH_of hn hx, if_neg (by omega)]
theorem drain_yes (h1 : x.st = 0) : drainF s x.nm = ((askF s.ds x.nm).1, { s with ds := (askF s.ds x.nm).2 }) := by
  unfold drainF
  rw [if_pos (known_at hn hx hb), look_at hn hx]
  dsimp only
  rw [if_neg (by omega)]
theorem drain_no (h1 : x.st = 1 ∨ x.st = 3) : drainF s x.nm = (8, s) := by
  unfold drainF
  rw [if_pos (known_at hn hx hb), look_at hn hx]
  dsimp only
  rw [if_pos h1]
theorem undrain_wait (hl : x.lv = false) (h : 0 ≤ idxOf (namesOf s.ds.row false) x.nm 0) : undrainF s x.nm = (0, { s with ds := endF s.ds x.nm }) := by
  unfold undrainF
  rw [if_pos (known_at hn hx hb), look_at hn hx]
  dsimp only
  rw [hl, if_neg (by decide), if_neg (by omega)]
theorem undrain_back (hl : x.lv = false) (h : idxOf (namesOf s.ds.row false) x.nm 0 < 0) (he : nextB x.st 1 = true) : undrainF s x.nm = (0, { s with hs := s.hs.set i (evH x 1), ds := endF s.ds x.nm }) := by
  unfold undrainF
  rw [if_pos (known_at hn hx hb), look_at hn hx]
  dsimp only
  rw [hl, if_neg (by decide), if_pos h, if_pos he, setH_i hn hx]
theorem undrain_no (hl : x.lv = false) (h : idxOf (namesOf s.ds.row false) x.nm 0 < 0) (he : nextB x.st 1 = false) : undrainF s x.nm = (8, s) := by
  unfold undrainF
  rw [if_pos (known_at hn hx hb), look_at hn hx]
  dsimp only
  rw [hl, if_neg (by decide), if_pos h, he, if_neg (by decide)]
theorem force_yes (h : x.st ≠ 3) (now : Int) : forceF s x.nm now = ((beginF (endF s.ds x.nm) x.nm now).1, { s with hs := s.hs.set i (evH x 0), ds := (beginF (endF s.ds x.nm) x.nm now).2 }) := by
  unfold forceF
  rw [if_pos (known_at hn hx hb), look_at hn hx]
  dsimp only
  rw [if_neg h, setH_i hn hx]
theorem force_no (h : x.st = 3) (now : Int) : forceF s x.nm now = (8, s) := by
  unfold forceF
  rw [if_pos (known_at hn hx hb), look_at hn hx]
  dsimp only
  rw [if_pos h]
theorem eject_no (h : x.st ≠ 0) : ejectF s x.nm = (8, s) := by
  unfold ejectF
  rw [if_pos (known_at hn hx hb), look_at hn hx]
  dsimp only
  rw [if_neg h]
end
end Go.Proofs.Ytmlmiocomlehgaa.Man
namespace Go.Proofs.Ytmlmiocomlehgaa.Man
open Go.RowKit Go.Proofs.YtmlmiocomlehgaaW.PrintWords Go.Proofs.YtmlmiocomlehgaaW.PrintLast Go.Proofs.YtmlmiocomlehgaaW.PrintMore Go.Proofs.Ytmlmiocomlehgaa.PA Go.Proofs.Ytmlmiocomlehgaa.PF Go.Proofs.Ytmlmiocomlehgaa.Hid Go.Proofs.Ytmlmiocomlehgaa.Na Go.Proofs.Ytmlmiocomlehgaa.Nil
def retH (l : List ByteArray) : List HV := l.map (fun nm => ⟨nm, 3, false⟩)
theorem ret_nm (l : List ByteArray) : (retH l).map (·.nm) = l := by simp [retH, Function.comp_def]
/-- Those ahead are retired, one is in some state, those behind are active. -/
def fS (gu : Int) (p q : List ByteArray) (nm : ByteArray) (st : Int) (d : List S88) : FS := ⟨1, gu, retH p ++ ⟨nm, st, false⟩ :: freshH q, ⟨d⟩⟩
def eS (gu : Int) (p q : List ByteArray) : FS := ⟨1, gu, retH p ++ freshH q, ⟨[]⟩⟩
section
variable {gu : Int} {p q : List ByteArray} {nm : ByteArray} (hg : Goods (p ++ nm :: q))
include hg
theorem fS_nm (st : Int) (d : List S88) : (fS gu p q nm st d).hs.map (·.nm) = p ++ nm :: q := by
  show (retH p ++ ⟨nm, st, false⟩ :: freshH q).map (·.nm) = _
  rw [List.map_append, List.map_cons, ret_nm, fresh_nm]
theorem fS_nd (st : Int) (d : List S88) : ((fS gu p q nm st d).hs.map (·.nm)).Nodup := by rw [fS_nm hg]; exact hg.1
theorem fS_at (st : Int) (d : List S88) : (fS gu p q nm st d).hs[p.length]? = some ⟨nm, st, false⟩ := by
  show (retH p ++ ⟨nm, st, false⟩ :: freshH q)[p.length]? = _
  rw [List.getElem?_append_right (by simp [retH])]
  simp [retH]
theorem fS_nb : nameB nm = true := (h6_ok (hg.2 (by simp))).1
theorem fS_set (st st' : Int) (d d' : List S88) : ({ fS gu p q nm st d with hs := (fS gu p q nm st d).hs.set p.length ⟨nm, st', false⟩, ds := ⟨d'⟩ } : FS) = fS gu p q nm st' d' := by
  unfold fS
  simp [retH, List.set_append]
theorem fS_len : p.length + q.length ≤ 5 := by
  have := hg.len
  simp at this
  omega
theorem fS_inv (st : Int) : FInv (fS gu p q nm st []) 1 := by
  refine ⟨?_, ⟨⟨List.nodup_nil, Nat.zero_le _, Nat.zero_le _⟩, fun x hx => by cases hx⟩⟩
  have := fS_len hg
  simp [fS, retH, freshH]
  omega
theorem fS_inv1 (st a : Int) : FInv (fS gu p q nm st [⟨nm, a, true⟩]) 1 := by
  refine ⟨?_, ⟨⟨by simp [fS], by simp [fS], by simp [fS, namesOf]⟩, fun x hx => ?_⟩⟩
  · have := fS_len hg
    simp [fS, retH, freshH]
    omega
  · have : x = ⟨nm, a, true⟩ := by simpa [fS] using hx
    rw [this]
    exact nameB_ne (fS_nb hg)
theorem f1 (now : Int) : forceF (fS gu p q nm 0 []) nm now = (0, fS gu p q nm 1 [⟨nm, clampN now, true⟩]) := by
  rw [force_yes (x := ⟨nm, 0, false⟩) (fS_nd hg 0 _) (fS_at hg 0 _) (fS_nb hg) (by show (0 : Int) ≠ 3; decide)]
  rw [show endF (fS gu p q nm 0 []).ds nm = ⟨[]⟩ from end_nil nm, begin_nil (fS_nb hg)]
  exact congrArg _ (fS_set hg 0 1 _ _)
theorem f4 (now : Int) : undrainF (fS gu p q nm 1 [⟨nm, clampN now, true⟩]) nm = (0, fS gu p q nm 0 []) := by
  rw [undrain_back (x := ⟨nm, 1, false⟩) (fS_nd hg 1 _) (fS_at hg 1 _) (fS_nb hg) rfl (by rw [show namesOf (fS gu p q nm 1 [⟨nm, clampN now, true⟩]).ds.row false = [] from rfl, idx_nil]; decide) (show nextB 1 1 = true by decide)]
  rw [show endF (fS gu p q nm 1 [⟨nm, clampN now, true⟩]).ds nm = ⟨[]⟩ from end_one nm _ true]
  exact congrArg _ (fS_set hg 1 0 _ _)
theorem f6 : undrainF (fS gu p q nm 0 []) nm = (8, fS gu p q nm 0 []) :=
  undrain_no (x := ⟨nm, 0, false⟩) (fS_nd hg 0 _) (fS_at hg 0 _) (fS_nb hg) rfl (by rw [show namesOf (fS gu p q nm 0 []).ds.row false = [] from rfl, idx_nil]; decide) (show nextB 0 1 = false by decide)
theorem f9 (now : Int) : emptyF (fS gu p q nm 1 [⟨nm, clampN now, true⟩]) nm = (true, fS gu p q nm 3 []) := by
  rw [empty_yes (x := ⟨nm, 1, false⟩) (fS_nd hg 1 _) (fS_at hg 1 _) (show nextB 1 4 = true by decide) rfl]
  rw [show endF (fS gu p q nm 1 [⟨nm, clampN now, true⟩]).ds nm = ⟨[]⟩ from end_one nm _ true]
  exact congrArg _ (fS_set hg 1 3 _ _)
theorem f_state (st : Int) (d : List S88) : stateV (fS gu p q nm st d) nm = (st, true) := state_at (x := ⟨nm, st, false⟩) (fS_nd hg st d) (fS_at hg st d)
theorem f11 (now : Int) : forceF (fS gu p q nm 3 []) nm now = (8, fS gu p q nm 3 []) := force_no (x := ⟨nm, 3, false⟩) (fS_nd hg 3 _) (fS_at hg 3 _) (fS_nb hg) rfl now
theorem f12 : drainF (fS gu p q nm 3 []) nm = (8, fS gu p q nm 3 []) := drain_no (x := ⟨nm, 3, false⟩) (fS_nd hg 3 _) (fS_at hg 3 _) (fS_nb hg) (.inr rfl)
theorem f13 : ejectF (fS gu p q nm 3 []) nm = (8, fS gu p q nm 3 []) := eject_no (x := ⟨nm, 3, false⟩) (fS_nd hg 3 _) (fS_at hg 3 _) (fS_nb hg) (by show (3 : Int) ≠ 0; decide)
theorem f14 : capV (fS gu p q nm 3 []) = ((p ++ nm :: q).length : Int) - 1 - (p.length : Int) := by
  have h : actN (fS gu p q nm 3 []).hs = q.length := by
    show (List.filter _ (retH p ++ ⟨nm, 3, false⟩ :: freshH q)).length = _
    rw [List.filter_append, List.filter_eq_nil_iff.2 (fun x hx => by
      obtain ⟨y, _, rfl⟩ := List.mem_map.1 hx
      show ¬ (decide ((3 : Int) = 0) = true)
      decide), List.filter_cons, if_neg (by show ¬ (decide ((3 : Int) = 0) = true); decide), List.filter_eq_self.2 (fun x hx => by
      obtain ⟨y, _, rfl⟩ := List.mem_map.1 hx
      rfl)]
    simp [freshH]
  unfold capV
  rw [h]
  show wrap64 ((q.length : Int) * 1) = _
  have := fS_len hg
  simp
  unfold wrap64
  omega
end
theorem eS_open (gu : Int) (p q : List ByteArray) (nm : ByteArray) : eS gu p (nm :: q) = fS gu p q nm 0 [] := rfl
theorem eS_shut (gu : Int) (p q : List ByteArray) (nm : ByteArray) : fS gu p q nm 3 [] = eS gu (p ++ [nm]) q := by
  unfold fS eS retH
  simp
def tNobody : ByteArray := ⟨#[110, 111, 98, 111, 100, 121]⟩
def tAsk : ByteArray := ⟨#[63]⟩
theorem eS_inv {gu : Int} {p q : List ByteArray} (hg : Goods (p ++ q)) : FInv (eS gu p q) 1 := by
  refine ⟨?_, ⟨⟨List.nodup_nil, Nat.zero_le _, Nat.zero_le _⟩, fun x hx => by cases hx⟩⟩
  have := hg.len
  simp at this
  simp [eS, retH, freshH]
  omega
theorem f_nobody {gu : Int} {p : List ByteArray} (hg : Goods p) (now : Int) : forceF (eS gu p []) tNobody now = (5, eS gu p []) := by
  have hk : knownE (eS gu p []) tNobody = 5 := by
    unfold knownE
    rw [if_pos (by decide)]
    have : posH (eS gu p []).hs tNobody = -1 := by
      rcases posH_bd (eS gu p []).hs tNobody with ⟨h, _⟩ | ⟨i, x, _, hx, hn⟩
      · exact h
      · exfalso
        have hm : tNobody ∈ (eS gu p []).hs.map (·.nm) := List.mem_map.2 ⟨x, List.mem_of_getElem? hx, hn⟩
        have : (eS gu p []).hs.map (·.nm) = p := by
          show (retH p ++ freshH []).map (·.nm) = p
          rw [List.map_append, ret_nm, fresh_nm, List.append_nil]
        rw [this] at hm
        exact (show ∀ x ∈ H6, x ≠ tNobody by decide) _ (hg.2 hm) rfl
    rw [this, if_pos (by decide)]
  unfold forceF
  rw [hk, if_neg (by decide)]
theorem f_ask (gu : Int) (p : List ByteArray) (now : Int) : forceF (eS gu p []) tAsk now = (11, eS gu p []) := by
  have hk : knownE (eS gu p []) tAsk = 11 := by
    unfold knownE
    rw [if_neg (by decide)]
  unfold forceF
  rw [hk, if_neg (by decide)]
set_option maxHeartbeats 16000000 in
set_option maxRecDepth 100000 in
theorem force_calls (A : Option Addr) (c : Nat) (l : List Int) (a0 a1 : Int) (w : World) (hC : Kd.C (Kd.int .i64) w A l.length l) (hc : l.length ≤ c) :
    Calls Try.prog 7 #[.int .i64 a0, .int .i64 a1, .slice A l.length c] w fun e w' => e = .returned (.bool true) ∧ Below w.heap.size w w' := by
  have HL := Aside0.mk (lives_raw w)
  obtain ⟨names, hg, hgood⟩ : ∃ names, Goods names ∧ ∀ W, Below w.heap.size w W → Calls Try.prog 11 #[.slice A l.length c] W fun e w' => ∃ v0_ : Value, e = .returned v0_ ∧ Kd.R Kd.string 9 w' W.heap.size (fun _ => True) v0_ names ∧ Below W.heap.size W w' := by
    obtain ⟨r, h1, h2⟩ := good_loop l hC.2.1 l.length (l.length + 8) 0 [] (Nat.zero_le _) rfl (Nat.le_refl _) ⟨List.nodup_nil, by simp⟩
    exact ⟨r, h2, fun W hb => hostlerref09_Good.calls (l.length + 8) A c l r W (Kd.C_below hC hb) hc h1⟩
  have HG := Aside0.mk hgood
  clear hgood hC
  have hlen6 := hg.len
  have HGD := Aside0.mk hg
  have HN := Aside0.mk (fun W hb => fnew_raw 1 a0 w W hb)
  have HRES := Aside0.mk (fun (g : Nat) (W : World) (hI : IsF w W g ⟨1, a0, [], ⟨[]⟩⟩) (hB : Below w.heap.size w W) (A : Option Addr) (n base : Nat) (hr : Kd.R Kd.string 9 W base (fun _ => True) (.slice A names.length n) names) =>
    resolve_any (n := 0) (by decide) (FInv.new 1 a0) hI hB names A n 0 (Kd.R_reads' hr).2.1 (fun x hx => (h6_ok (hg.2 hx)).2) (rowC hr))
  rw [resolve_first 1 a0 hg 0] at HRES
  clear hg
  go_enter Try.func7, Try.ntmps7
  go_wp2_with (first
    | (go_at_call 10; refine HL.out.mono ?_; rintro e wl ⟨rfl, hb⟩; have HB1 := Aside0.mk hb; clear hb)
    | (go_at_call 11; refine (HG.out wl HB1.out).mono ?_; rintro e w2 ⟨v2, rfl, hr, hb⟩; obtain ⟨A2, n2, rfl⟩ := Kd.R_slice hr; have HB2 := Aside0.mk (below_step HB1.out hb); have HR2 := Aside0.mk hr; have HS1 := Aside0.mk (below_size HB1.out); clear hb hr)
    | (go_at_call 12; refine (HN.out w2 HB2.out).mono ?_; rintro e w3 ⟨g, rfl, hi, hb, hb2⟩; have K3 := Aside0.mk hi; have B3 := Aside0.mk hb; have N3 := Aside0.mk (Kd.R_below HR2.out hb2); clear hi hb hb2 HR2)
    | (go_at_call 13; refine (HRES.out g w3 K3.out B3.out _ _ _ N3.out).mono ?_; rintro e w4 ⟨v1, v2, rfl, hr1, hr2, hi, hb, hk⟩; have K4 := Aside0.mk hi; have B4 := Aside0.mk hb; have N4 := Aside0.mk (row_keepG N3.out hk str_tf); clear hi hb hk HRES K3 B3 N3 hr1 hr2))
  go_loopw [9] (fun v9 wr => ∃ p q : List ByteArray, Aside0 (names = p ++ q) ∧ v9 = .int .i64 (p.length : Int) ∧ p.length ≤ names.length ∧ Aside0 (IsF w wr g (eS a0 p q)) ∧ Aside0 (Below w.heap.size w wr) ∧ Aside0 (Kd.R Kd.string 9 wr wl.heap.size (fun _ => True) (.slice A2 names.length n2) names)) (fun v9 _ => names.length - (intOf v9).toNat)
  case atStart => exact ⟨[], names, ⟨rfl⟩, rfl, Nat.zero_le _, K4, B4, N4⟩
  case round =>
    obtain ⟨p, q, HPQ, rfl, hple, K1, B1, N1⟩ := hrel
    clear K4 B4 N4 HL HG HN
    cases q with
    | nil =>
      have hpn : p = names := by rw [HPQ.out, List.append_nil]
      subst hpn
      have HF1 := Aside0.mk (fun (W : World) (hI : IsF w W g (eS a0 p [])) (hB : Below w.heap.size w W) => force_any (n := 1) (by decide) (eS_inv (by rw [List.append_nil]; exact HGD.out)) hI hB tNobody a1)
      rw [f_nobody HGD.out] at HF1
      have HF2 := Aside0.mk (fun (W : World) (hI : IsF w W g (eS a0 p [])) (hB : Below w.heap.size w W) => force_any (n := 1) (by decide) (eS_inv (by rw [List.append_nil]; exact HGD.out)) hI hB tAsk a1)
      rw [f_ask] at HF2
      clear hple
      go_wp2_with (first
        | (go_at_call 28; refine (HF1.out wr K1.out B1.out).mono ?_; rintro e w2 ⟨rfl, hi, hb, hk⟩; have K2 := Aside0.mk hi; have B2 := Aside0.mk hb; clear hi hb hk HF1 K1 B1)
        | (go_at_call 28; refine (HF2.out w2 K2.out B2.out).mono ?_; rintro e w3 ⟨rfl, hi, hb, hk⟩; have K3 := Aside0.mk hi; have B3 := Aside0.mk hb; clear hi hb hk HF2 K2 B2))
      go_ret
      exact ⟨rfl, B3.out⟩
    | cons nm q =>
      have hlq : p.length < names.length := by rw [HPQ.out]; simp
      have hG : Goods (p ++ nm :: q) := by rw [← HPQ.out]; exact HGD.out
      have hnl : names.length = (p ++ nm :: q).length := by rw [HPQ.out]
      have HNM := Aside0.mk (show names[p.length]? = some nm by rw [HPQ.out, List.getElem?_append_right (Nat.le_refl _)]; simp)
      obtain ⟨ad, had, hx0⟩ := Kd.at_string (Kd.R_reads' N1.out).2.2 (p.length : Int) (by omega) (by omega)
      rw [show rdOf ByteArray.empty names (p.length : Int) = nm by (unfold rdOf; rw [Int.toNat_natCast, List.getD_eq_getElem?_getD, HNM.out]; rfl), Int.toNat_natCast] at hx0
      subst had
      have hp0 : (0 : Int) ≤ (p.length : Int) := by omega
      have hpl : (p.length : Int) < (names.length : Int) := by omega
      have hb1 : hasB nm [nm] = true := (hasB_iff nm [nm]).2 (by simp)
      have hb2 : hasB nm [] = false := rfl
      have C1 := Aside0.mk (fun (g : Nat) (W : World) (hI : IsF w W g (fS a0 p q nm 0 [])) (hB : Below w.heap.size w W) => force_any (n := 1) (by decide) (fS_inv hG 0) hI hB nm a1)
      rw [f1 hG] at C1
      have C2 := Aside0.mk (fun (g : Nat) (W : World) (hI : IsF w W g (fS a0 p q nm 1 [⟨nm, clampN a1, true⟩])) => state_any hI nm)
      rw [f_state hG] at C2
      have C3 := Aside0.mk (fun (g : Nat) (W : World) (hI : IsF w W g (fS a0 p q nm 1 [⟨nm, clampN a1, true⟩])) => due_any (n := 1) (by decide) (fS_inv1 hG 1 _) hI a1)
      rw [show dueOf (fS a0 p q nm 1 [⟨nm, clampN a1, true⟩]).ds a1 = [nm] from due_one nm a1] at C3
      have C4 := Aside0.mk (fun (g : Nat) (W : World) (hI : IsF w W g (fS a0 p q nm 1 [⟨nm, clampN a1, true⟩])) (hB : Below w.heap.size w W) => undrain_any (n := 1) (by decide) (fS_inv1 hG 1 _) hI hB nm)
      rw [f4 hG] at C4
      have C5 := Aside0.mk (fun (g : Nat) (W : World) (hI : IsF w W g (fS a0 p q nm 0 [])) => state_any hI nm)
      rw [f_state hG] at C5
      have C6 := Aside0.mk (fun (g : Nat) (W : World) (hI : IsF w W g (fS a0 p q nm 0 [])) (hB : Below w.heap.size w W) => undrain_any (n := 1) (by decide) (fS_inv hG 0) hI hB nm)
      rw [f6 hG] at C6
      have C7 := Aside0.mk (fun (g : Nat) (W : World) (hI : IsF w W g (fS a0 p q nm 0 [])) => due_any (n := 1) (by decide) (fS_inv hG 0) hI a1)
      rw [show dueOf (fS a0 p q nm 0 []).ds a1 = [] from rfl] at C7
      have C8 := Aside0.mk (fun (g : Nat) (W : World) (hI : IsF w W g (fS a0 p q nm 0 [])) (hB : Below w.heap.size w W) => force_any (n := 1) (by decide) (fS_inv hG 0) hI hB nm a1)
      rw [f1 hG] at C8
      have C9 := Aside0.mk (fun (g : Nat) (W : World) (hI : IsF w W g (fS a0 p q nm 1 [⟨nm, clampN a1, true⟩])) (hB : Below w.heap.size w W) => empty_any (n := 1) (by decide) (fS_inv1 hG 1 _) hI hB nm)
      rw [f9 hG] at C9
      have C10 := Aside0.mk (fun (g : Nat) (W : World) (hI : IsF w W g (fS a0 p q nm 3 [])) => state_any hI nm)
      rw [f_state hG] at C10
      have C11 := Aside0.mk (fun (g : Nat) (W : World) (hI : IsF w W g (fS a0 p q nm 3 [])) (hB : Below w.heap.size w W) => force_any (n := 1) (by decide) (fS_inv hG 3) hI hB nm a1)
      rw [f11 hG] at C11
      have C12 := Aside0.mk (fun (g : Nat) (W : World) (hI : IsF w W g (fS a0 p q nm 3 [])) (hB : Below w.heap.size w W) => drain_any (n := 1) (by decide) (fS_inv hG 3) hI hB nm)
      rw [f12 hG] at C12
      have C13 := Aside0.mk (fun (g : Nat) (W : World) (hI : IsF w W g (fS a0 p q nm 3 [])) (hB : Below w.heap.size w W) => eject_any (n := 1) (by decide) (fS_inv hG 3) hI hB nm)
      rw [f13 hG] at C13
      have C14 := Aside0.mk (fun (g : Nat) (W : World) (hI : IsF w W g (fS a0 p q nm 3 [])) => capacity_any (n := 1) (by decide) (fS_inv hG 3) hI )
      rw [f14 hG, ← hnl] at C14
      rw [eS_open] at K1
      have KSH := Aside0.mk hnl
      clear hnl hG
      go_wp2_with (first
        | (go_at_call 28; refine (C1.out g wr K1.out B1.out).mono ?_; rintro e w2 ⟨rfl, hi, hb, hk⟩; have K2 := Aside0.mk hi; have B2 := Aside0.mk hb; have N2 := Aside0.mk (row_keepG N1.out hk str_tf); clear hi hb hk; clear C1 K1 B1 N1)
        | (go_at_call 20; refine (C2.out g w2 K2.out).mono ?_; rintro e w3 ⟨rfl, hb⟩; have K3 := Aside0.mk (K2.out.below hb); have B3 := Aside0.mk (below_step B2.out hb); have N3 := Aside0.mk (Kd.R_below N2.out hb); clear hb; clear C2 K2 B2 N2)
        | (go_at_call 22; refine (C3.out g w3 K3.out).mono ?_; rintro e w4 ⟨vd3, rfl, hr, hb⟩; obtain ⟨Ad3, nd3, rfl⟩ := Kd.R_slice hr; have K4 := Aside0.mk (K3.out.below hb); have B4 := Aside0.mk (below_step B3.out hb); have N4 := Aside0.mk (Kd.R_below N3.out hb); have D4 := Aside0.mk hr; clear hb hr; clear C3 K3 B3 N3)
        | (go_at_call 19; refine (has_raw nm [nm] Ad3 nd3 _ (Kd.R_reads' D4.out).2.2 (Kd.R_reads' D4.out).2.1).mono ?_; rintro e w5 ⟨rfl, hd⟩; have hb := Drawn0.below hd; have K5 := Aside0.mk (K4.out.below hb); have B5 := Aside0.mk (below_step B4.out hb); have N5 := Aside0.mk (Kd.R_below N4.out hb); clear hb hd D4; clear K4 B4 N4)
        | (go_at_call 24; refine (C4.out g w5 K5.out B5.out).mono ?_; rintro e w6 ⟨rfl, hi, hb, hk⟩; have K6 := Aside0.mk hi; have B6 := Aside0.mk hb; have N6 := Aside0.mk (row_keepG N5.out hk str_tf); clear hi hb hk; clear C4 K5 B5 N5)
        | (go_at_call 20; refine (C5.out g w6 K6.out).mono ?_; rintro e w7 ⟨rfl, hb⟩; have K7 := Aside0.mk (K6.out.below hb); have B7 := Aside0.mk (below_step B6.out hb); have N7 := Aside0.mk (Kd.R_below N6.out hb); clear hb; clear C5 K6 B6 N6)
        | (go_at_call 24; refine (C6.out g w7 K7.out B7.out).mono ?_; rintro e w8 ⟨rfl, hi, hb, hk⟩; have K8 := Aside0.mk hi; have B8 := Aside0.mk hb; have N8 := Aside0.mk (row_keepG N7.out hk str_tf); clear hi hb hk; clear C6 K7 B7 N7)
        | (go_at_call 22; refine (C7.out g w8 K8.out).mono ?_; rintro e w9 ⟨vd8, rfl, hr, hb⟩; obtain ⟨Ad8, nd8, rfl⟩ := Kd.R_slice hr; have K9 := Aside0.mk (K8.out.below hb); have B9 := Aside0.mk (below_step B8.out hb); have N9 := Aside0.mk (Kd.R_below N8.out hb); have D9 := Aside0.mk hr; clear hb hr; clear C7 K8 B8 N8)
        | (go_at_call 19; refine (has_raw nm [] Ad8 nd8 _ (Kd.R_reads' D9.out).2.2 (Kd.R_reads' D9.out).2.1).mono ?_; rintro e w10 ⟨rfl, hd⟩; have hb := Drawn0.below hd; have K10 := Aside0.mk (K9.out.below hb); have B10 := Aside0.mk (below_step B9.out hb); have N10 := Aside0.mk (Kd.R_below N9.out hb); clear hb hd D9; clear K9 B9 N9)
        | (go_at_call 28; refine (C8.out g w10 K10.out B10.out).mono ?_; rintro e w11 ⟨rfl, hi, hb, hk⟩; have K11 := Aside0.mk hi; have B11 := Aside0.mk hb; have N11 := Aside0.mk (row_keepG N10.out hk str_tf); clear hi hb hk; clear C8 K10 B10 N10)
        | (go_at_call 23; refine (C9.out g w11 K11.out B11.out).mono ?_; rintro e w12 ⟨rfl, hi, hb, hk⟩; have K12 := Aside0.mk hi; have B12 := Aside0.mk hb; have N12 := Aside0.mk (row_keepG N11.out hk str_tf); clear hi hb hk; clear C9 K11 B11 N11)
        | (go_at_call 20; refine (C10.out g w12 K12.out).mono ?_; rintro e w13 ⟨rfl, hb⟩; have K13 := Aside0.mk (K12.out.below hb); have B13 := Aside0.mk (below_step B12.out hb); have N13 := Aside0.mk (Kd.R_below N12.out hb); clear hb; clear C10 K12 B12 N12)
        | (go_at_call 28; refine (C11.out g w13 K13.out B13.out).mono ?_; rintro e w14 ⟨rfl, hi, hb, hk⟩; have K14 := Aside0.mk hi; have B14 := Aside0.mk hb; have N14 := Aside0.mk (row_keepG N13.out hk str_tf); clear hi hb hk; clear C11 K13 B13 N13)
        | (go_at_call 16; refine (C12.out g w14 K14.out B14.out).mono ?_; rintro e w15 ⟨rfl, hi, hb, hk⟩; have K15 := Aside0.mk hi; have B15 := Aside0.mk hb; have N15 := Aside0.mk (row_keepG N14.out hk str_tf); clear hi hb hk; clear C12 K14 B14 N14)
        | (go_at_call 29; refine (C13.out g w15 K15.out B15.out).mono ?_; rintro e w16 ⟨rfl, hi, hb, hk⟩; have K16 := Aside0.mk hi; have B16 := Aside0.mk hb; have N16 := Aside0.mk (row_keepG N15.out hk str_tf); clear hi hb hk; clear C13 K15 B15 N15)
        | (go_at_call 15; refine (C14.out g w16 K16.out).mono ?_; rintro e w17 ⟨rfl, hb⟩; have K17 := Aside0.mk (K16.out.below hb); have B17 := Aside0.mk (below_step B16.out hb); have N17 := Aside0.mk (Kd.R_below N16.out hb); clear hb; clear C14 K16 B16 N16))
      go_roundw
      case measure => simp [intOf]; omega
      case rel => exact ⟨p ++ [nm], q, ⟨by rw [HPQ.out]; simp⟩, by simp, by simp; omega, ⟨by rw [← eS_shut]; exact K17.out⟩, B17, N17⟩
theorem force_law (a0 a1 : Int) (A : Option Addr) (c : Nat) (l : List Int) (w : World) (_ : (Lit.int .i64 a0).wf = true) (_ : (Lit.int .i64 a1).wf = true) (hC : Kd.C (Kd.int .i64) w A l.length l) (hc : l.length ≤ c) (_ : ∀ x ∈ l, (Lit.int .i64 x).wf = true) :
    Calls Try.prog 7 #[.int .i64 a0, .int .i64 a1, .slice A l.length c] w fun e w' => e = .returned (.bool true) ∧ Below w.heap.size w w' := force_calls A c l a0 a1 w hC hc
end Go.Proofs.Ytmlmiocomlehgaa.Man
