/-
  A map from whole numbers to whole numbers, as a rising list of pairs. Conditions: none.
-/
import Derived.Maps.OwnSet
import Derived.Maps.OwnOps
import Derived.Maps.Ext
import Derived.Lib.SlKeysI
import Derived.Test.YtfflhppieogkbaaProg
set_option linter.unusedVariables false
set_option linter.unusedSimpArgs false
set_option maxRecDepth 100000
namespace Go.Proofs.Ytfflhppieogkbaa.Mp
open Go Go.Maps
/-- A whole number of the machine. -/
def I64 (x : Int) : Prop := (Lit.int .i64 x).wf = true
abbrev PL := List (Int × Int)
def ent (p : Int × Int) : Lit × DataW Unit := (.int .i64 p.1, .lit (.int .i64 p.2))
def dm (l : PL) : DataW Unit := .map (l.map ent)
def look (l : PL) (k : Int) : Option Int := (l.find? (fun p => decide (p.1 = k))).map (·.2)
def code (l : PL) (k : Int) : Int := (look l k).getD 0
def rem (l : PL) (k : Int) : PL := l.filter (fun p => !decide (p.1 = k))
def insP (x : Int × Int) : PL → PL
  | [] => [x]
  | y :: r => if x.1 < y.1 then x :: y :: r else y :: insP x r
def put (l : PL) (k v : Int) : PL := insP (k, v) (rem l k)
def Rising (l : PL) : Prop := l.Pairwise (fun p q => p.1 < q.1)
theorem same_int (a b : Int) : (Lit.int .i64 a).sameKey (.int .i64 b) = decide (a = b) := by simp [Lit.sameKey]
theorem has_dm (l : PL) (k : Int) : Maps.has (dm l) (.int .i64 k) = (look l k).isSome := by
  unfold dm look
  rw [Maps.has_eq, Option.isSome_map, List.isSome_find?, List.any_map]
  congr 1
  funext p
  exact same_int p.1 k
theorem at_dm (l : PL) (k : Int) (z : Int) : (dm l).atKey (.int .i64 k) (.lit (.int .i64 z)) = .lit (.int .i64 ((look l k).getD z)) := by
  unfold dm look DataW.atKey
  dsimp only
  rw [List.find?_map]
  have e : ((fun p : Lit × DataW Unit => p.1.sameKey (.int .i64 k)) ∘ ent) = fun p => decide (p.1 = k) := by
    funext p
    exact same_int p.1 k
  rw [e]
  cases l.find? (fun p => decide (p.1 = k)) <;> rfl
theorem del_dm (l : PL) (k : Int) : (dm l).del (.int .i64 k) = dm (rem l k) := by
  unfold dm rem DataW.del
  dsimp only
  rw [List.filter_map]
  congr 2
  refine List.filter_congr (fun p _ => ?_)
  simp only [Function.comp]
  rw [show (ent p).1 = .int .i64 p.1 from rfl, same_int]
theorem ins_dm (x : Int × Int) : ∀ l : PL, DataW.insert (ent x) (l.map ent) = (insP x l).map ent
  | [] => rfl
  | y :: r => by
    simp only [List.map_cons, DataW.insert, insP]
    rw [ins_dm x r]
    have e : (ent x).1.before (ent y).1 = decide (x.1 < y.1) := rfl
    rw [e]
    by_cases h : x.1 < y.1
    · rw [if_pos h, decide_eq_true h, if_pos rfl]; rfl
    · rw [if_neg h, decide_eq_false h, if_neg (by decide)]; rfl
theorem put_dm (l : PL) (k v : Int) : (dm l).put (.int .i64 k) (.lit (.int .i64 v)) = dm (put l k v) := by
  have h := del_dm l k
  unfold dm DataW.del at h
  unfold dm DataW.put put
  dsimp only at h ⊢
  injection h with h
  rw [h]
  exact congrArg DataW.map (ins_dm (k, v) (rem l k))
theorem size_dm (l : PL) : Maps.size (dm l) = l.length := by simp [dm, Maps.size]
theorem keys_dm : ∀ l : PL, intKeys (dm l) = l.map (·.1) := by
  intro l
  unfold dm
  simp only [intKeys]
  induction l with
  | nil => rfl
  | cons p l ih => exact congrArg (List.cons p.1) ih
/-! #### pure facts -/
theorem rem_sub (l : PL) (k : Int) : (rem l k).Sublist l := List.filter_sublist
theorem Rising.rem {l : PL} (h : Rising l) (k : Int) : Rising (rem l k) := List.Pairwise.sublist (rem_sub l k) h
theorem mem_insP (x y : Int × Int) : ∀ l : PL, y ∈ insP x l ↔ y = x ∨ y ∈ l
  | [] => by simp [insP]
  | z :: r => by
    unfold insP
    split
    · simp
    · simp only [List.mem_cons, mem_insP x y r]
      constructor
      · rintro (h | h | h)
        · exact .inr (.inl h)
        · exact .inl h
        · exact .inr (.inr h)
      · rintro (h | h | h)
        · exact .inr (.inl h)
        · exact .inl h
        · exact .inr (.inr h)
theorem rising_insP (x : Int × Int) : ∀ l : PL, Rising l → (∀ y ∈ l, y.1 ≠ x.1) → Rising (insP x l)
  | [], _, _ => List.pairwise_singleton _ _
  | z :: r, h, hn => by
    unfold insP
    have h1 := List.pairwise_cons.1 h
    split
    · rename_i hx
      refine List.pairwise_cons.2 ⟨fun y hy => ?_, h⟩
      rcases List.mem_cons.1 hy with rfl | hy
      · exact hx
      · have := h1.1 y hy; omega
    · rename_i hx
      refine List.pairwise_cons.2 ⟨fun y hy => ?_, rising_insP x r h1.2 (fun y hy => hn y (List.mem_cons_of_mem _ hy))⟩
      rcases (mem_insP x y r).1 hy with rfl | hy
      · have := hn z (List.mem_cons_self ..); omega
      · exact h1.1 y hy
theorem rem_ne {l : PL} {k : Int} {y : Int × Int} (h : y ∈ rem l k) : y ∈ l ∧ y.1 ≠ k := by
  have := List.mem_filter.1 h
  simpa using this
theorem mem_rem {l : PL} {k : Int} {y : Int × Int} : y ∈ rem l k ↔ y ∈ l ∧ y.1 ≠ k := by
  unfold rem
  rw [List.mem_filter]
  simp
theorem Rising.put {l : PL} (h : Rising l) (k v : Int) : Rising (put l k v) := rising_insP _ _ (h.rem k) (fun _ hy => (rem_ne hy).2)
theorem mem_put {l : PL} {k v : Int} {y : Int × Int} : y ∈ put l k v ↔ y = (k, v) ∨ (y ∈ l ∧ y.1 ≠ k) := by
  unfold put
  rw [mem_insP, mem_rem]
theorem rising_inj : ∀ {l : PL}, Rising l → ∀ {p q : Int × Int}, p ∈ l → q ∈ l → p.1 = q.1 → p = q
  | [], _, _, _, hp, _, _ => by simp at hp
  | y :: l, h, p, q, hp, hq, e => by
    have h1 := List.pairwise_cons.1 h
    rcases List.mem_cons.1 hp with e1 | hp1
    · rcases List.mem_cons.1 hq with e2 | hq1
      · rw [e1, e2]
      · have := h1.1 q hq1; rw [← e1] at this; omega
    · rcases List.mem_cons.1 hq with e2 | hq1
      · have := h1.1 p hp1; rw [← e2] at this; omega
      · exact rising_inj h1.2 hp1 hq1 e
theorem look_some {l : PL} (h : Rising l) {k v : Int} : look l k = some v ↔ (k, v) ∈ l := by
  unfold look
  constructor
  · intro hl
    obtain ⟨p, hp, rfl⟩ := Option.map_eq_some_iff.1 hl
    have h1 := List.find?_some hp
    have h2 := List.mem_of_find?_eq_some hp
    have : p.1 = k := by simpa using h1
    subst this
    exact h2
  · intro hm
    cases hf : l.find? (fun p => decide (p.1 = k)) with
    | none =>
      have := List.find?_eq_none.1 hf (k, v) hm
      simp at this
    | some p =>
      have h1 := List.find?_some hf
      have h2 := List.mem_of_find?_eq_some hf
      have hk : p.1 = k := by simpa using h1
      have : p = (k, v) := by
        by_cases e : p = (k, v)
        · exact e
        · exact absurd (rising_inj h h2 hm hk) e
      subst this
      rfl
theorem look_none {l : PL} {k : Int} : look l k = none ↔ ∀ v, (k, v) ∉ l := by
  unfold look
  rw [Option.map_eq_none_iff, List.find?_eq_none]
  constructor
  · intro h v hm
    have := h (k, v) hm
    simp at this
  · intro h p hp
    simp only [decide_eq_true_eq]
    rintro rfl
    exact h p.2 hp
theorem look_put_same {l : PL} (h : Rising l) (k v : Int) : look (put l k v) k = some v := (look_some (h.put k v)).2 (mem_put.2 (.inl rfl))
theorem look_put_other {l : PL} (h : Rising l) {k j : Int} (v : Int) (hj : j ≠ k) : look (put l k v) j = look l j := by
  cases hl : look l j with
  | none =>
    rw [look_none] at hl ⊢
    intro u hu
    rcases mem_put.1 hu with h1 | h1
    · exact hj (congrArg Prod.fst h1)
    · exact hl u h1.1
  | some u =>
    rw [look_some h] at hl
    exact (look_some (h.put k v)).2 (mem_put.2 (.inr ⟨hl, hj⟩))
theorem look_rem_same (l : PL) (k : Int) : look (rem l k) k = none := look_none.2 (fun v hv => (mem_rem.1 hv).2 rfl)
theorem look_rem_other {l : PL} (h : Rising l) {k j : Int} (hj : j ≠ k) : look (rem l k) j = look l j := by
  cases hl : look l j with
  | none =>
    rw [look_none] at hl ⊢
    intro u hu
    exact hl u (mem_rem.1 hu).1
  | some u =>
    rw [look_some h] at hl
    exact (look_some (h.rem k)).2 (mem_rem.2 ⟨hl, hj⟩)
theorem code_put_same {l : PL} (h : Rising l) (k v : Int) : code (put l k v) k = v := by unfold code; rw [look_put_same h]; rfl
theorem code_put_other {l : PL} (h : Rising l) {k j : Int} (v : Int) (hj : j ≠ k) : code (put l k v) j = code l j := by unfold code; rw [look_put_other h v hj]
theorem code_rem_same (l : PL) (k : Int) : code (rem l k) k = 0 := by unfold code; rw [look_rem_same]; rfl
theorem code_rem_other {l : PL} (h : Rising l) {k j : Int} (hj : j ≠ k) : code (rem l k) j = code l j := by unfold code; rw [look_rem_other h hj]
theorem len_insP (x : Int × Int) : ∀ l : PL, (insP x l).length = l.length + 1
  | [] => rfl
  | y :: r => by
    unfold insP
    split
    · rfl
    · simp [len_insP x r]
theorem rem_of_none {l : PL} {k : Int} (h : look l k = none) : rem l k = l := by
  unfold rem
  rw [List.filter_eq_self]
  intro p hp
  have := (look_none.1 h) p.2
  by_cases e : p.1 = k
  · subst e; exact absurd hp this
  · simp [e]
theorem len_put_new {l : PL} {k : Int} (v : Int) (h : look l k = none) : (put l k v).length = l.length + 1 := by
  unfold put
  rw [len_insP, rem_of_none h]
theorem len_rem {l : PL} (h : Rising l) {k v : Int} (hl : look l k = some v) : (rem l k).length + 1 = l.length := by
  have hm := (look_some h).1 hl
  clear hl
  induction l with
  | nil => simp at hm
  | cons y l ih =>
    have h1 := List.pairwise_cons.1 h
    rcases List.mem_cons.1 hm with e | hm2
    · subst e
      have : rem ((k, v) :: l) k = l := by
        unfold rem
        rw [List.filter_cons, if_neg (by simp), List.filter_eq_self]
        intro p hp
        have := h1.1 p hp
        simp only [Bool.not_eq_true', decide_eq_false_iff_not]
        intro e
        have e2 : (k, v).1 = k := rfl
        omega
      rw [this]
      rfl
    · have hne : y.1 ≠ k := by
        have := h1.1 (k, v) hm2
        have e2 : (k, v).1 = k := rfl
        omega
      have := ih h1.2 hm2
      unfold rem at this ⊢
      rw [List.filter_cons, if_pos (by simp [hne])]
      simp only [List.length_cons]
      omega
theorem len_put_old {l : PL} (h : Rising l) {k u : Int} (v : Int) (hl : look l k = some u) : (put l k v).length = l.length := by
  unfold put
  rw [len_insP]
  exact len_rem h hl
/-- The keys, rising. -/
def keys (l : PL) : List Int := l.map (·.1)
theorem keys_rising {l : PL} (h : Rising l) : (keys l).Pairwise (· < ·) := List.pairwise_map.2 h
theorem sorted_keys {l : PL} (h : Rising l) {ss : List Int} (hp : ss.Perm (keys l)) : ss.mergeSort (fun x y => decide (x ≤ y)) = keys l := by
  have ht : ∀ a b c : Int, decide (a ≤ b) = true → decide (b ≤ c) = true → decide (a ≤ c) = true := by
    intro a b c h1 h2
    simp only [decide_eq_true_eq] at *
    omega
  have hto : ∀ a b : Int, (decide (a ≤ b) || decide (b ≤ a)) = true := by
    intro a b
    simp only [Bool.or_eq_true, decide_eq_true_eq]
    omega
  refine List.Perm.eq_of_pairwise (le := fun a b => a ≤ b) (fun a b _ _ h1 h2 => by omega) ?_ ((keys_rising h).imp (fun h => by omega)) ((List.mergeSort_perm _ _).trans hp)
  have := List.pairwise_mergeSort ht hto ss
  exact this.imp (fun h => by simpa using h)
/-! #### the map in memory -/
/-- Block b is a map that says just the pairs of l. -/
def MapI (W : World) (b : Nat) (l : PL) : Prop := Rising l ∧ W.ownsMap Try.prog 3 (plainElem (H := Unit) Try.prog 3) b l.length (dm l)
theorem tight {W : World} {b n : Nat} {l : PL} (h : W.ownsMap Try.prog 3 (plainElem (H := Unit) Try.prog 3) b n (dm l)) : W.ownsMap Try.prog 3 (plainElem (H := Unit) Try.prog 3) b l.length (dm l) := by
  obtain ⟨es, ck, hb, hF, hn, hD⟩ := h
  refine ⟨es, ck, hb, hF, ?_, hD⟩
  have := congrArg Maps.size hD
  rw [size_dm, Maps.size_eq, length_sorted] at this
  simp at this
  omega
theorem zeroE (w : World) : (zeroValue 3).run Try.prog w = .ok (.int .i64 0) w := by kernel_rfl
theorem keyI {k : Int} (h : I64 k) : keyOf Try.prog 3 (.int .i64 k) = some (.int .i64 k) := keyOf_int_mk Try.underlying3 h
variable {W W1 : World} {b : Nat} {l : PL}
theorem MapI.step (h : MapI W b l) (e : W1.heap[b]? = W.heap[b]?) : MapI W1 b l := by
  obtain ⟨hr, es, ck, hb, r⟩ := h
  exact ⟨hr, es, ck, e.trans hb, r⟩
theorem MapI.block (h : MapI W b l) : ∃ es ck, W.heap[b]? = some (.map es ck) := by
  obtain ⟨_, es, ck, hb, _⟩ := h
  exact ⟨es, ck, hb⟩
theorem MapI.lt (h : MapI W b l) : b < W.heap.size := h.2.lt
theorem MapI.made (W : World) : MapI (W.alloc (.map #[] 0)) W.heap.size [] := ⟨List.Pairwise.nil, World.ownsMap_made W Try.prog 3 _⟩
theorem MapI.lookup (T : TypeId) (ht : Try.prog.underlying T = some (.map 3 3)) (h : MapI W b l) {k : Int} (hk : I64 k) : (Instr.lookup T (.map (some b)) (.int .i64 k) false).run Try.prog W = .ok (.int .i64 (code l k)) W := by
  obtain ⟨c, hrun, hat, _⟩ := h.2.lookup_int (int_keyed Try.underlying3) ht Try.underlying3 (zeroE W) (keyI hk)
  rw [at_dm] at hat
  injection hat with hat
  injection hat with _ hat
  rw [hrun, ← hat]
  rfl
theorem MapI.look_ok (T : TypeId) (ht : Try.prog.underlying T = some (.map 3 3)) (h : MapI W b l) {k : Int} (hk : I64 k) : (Instr.lookup T (.map (some b)) (.int .i64 k) true).run Try.prog W = .ok (.tuple #[.int .i64 (code l k), .bool (look l k).isSome]) W := by
  obtain ⟨v, ps, hrun, hv⟩ := h.2.look_ok (int_keyed Try.underlying3) ht (zeroE W) (plainElem_int Try.underlying3 (by decide)) (keyI hk)
  rw [has_dm] at hrun
  rw [at_dm] at hv
  obtain ⟨c, rfl, hc, _⟩ := plainElem_int_inv Try.underlying3 hv
  have e := congrArg Prod.fst hc
  injection e with e
  injection e with _ e
  rw [hrun, ← e]
  rfl
theorem MapI.put (T : TypeId) (ht : Try.prog.underlying T = some (.map 3 3)) (h : MapI W b l) {k v : Int} (hk : I64 k) (hv : I64 v) (hn : l.length < 1000000) :
    ∃ W', (Instr.mapUpdate T (.map (some b)) (.int .i64 k) (.int .i64 v)).run Try.prog W = .ok () W' ∧ MapI W' b (put l k v) ∧ W.grownBy W' (some b) ∧ W'.heap.size = W.heap.size := by
  obtain ⟨W', hrun, ho, ht⟩ := h.2.store (int_keyed Try.underlying3) ht (by unfold maxLen; omega) (keyI hk) (plainElem_int Try.underlying3 hv)
  rw [put_dm] at ho
  refine ⟨W', hrun, ⟨h.1.put k v, tight ho⟩, ht.grown, ?_⟩
  obtain ⟨es, ck, es', ck', hb, rfl⟩ := ht
  simp [Go.ChangeMaps.setBlock]
theorem MapI.del (T : TypeId) (ht : Try.prog.underlying T = some (.map 3 3)) (h : MapI W b l) {k : Int} (hk : I64 k) (ty : TypeId) :
    ∃ W', (Builtin.delete_ #[T, 3] ty #[.map (some b), .int .i64 k]).run Try.prog W = .ok (.tuple #[]) W' ∧ MapI W' b (rem l k) ∧ W.grownBy W' (some b) ∧ W'.heap.size = W.heap.size := by
  obtain ⟨W', hrun, ho, ht⟩ := h.2.drop (int_keyed Try.underlying3) ht (keyI hk) ty
  rw [del_dm] at ho
  refine ⟨W', hrun, ⟨h.1.rem k, tight ho⟩, ht.grown, ?_⟩
  obtain ⟨es, ck, es', ck', hb, rfl⟩ := ht
  simp [Go.ChangeMaps.setBlock]
theorem MapI.len (T : TypeId) (ht : Try.prog.underlying T = some (.map 3 3)) (h : MapI W b l) (ty : TypeId) : (Builtin.len_ #[T] ty #[.map (some b)]).run Try.prog W = .ok (.int .i64 (l.length : Int)) W := by
  have := h.2.len ht ty
  rwa [size_dm] at this
end Go.Proofs.Ytfflhppieogkbaa.Mp
