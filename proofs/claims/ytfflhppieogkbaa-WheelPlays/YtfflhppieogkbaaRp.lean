/-
  The reference's functions over the wheel's deadlines, plain. Conditions: none.
-/
import Derived.Test.YtfflhppieogkbaaWnp
import Derived.Test.YtfflhppieogkbaaPCx2
import Derived.Test.YtfflhppieogkbaaPCx3
import Derived.Test.YtfflhppieogkbaaPCx4
set_option linter.unusedVariables false
set_option linter.unusedSimpArgs false
namespace Go.Proofs.Ytfflhppieogkbaa.Hp
open Go Go.RowKit Go.Proofs.YtfflhppieogkbaaW.PrintWords Go.Proofs.Ytfflhppieogkbaa.Mp Go.Proofs.Ytfflhppieogkbaa.PA Go.Proofs.Ytfflhppieogkbaa.PC
def vals (l : PL) : List Int := l.map (·.2)
variable {l : PL} {a now : Int}
theorem len_keys (l : PL) : (keys l).length = l.length := by simp [keys]
theorem len_vals (l : PL) : (vals l).length = l.length := by simp [vals]
theorem rd_keys {j : Nat} (h : j < l.length) : rd (keys l) (j : Int) = l[j].1 := by simp [rd, keys, h]
theorem rd_vals {j : Nat} (h : j < l.length) : rd (vals l) (j : Int) = l[j].2 := by simp [rd, vals, h]
theorem wr1 {j : Nat} (h : j ≤ 100000) : wrap64 ((j : Int) + 1) = ((j + 1 : Nat) : Int) := by unfold wrap64; omega
theorem keys_app (a b : PL) : keys (a ++ b) = keys a ++ keys b := by simp [keys]
theorem vals_app (a b : PL) : vals (a ++ b) = vals a ++ vals b := by simp [vals]
theorem drop_cons {j : Nat} (h : j < l.length) : l.drop j = l[j] :: l.drop (j + 1) := List.drop_eq_getElem_cons h
theorem snocK (A : PL) (p : Int × Int) : keys A ++ [p.1] = keys (A ++ [p]) := by simp [keys]
theorem snocV (A : PL) (p : Int × Int) : vals A ++ [p.2] = vals (A ++ [p]) := by simp [vals]
/-- place: the key's place, or -1. -/
theorem place_loop (a : Int) (hl : l.length ≤ 1000) (d : Nat) : ∀ (k j : Nat), l.length - j = d → j ≤ l.length → d < k →
    (hostlerref04_place.l0 k a (j : Int) (keys l) (vals l) = some (-1) ∧ ∀ m (h : m < l.length), j ≤ m → l[m].1 ≠ a) ∨ ∃ m, ∃ h : m < l.length, hostlerref04_place.l0 k a (j : Int) (keys l) (vals l) = some (m : Int) ∧ l[m].1 = a := by
  induction d with
  | zero =>
    intro k j hd hj hk
    obtain ⟨k, rfl⟩ : ∃ m, k = m + 1 := ⟨k - 1, by omega⟩
    left
    rw [hostlerref04_place.l0, if_neg (by rw [len_keys]; omega)]
    exact ⟨rfl, fun m h hm => by omega⟩
  | succ d ih =>
    intro k j hd hj hk
    obtain ⟨k, rfl⟩ : ∃ m, k = m + 1 := ⟨k - 1, by omega⟩
    have hjl : j < l.length := by omega
    rw [hostlerref04_place.l0, if_pos (by rw [len_keys]; omega), if_pos (by omega), rd_keys hjl]
    by_cases e : l[j].1 = a
    · right
      exact ⟨j, hjl, by rw [if_pos e], e⟩
    · rw [if_neg e, wr1 (by omega)]
      rcases ih k (j + 1) (by omega) (by omega) (by omega) with ⟨h1, h2⟩ | ⟨m, h, h1, h2⟩
      · left
        refine ⟨h1, fun m h hm => ?_⟩
        by_cases e2 : m = j
        · subst e2; exact e
        · exact h2 m h (by omega)
      · exact .inr ⟨m, h, h1, h2⟩
theorem place_is (hr : Rising l) (a : Int) (hl : l.length ≤ 1000) {k : Nat} (hk : l.length < k) :
    (hostlerref04_place.f k (keys l) (vals l) a = some (-1) ∧ Mp.look l a = none) ∨ ∃ m, ∃ h : m < l.length, hostlerref04_place.f k (keys l) (vals l) a = some (m : Int) ∧ l[m].1 = a := by
  unfold hostlerref04_place.f
  rcases place_loop (l := l) a hl l.length k 0 rfl (Nat.zero_le _) hk with ⟨h1, h2⟩ | h
  · left
    refine ⟨h1, look_none.2 (fun v hv => ?_)⟩
    obtain ⟨m, hm, he⟩ := List.mem_iff_getElem.1 hv
    exact h2 m hm (Nat.zero_le _) (by rw [he])
  · exact .inr h
theorem at_is (hr : Rising l) (a : Int) (hl : l.length ≤ 1000) {k : Nat} (hk : l.length < k) : hostlerref04_At.f k (keys l) (vals l) a = some (code l a, (Mp.look l a).isSome) := by
  unfold hostlerref04_At.f
  rcases place_is hr a hl hk with ⟨h1, h2⟩ | ⟨m, h, h1, h2⟩
  · rw [h1, Option.bind_some, if_pos (by omega)]
    unfold code
    rw [h2]
    rfl
  · have hlo : Mp.look l a = some l[m].2 := (look_some hr).2 (by rw [← h2]; exact List.getElem_mem h)
    rw [h1, Option.bind_some, if_neg (by omega), if_pos (by omega), if_pos (by rw [len_vals]; omega), rd_vals h]
    unfold code
    rw [hlo]
    rfl
theorem rise_ne (hr : Rising l) {i j : Nat} (hi : i < l.length) (hj : j < l.length) (h : i ≠ j) : l[i].1 ≠ l[j].1 := fun e => by
  rcases Nat.lt_or_ge i j with h1 | h1
  · have := List.pairwise_iff_getElem.1 hr i j hi hj h1
    omega
  · have := List.pairwise_iff_getElem.1 hr j i hj hi (by omega)
    omega
theorem rem_cons (p : Int × Int) (r : PL) (a : Int) : rem (p :: r) a = if p.1 = a then rem r a else p :: rem r a := by
  unfold rem
  rw [List.filter_cons]
  by_cases e : p.1 = a <;> simp [e]
theorem cancel_loop (hr : Rising l) (hl : l.length ≤ 1000) {m : Nat} (hm : m < l.length) (d : Nat) : ∀ (k j : Nat) (A : PL), l.length - j = d → j ≤ l.length → d < k → A.length ≤ j →
    hostlerref04_Cancel.l0 k (m : Int) (j : Int) (keys l) (vals l) (keys A) (vals A) = some (keys (A ++ rem (l.drop j) l[m].1), vals (A ++ rem (l.drop j) l[m].1), true) := by
  induction d with
  | zero =>
    intro k j A hd hj hk hA
    obtain ⟨k, rfl⟩ : ∃ m, k = m + 1 := ⟨k - 1, by omega⟩
    rw [hostlerref04_Cancel.l0, if_neg (by rw [len_keys]; omega), List.drop_of_length_le (by omega)]
    simp [rem]
  | succ d ih =>
    intro k j A hd hj hk hA
    obtain ⟨k, rfl⟩ : ∃ m, k = m + 1 := ⟨k - 1, by omega⟩
    have hjl : j < l.length := by omega
    rw [hostlerref04_Cancel.l0, if_pos (by rw [len_keys]; omega), drop_cons hjl, rem_cons]
    by_cases e : j = m
    · subst e
      rw [if_pos rfl, if_pos rfl, wr1 (by omega)]
      exact ih k (j + 1) A (by omega) (by omega) (by omega) (by omega)
    · rw [if_neg (by omega), if_pos (by omega), if_pos (by rw [len_keys]; omega), if_pos (by rw [len_vals]; omega), if_pos (by rw [len_vals]; omega), wr1 (by omega), rd_keys hjl, rd_vals hjl, snocK, snocV, if_neg (rise_ne hr hjl hm e)]
      rw [ih k (j + 1) (A ++ [l[j]]) (by omega) (by omega) (by omega) (by simp; omega)]
      simp
theorem cancel_is (hr : Rising l) (a : Int) (hl : l.length ≤ 1000) {k : Nat} (hk : l.length < k) : hostlerref04_Cancel.f k (keys l) (vals l) a = some (keys (rem l a), vals (rem l a), (Mp.look l a).isSome) := by
  unfold hostlerref04_Cancel.f
  rcases place_is hr a hl hk with ⟨h1, h2⟩ | ⟨m, h, h1, h2⟩
  · rw [h1, Option.bind_some, if_pos (by omega), rem_of_none h2, h2]
    rfl
  · have hlo : Mp.look l a = some l[m].2 := (look_some hr).2 (by rw [← h2]; exact List.getElem_mem h)
    rw [h1, Option.bind_some, if_neg (by omega)]
    have := cancel_loop hr hl h l.length k 0 [] rfl (Nat.zero_le _) hk (Nat.le_refl _)
    rw [hlo]
    rw [h2] at this
    simpa [keys, vals] using this
theorem rest_cons (p : Int × Int) (r : PL) (now : Int) : rest (p :: r) now = if past now p.2 = true then rest r now else p :: rest r now := by
  unfold rest
  rw [List.filter_cons]
  by_cases e : past now p.2 = true <;> simp [e]
theorem due_cons (p : Int × Int) (r : PL) (now : Int) : due (p :: r) now = if past now p.2 = true then p.1 :: due r now else due r now := by
  unfold due
  rw [List.filter_cons]
  by_cases e : past now p.2 = true <;> simp [e]
theorem past01 (now t : Int) : hostlerref01_Past.f now t = some (past now t) := by
  unfold hostlerref01_Past.f
  rw [cut01, cut01]
  rfl
theorem due_loop (now : Int) (hl : l.length ≤ 1000) (d : Nat) : ∀ (k j : Nat) (A : PL) (D : List Int), l.length - j = d → j ≤ l.length → d < k → A.length ≤ j → D.length ≤ j →
    hostlerref04_Due.l0 k now D (j : Int) (keys l) (vals l) (keys A) (vals A) = some (keys (A ++ rest (l.drop j) now), vals (A ++ rest (l.drop j) now), D ++ due (l.drop j) now) := by
  induction d with
  | zero =>
    intro k j A D hd hj hk hA hD
    obtain ⟨k, rfl⟩ : ∃ m, k = m + 1 := ⟨k - 1, by omega⟩
    rw [hostlerref04_Due.l0, if_neg (by rw [len_keys]; omega), List.drop_of_length_le (by omega)]
    simp [rest, due]
  | succ d ih =>
    intro k j A D hd hj hk hA hD
    obtain ⟨k, rfl⟩ : ∃ m, k = m + 1 := ⟨k - 1, by omega⟩
    have hjl : j < l.length := by omega
    rw [hostlerref04_Due.l0, if_pos (by rw [len_keys]; omega), if_pos (by omega), if_pos (by rw [len_vals]; omega), rd_vals hjl, past01, Option.bind_some, drop_cons hjl, rest_cons, due_cons, wr1 (by omega)]
    cases hp : past now l[j].2 with
    | true =>
      rw [if_pos rfl, if_pos (by omega), rd_keys hjl, if_pos rfl, if_pos rfl]
      rw [ih k (j + 1) A (D ++ [l[j].1]) (by omega) (by omega) (by omega) (by omega) (by simp; omega)]
      simp
    | false =>
      rw [if_neg (by decide), if_pos (by rw [len_keys]; omega), if_pos (by rw [len_vals]; omega), rd_keys hjl, snocK, snocV, if_neg (by decide), if_neg (by decide)]
      rw [ih k (j + 1) (A ++ [l[j]]) D (by omega) (by omega) (by omega) (by simp; omega) (by omega)]
      simp
theorem due_is (now : Int) (hl : l.length ≤ 1000) {k : Nat} (hk : l.length < k) : hostlerref04_Due.f k (keys l) (vals l) now = some (keys (rest l now), vals (rest l now), due l now) := by
  unfold hostlerref04_Due.f
  have := due_loop (l := l) now hl l.length k 0 [] [] rfl (Nat.zero_le _) hk (Nat.le_refl _) (Nat.le_refl _)
  simpa [keys, vals] using this
theorem set_loop (a t : Int) (had : Bool) (hl : l.length ≤ 1000) (d : Nat) : ∀ (k j : Nat) (A : PL) (dn : Bool), l.length - j = d → j ≤ l.length → d < k → A.length ≤ 2 * j →
    hostlerref04_Set.l0 k a t had dn (j : Int) (keys l) (vals l) (keys A) (vals A) = some (keys (A ++ if dn = true then l.drop j else insP (a, cut t) (l.drop j)), vals (A ++ if dn = true then l.drop j else insP (a, cut t) (l.drop j)), had) := by
  induction d with
  | zero =>
    intro k j A dn hd hj hk hA
    obtain ⟨k, rfl⟩ : ∃ m, k = m + 1 := ⟨k - 1, by omega⟩
    rw [hostlerref04_Set.l0, if_neg (by rw [len_keys]; omega), List.drop_of_length_le (by omega)]
    cases dn with
    | true => simp
    | false =>
      rw [if_neg (by decide), if_pos (by rw [len_keys]; omega), cut01, Option.bind_some, if_pos (by rw [len_vals]; omega)]
      simp [insP, keys, vals]
  | succ d ih =>
    intro k j A dn hd hj hk hA
    obtain ⟨k, rfl⟩ : ∃ m, k = m + 1 := ⟨k - 1, by omega⟩
    have hjl : j < l.length := by omega
    rw [hostlerref04_Set.l0, if_pos (by rw [len_keys]; omega), drop_cons hjl]
    cases dn with
    | true =>
      rw [if_pos rfl, if_pos (by omega), if_pos (by rw [len_keys]; omega), if_pos (by rw [len_vals]; omega), if_pos (by rw [len_vals]; omega), wr1 (by omega), rd_keys hjl, rd_vals hjl, snocK, snocV]
      rw [ih k (j + 1) (A ++ [l[j]]) true (by omega) (by omega) (by omega) (by simp; omega)]
      simp
    | false =>
      rw [if_neg (by decide), if_pos (by omega), rd_keys hjl, rd_vals hjl]
      by_cases hlt : a < l[j].1
      · rw [if_pos hlt, if_pos (by rw [len_keys]; omega), Option.bind_some, cut01, Option.bind_some, if_pos (by rw [len_vals]; omega), Option.bind_some, if_pos (by simp [len_keys]; omega), if_pos (by rw [len_vals]; omega), if_pos (by simp [len_vals]; omega), wr1 (by omega)]
        have e1 : keys A ++ [a] ++ [l[j].1] = keys (A ++ [(a, cut t), l[j]]) := by simp [keys]
        have e2 : vals A ++ [cut t] ++ [l[j].2] = vals (A ++ [(a, cut t), l[j]]) := by simp [vals]
        rw [e1, e2]
        rw [ih k (j + 1) (A ++ [(a, cut t), l[j]]) true (by omega) (by omega) (by omega) (by simp; omega)]
        simp [insP, hlt]
      · rw [if_neg hlt, if_pos (by rw [len_keys]; omega), if_pos (by rw [len_vals]; omega), if_pos (by rw [len_vals]; omega), wr1 (by omega), snocK, snocV]
        rw [ih k (j + 1) (A ++ [l[j]]) false (by omega) (by omega) (by omega) (by simp; omega)]
        simp [insP, hlt]
theorem set_is (hr : Rising l) (a t : Int) (hl : l.length ≤ 1000) {k : Nat} (hk : l.length < k) : hostlerref04_Set.f k (keys l) (vals l) a t = some (keys (put l a (cut t)), vals (put l a (cut t)), (Mp.look l a).isSome) := by
  unfold hostlerref04_Set.f
  rw [cancel_is hr a hl hk, Option.bind_some]
  have hle := (rem_sub l a).length_le
  have := set_loop (l := rem l a) a t (Mp.look l a).isSome (by omega) (rem l a).length k 0 [] false rfl (Nat.zero_le _) (by omega) (by simp)
  simpa [keys, vals, put] using this
/-! #### Sorted -/
/-- The first of the least ticks among the first j. -/
structure MinAt (l : PL) (m j : Nat) : Prop where
  lt : m < j
  le : j ≤ l.length
  least : ∀ i (h : i < l.length) (hm : m < l.length), i < j → l[m].2 ≤ l[i].2
  first : ∀ i (h : i < l.length) (hm : m < l.length), i < m → l[m].2 < l[i].2
theorem byTick_cons (hr : Rising l) {m : Nat} (hm : m < l.length) (h : MinAt l m l.length) : byTick l = l[m].1 :: byTick (rem l l[m].1) := by
  refine (ByTick.eq ⟨?_, ?_⟩).symm
  · refine (List.Perm.cons _ (byTick_is (rem l l[m].1)).1).trans ?_
    have h1 : (l[m] :: rem l l[m].1).Perm l := by
      refine (List.perm_ext_iff_of_nodup ?_ ?_).2 (fun p => ?_)
      · refine List.nodup_cons.2 ⟨fun hh => (mem_rem.1 hh).2 rfl, ?_⟩
        exact (List.Pairwise.imp (fun {a b} hab e => by rw [e] at hab; omega) (hr.rem l[m].1))
      · exact List.Pairwise.imp (fun {a b} hab e => by rw [e] at hab; omega) hr
      · rw [List.mem_cons, mem_rem]
        constructor
        · rintro (rfl | hh)
          · exact List.getElem_mem hm
          · exact hh.1
        · intro hp
          by_cases e : p.1 = l[m].1
          · exact .inl (rising_inj hr hp (List.getElem_mem hm) e)
          · exact .inr ⟨hp, e⟩
    have := h1.map (·.1)
    simpa [keys] using this
  · have hc : code l l[m].1 = l[m].2 := code_of hr (List.getElem_mem hm)
    have hy : ∀ y ∈ byTick (rem l l[m].1), ∃ i, ∃ hi : i < l.length, i ≠ m ∧ y = l[i].1 ∧ code l y = l[i].2 ∧ code (rem l l[m].1) y = code l y := fun y hy => by
      have hy2 := (byTick_is (rem l l[m].1)).1.mem_iff.1 hy
      obtain ⟨p, hp, rfl⟩ := List.mem_map.1 hy2
      obtain ⟨hp1, hp2⟩ := mem_rem.1 hp
      obtain ⟨i, hi, he⟩ := List.mem_iff_getElem.1 hp1
      refine ⟨i, hi, fun e => hp2 (by subst e; rw [he]), by rw [he], by rw [he]; exact code_of hr hp1, code_rem_other hr hp2⟩
    refine List.pairwise_cons.2 ⟨fun y hyy => ?_, ?_⟩
    · obtain ⟨i, hi, hne, rfl, hcy, _⟩ := hy y hyy
      unfold Lt
      rw [hc, hcy]
      have h1 := h.least i hi hm hi
      rcases Nat.lt_or_ge i m with h2 | h2
      · have := h.first i hi hm h2
        omega
      · have := List.pairwise_iff_getElem.1 hr m i hm hi (by omega)
        omega
    · refine (byTick_is (rem l l[m].1)).2.imp_of_mem (fun {u v} hu hv huv => ?_)
      obtain ⟨_, _, _, _, _, h1⟩ := hy u hu
      obtain ⟨_, _, _, _, _, h2⟩ := hy v hv
      unfold Lt at huv ⊢
      rw [h1, h2] at huv
      exact huv
theorem rem_len (hr : Rising l) {m : Nat} (hm : m < l.length) : (rem l l[m].1).length + 1 = l.length :=
  len_rem hr ((look_some hr).2 (show (l[m].1, l[m].2) ∈ l from List.getElem_mem hm))
theorem sorted_loop (N : Nat) : ∀ (l : PL), l.length = N → Rising l → N ≤ 1000 →
    (∀ (k : Nat) (acc : List Int), acc.length + N ≤ 1000 → (N + 3) * (N + 3) ≤ k → hostlerref04_Sorted.l0 k acc (keys l) (vals l) = some (acc ++ byTick l)) := by
  induction N with
  | zero =>
    intro l hl hr hN k acc ha hk
    obtain ⟨k, rfl⟩ : ∃ m, k = m + 1 := ⟨k - 1, by omega⟩
    have : l = [] := List.length_eq_zero_iff.1 hl
    subst this
    rw [hostlerref04_Sorted.l0, if_neg (by simp [keys])]
    simp [byTick, keys]
  | succ N ih =>
    intro l hl hr hN k acc ha hk
    have hk2 : (N + 4) * (N + 4) = (N + 3) * (N + 3) + (2 * N + 7) := by
      rw [show N + 4 = (N + 3) + 1 from rfl, Nat.add_mul, Nat.mul_add]
      omega
    have hk3 : (N + 3) * (N + 3) + (2 * N + 7) ≤ k := by rw [← hk2]; exact hk
    have hbig : N + 3 ≤ (N + 3) * (N + 3) := Nat.le_mul_of_pos_left _ (by omega)
    obtain ⟨k, rfl⟩ : ∃ m, k = m + 1 := ⟨k - 1, by omega⟩
    have inner : ∀ (d k m j : Nat), l.length - j = d → j ≤ l.length → d + 1 + (N + 3) * (N + 3) ≤ k → MinAt l m j → hostlerref04_Sorted.l1 k acc (m : Int) (j : Int) (keys l) (vals l) = some (acc ++ byTick l) := by
      intro d
      induction d with
      | zero =>
        intro k m j hd hj hk hm
        obtain ⟨k, rfl⟩ : ∃ m, k = m + 1 := ⟨k - 1, by omega⟩
        have hml : m < l.length := by have := hm.lt; omega
        have hjl : j = l.length := by omega
        subst hjl
        rw [hostlerref04_Sorted.l1, if_neg (by rw [len_keys]; omega), if_pos (by omega), if_pos (by rw [len_keys]; omega), if_pos (by omega), rd_keys hml, cancel_is hr _ (by omega) (by omega), Option.bind_some]
        have hrl := rem_len hr hml
        rw [ih (rem l l[m].1) (by omega) (hr.rem _) (by omega) k (acc ++ [l[m].1]) (by simp; omega) (by omega), byTick_cons hr hml hm]
        simp
      | succ d ihd =>
        intro k m j hd hj hk hm
        obtain ⟨k, rfl⟩ : ∃ m, k = m + 1 := ⟨k - 1, by omega⟩
        have hml : m < l.length := by have := hm.lt; omega
        have hjl : j < l.length := by omega
        rw [hostlerref04_Sorted.l1, if_pos (by rw [len_keys]; omega), if_pos (by omega), if_pos (by rw [len_vals]; omega), if_pos (by omega), if_pos (by rw [len_vals]; omega), rd_vals hjl, rd_vals hml, wr1 (by omega)]
        by_cases hlt : l[j].2 < l[m].2
        · rw [if_pos hlt]
          refine ihd k j (j + 1) (by omega) (by omega) (by omega) ⟨by omega, by omega, fun i h h2 hi => ?_, fun i h h2 hi => ?_⟩
          · by_cases e : i = j
            · subst e; exact Int.le_refl _
            · have := hm.least i h hml (by omega)
              omega
          · have := hm.least i h hml (by omega)
            omega
        · rw [if_neg hlt]
          refine ihd k m (j + 1) (by omega) (by omega) (by omega) ⟨by have := hm.lt; omega, by omega, fun i h h2 hi => ?_, fun i h h2 hi => hm.first i h h2 hi⟩
          by_cases e : i = j
          · subst e; omega
          · exact hm.least i h h2 (by omega)
    rw [hostlerref04_Sorted.l0, if_pos (by rw [len_keys]; omega)]
    exact inner N k 0 1 (by omega) (by omega) (by omega) ⟨by omega, by omega, fun i h h2 hi => by
      have : i = 0 := by omega
      subst this; exact Int.le_refl _, fun i h h2 hi => by omega⟩
theorem sorted_is (hr : Rising l) (hl : l.length ≤ 1000) {k : Nat} (hk : (l.length + 3) * (l.length + 3) ≤ k) : hostlerref04_Sorted.f k (keys l) (vals l) = some (byTick l) := by
  unfold hostlerref04_Sorted.f
  have := sorted_loop l.length l rfl hr hl k [] (by simpa using hl) hk
  simpa using this
end Go.Proofs.Ytfflhppieogkbaa.Hp
