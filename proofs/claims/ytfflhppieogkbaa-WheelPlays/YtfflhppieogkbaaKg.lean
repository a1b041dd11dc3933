/-
  The wheel's Keys: its keys by tick, then by key. Conditions: none.
-/
import Derived.Test.YtfflhppieogkbaaKe
import Derived.RangeFuncBound
set_option linter.unusedVariables false
set_option linter.unusedSimpArgs false
set_option maxRecDepth 100000
namespace Go.Proofs.Ytfflhppieogkbaa.Hp
open Go Go.RowKit Go.Maps Go.Sort Go.Shelf Go.Proofs.YtfflhppieogkbaaW.PrintWords Go.Proofs.YtfflhppieogkbaaW.PrintLast Go.Proofs.YtfflhppieogkbaaW.PrintMore Go.Proofs.Ytfflhppieogkbaa.Mp Go.Proofs.Ytfflhppieogkbaa.PA
/-- The machine's numbers. -/
abbrev K64 := {x : Int // I64 x}
instance : Inhabited K64 := ⟨⟨0, show (Lit.int .i64 0).wf = true by decide⟩⟩
def encK (x : K64) : Value := .int .i64 x.1
def cfK (l : PL) (x y : K64) : Int := orI (cmpI (code l x.1) (code l y.1)) (cmpI x.1 y.1)
/-- By tick, then by key. -/
def Lt (l : PL) (x y : Int) : Prop := code l x < code l y ∨ (code l x = code l y ∧ x < y)
theorem cf_lt (l : PL) (x y : K64) : ltOf (cfK l) x y = true ↔ Lt l x.1 y.1 := by
  unfold ltOf cfK orI cmpI Lt
  generalize code l x.1 = a
  generalize code l y.1 = b
  simp only [decide_eq_true_eq]
  (repeat' split) <;> omega
theorem cf_lt_false (l : PL) (x y : K64) : ltOf (cfK l) x y = false ↔ ¬ Lt l x.1 y.1 := by
  rw [← cf_lt]
  simp
theorem cf_swo (l : PL) : SWO (ltOf (cfK l)) where
  irrefl x := by rw [cf_lt_false]; unfold Lt; omega
  trans x y z h1 h2 := by rw [cf_lt] at *; unfold Lt at *; omega
  ntrans x y z h1 h2 := by rw [cf_lt_false] at *; unfold Lt at *; omega
theorem cf_total (l : PL) (x y : K64) (h1 : ltOf (cfK l) x y = false) (h2 : ltOf (cfK l) y x = false) : x = y := by
  rw [cf_lt_false] at *
  unfold Lt at *
  exact Subtype.ext (by omega)
theorem putRow_K (w : World) (blk off : Nat) (d : List K64) : putRow encK w blk off d.toArray = putRow encZ w blk off (d.map (·.1)).toArray := by
  unfold putRow
  congr 1
  funext c
  unfold putCells
  congr 1
  funext k x
  simp only [List.size_toArray, List.length_map]
  split
  · rename_i h
    have hk : k - off < d.length := by omega
    simp [encK, encZ, hk]
  · rfl
theorem sortWorld_far {α : Type} [Inhabited α] (enc : α → Value) (w : World) (blk off m : Nat) (dk : Array α) (os : Array Obj) : w.grownBy (sortWorld enc w blk off m dk os) (some blk) := by
  refine ⟨rfl, rfl, rfl, by simp [sortWorld], fun k hk hne => ?_⟩
  unfold sortWorld
  rw [heap_grow_old _ _ (by simpa using hk)]
  have : blk ≠ k := fun e => hne (by rw [e])
  simp [putRow, mapBlock, Sort.ahead, Array.getElem?_modify, this]
theorem keys_it (mb : Nat) (W : World) : Calls Try.prog 38 #[.map (some mb)] W fun e w' => e = .returned (.func (.func 51) #[] #[.pointer (some ⟨W.heap.size, 0, none⟩)]) ∧ w' = W.alloc (.cells #[.map (some mb)] 58) :=
  (callsIn_wide (n := 5)).1 (AnyZI.keys_in Try.keys38 Fence.wide 5 trivial rfl (some mb) W)
theorem collect_call {W : World} {b : Nat} {l : PL} (hM : MapI W b l) (hl : l.length ≤ 1000000) :
    Calls Try.prog 49 #[.func (.func 51) #[] #[.pointer (some ⟨W.heap.size, 0, none⟩)]] (W.alloc (.cells #[.map (some b)] 58)) fun e w' => ∃ (v : Value) (ss : List Int), e = .returned v ∧ ss.Perm (keys l) ∧ kI.R 3 w' W.heap.size (fun _ => True) v ss ∧ Below (W.alloc (.cells #[.map (some b)] 58)).heap.size (W.alloc (.cells #[.map (some b)] 58)) w' := by
  have hbl := hM.lt
  have hsz : Maps.size (dm l) = l.length := size_dm l
  have hseq : SeqGives Fence.wide 3 Try.prog 51 #[.pointer (some ⟨W.heap.size, 0, none⟩)] encZ (fun ss => ss.Perm (intKeys (dm l))) (Maps.size (dm l)) (W.alloc (.cells #[.map (some b)] 58)) :=
    AnyZI.keys_gives (ρ := Try.keys38_ren) { Try.keys38 with } Fence.wide _ trivial rfl (by omega) W.heap.size b l.length (dm l) _ (by simp) (by simp) (by
      obtain ⟨es, clock, hb, Ft, hs, hD⟩ := hM.2
      exact ⟨es, clock, (Below.heap_alloc _ _ b hbl).trans hb, Ft, hs, hD⟩)
  have cS := AnyZI.collect_in Try.collect49 Fence.wide 5 trivial trivial rfl (by omega) 51 #[.pointer (some ⟨W.heap.size, 0, none⟩)] trivial (enters_of Try.func51 (by kernel_rfl) rfl) _ _ (by rw [hsz]; unfold maxLen; omega) (by rw [hsz]; omega) _ hseq
  change CallsIn _ _ Try.prog 49 _ _ _ at cS
  refine ((callsIn_wide (n := 5)).1 cS).mono ?_
  rintro e w' ⟨v, ss, rfl, hS, hrow, hnil, hb⟩
  rw [keys_dm] at hS
  exact ⟨v, ss, rfl, hS, Kd.R_lower (Kd.R_of_own hrow (fun _ _ => trivial)) (below_alloc (Below.refl W.heap.size W) _).size, hb⟩
/-- slices.SortFunc at the wheel's closure. -/
theorem sortf_call {W : World} {base B g mb : Nat} {l : PL} {v vh : Value} {ss : List Int} (hR : kI.R 3 W base (fun _ => True) v ss) (hI : ∀ x ∈ ss, I64 x) (hl : ss.length ≤ 1000000) (hB : W.heap[B]? = some (.cells #[.pointer (some ⟨g, 0, none⟩)] 29 (0, 0)))
    (hg : W.heap[g]? = some (.cells #[.map (some mb), vh] 62 (0, 0))) (hM : MapI W mb l) :
    Calls Try.prog 50 #[v, .func (.func 39) #[] #[.pointer (some ⟨B, 0, none⟩)]] W fun e w' => e = .returned (.tuple #[]) ∧ ∃ ks : List Int, ks.Perm ss ∧ ks.Pairwise (fun x y => ¬ Lt l y x) ∧ kI.R 3 w' base (fun _ => True) v ks ∧ W.grownBy w' v.ownBlock := by
  have hown : W.ownsRow base 3 1 v ss.length (encs (Value.int .i64) ss) := Kd.own_of_R hR
  rcases hown.2 with ⟨rfl, hz⟩ | ⟨gb, cap, cur, rfl, hbase, hgb, r1, r2, r3, r4⟩
  · have hss : ss = [] := List.eq_nil_of_length_eq_zero hz
    subst hss
    have cS := AnyF.slices_SortFunc_none (ρ := Try.sortf50_ren) { Try.sortf50 with } none 0 (.func (.func 39) #[] #[.pointer (some ⟨B, 0, none⟩)]) W
    change Calls Try.prog 50 _ _ _ at cS
    refine cS.mono ?_
    rintro e w' ⟨rfl, rfl⟩
    exact ⟨rfl, [], List.Perm.refl _, List.Pairwise.nil, hR, grown_of_below (Below.refl _ _)⟩
  · have hgl : gb < W.heap.size := (Array.getElem?_eq_some_iff.1 hgb).1
    obtain ⟨dk, hdk⟩ : ∃ dk : List K64, dk.map (·.1) = ss := ⟨ss.attach.map (fun x => ⟨x.1, hI x.1 x.2⟩), by simp [Function.comp]⟩
    have hdl : dk.length = ss.length := by rw [← hdk]; simp
    have hH0 : Holds (Value.int .i64) W gb 0 ss.toArray := holds_of_block_i hgb (by simpa [encs] using r4)
    have hH : Holds encK W gb 0 dk.toArray := fun j hj => by
      have hj2 : j < dk.length := by simpa using hj
      have := hH0 j (by simpa [← hdl] using hj)
      rw [← hdk] at this
      simpa [encK, hj2] using this
    have hcmp : CmpLays1 Try.prog 39 #[.pointer (some ⟨B, 0, none⟩)] encK (cfK l) gb 0 dk.toArray.size W := fun m os dk' hs x y => by
      have hf := sortWorld_far encK W gb 0 m dk' os
      have hne1 : some B ≠ some gb := fun e => by
        injection e with e
        subst e
        rw [hB] at hgb
        injection hgb with hgb
        injection hgb with _ h2 _
        cases h2
      have hne2 : some g ≠ some gb := fun e => by
        injection e with e
        subst e
        rw [hg] at hgb
        injection hgb with hgb
        injection hgb with _ h2 _
        cases h2
      have hne3 : some mb ≠ some gb := fun e => by
        injection e with e
        subst e
        exact ne_map hgb hM rfl
      refine (clo_call x.1 y.1 x.2 y.2 ((hf.block B (blk_lt hB) hne1).trans hB) ((hf.block g (blk_lt hg) hne2).trans hg) (hM.step (hf.block mb hM.lt hne3))).mono ?_
      rintro e w' ⟨rfl, rfl⟩
      exact ⟨rfl, 1, _, alloc_eq_grow _ _⟩
    have cS := Any.slices_SortFunc_total (ρ := Try.sortf50_ren) Try.sortf50 encK (fun _ => rfl) (cfK l) (cf_swo l) 39 #[.pointer (some ⟨B, 0, none⟩)] gb 0 cap dk.toArray W (enters_of Try.func39 (by kernel_rfl) rfl) hcmp hH hgl (by simp; omega) (cf_total l)
    change Calls Try.prog 50 _ _ _ at cS
    rw [show dk.toArray.size = ss.length by simp [hdl]] at cS
    refine cS.mono ?_
    rintro e w' ⟨rfl, nn, os, rfl⟩
    have hp : ((dk.mergeSort (fun x y => !(ltOf (cfK l)) y x)).map (·.1)).Perm ss := by
      rw [← hdk]
      exact (List.mergeSort_perm _ _).map _
    have hpw : ((dk.mergeSort (fun x y => !(ltOf (cfK l)) y x)).map (·.1)).Pairwise (fun x y => ¬ Lt l y x) := by
      refine List.pairwise_map.2 ?_
      have ht : ∀ a b c : K64, (!(ltOf (cfK l)) b a) = true → (!(ltOf (cfK l)) c b) = true → (!(ltOf (cfK l)) c a) = true := by
        intro a b c h1 h2
        simp only [Bool.not_eq_true', cf_lt_false] at *
        unfold Lt at *
        omega
      have hto : ∀ a b : K64, ((!(ltOf (cfK l)) b a) || (!(ltOf (cfK l)) a b)) = true := by
        intro a b
        simp only [Bool.or_eq_true, Bool.not_eq_true', cf_lt_false]
        unfold Lt
        omega
      refine (List.pairwise_mergeSort ht hto dk).imp (fun h => ?_)
      simpa only [Bool.not_eq_true', cf_lt_false] using h
    have hw : sortWorld encK W gb 0 nn (dk.mergeSort (fun x y => !(ltOf (cfK l)) y x)).toArray os = grow (putRow encZ (Sort.ahead W nn) gb 0 ((dk.mergeSort (fun x y => !(ltOf (cfK l)) y x)).map (·.1)).toArray) os := by
      unfold sortWorld
      rw [putRow_K]
    have hlm := hp.length_eq
    have ho := ownsRow_sorted_i (n := nn) (os := os) hlm hbase hgb r1 r2 r3
    refine ⟨rfl, _, hp, hpw, ?_, sortWorld_far encK W gb 0 nn _ os⟩
    show kI.R 3 (sortWorld encK W gb 0 nn (dk.mergeSort (fun x y => !(ltOf (cfK l)) y x)).toArray os) base _ _ _
    rw [hw]
    exact Kd.R_of_own (by rw [hlm]; exact ho) (fun _ _ => trivial)
/-- The keys by tick, then by key. -/
def ByTick (l : PL) (ks : List Int) : Prop := ks.Perm (keys l) ∧ ks.Pairwise (fun x y => ¬ Lt l y x)
set_option maxHeartbeats 4000000 in
theorem sortedf_call {W : World} {B g mb : Nat} {l : PL} {vh : Value} (hI : ∀ x ∈ keys l, I64 x) (hl : l.length ≤ 1000000) (hB : W.heap[B]? = some (.cells #[.pointer (some ⟨g, 0, none⟩)] 29 (0, 0)))
    (hg : W.heap[g]? = some (.cells #[.map (some mb), vh] 62 (0, 0))) (hM : MapI W mb l) :
    Calls Try.prog 37 #[.func (.func 51) #[] #[.pointer (some ⟨W.heap.size, 0, none⟩)], .func (.func 39) #[] #[.pointer (some ⟨B, 0, none⟩)]] (W.alloc (.cells #[.map (some mb)] 58)) fun e w' => ∃ (v : Value) (ks : List Int), e = .returned v ∧ ByTick l ks ∧ kI.R 3 w' W.heap.size (fun _ => True) v ks ∧ Below W.heap.size W w' := by
  have hb1 : Below W.heap.size W (W.alloc (.cells #[.map (some mb)] 58)) := below_alloc (Below.refl _ _) _
  have HC := Aside0.mk (collect_call hM hl)
  have HS : Aside0 (∀ (w3 : World) (v : Value) (ss : List Int), Below W.heap.size W w3 → ss.Perm (keys l) → kI.R 3 w3 W.heap.size (fun _ => True) v ss → Calls Try.prog 50 #[v, .func (.func 39) #[] #[.pointer (some ⟨B, 0, none⟩)]] w3 fun e w' => e = .returned (.tuple #[]) ∧ ∃ ks : List Int, ks.Perm ss ∧ ks.Pairwise (fun x y => ¬ Lt l y x) ∧ kI.R 3 w' W.heap.size (fun _ => True) v ks ∧ w3.grownBy w' v.ownBlock) :=
    ⟨fun w3 v ss hb hp hR => sortf_call hR (fun x hx => hI x (hp.mem_iff.1 hx)) (by rw [hp.length_eq]; simpa [keys] using hl) (blk_below hB hb) (blk_below hg hb) (hM.step (hb.block mb hM.lt))⟩
  have HB1 := Aside0.mk hb1
  clear hI hl hB hg hM hb1
  go_enter Try.func37, Try.ntmps37
  go_wp2_with (first
    | (go_at_call 49; (with_reducible refine HC.out.mono ?_); rintro e w3 ⟨v, ss, rfl, hp, hR, hb⟩; have HP := Aside0.mk hp; have HR := Aside0.mk hR; have HB3 := Aside0.mk (below_step HB1.out hb); have HS3 := Aside0.mk (HS.out w3 v ss HB3.out hp hR); clear hp hR hb)
    | (go_at_call 50; (with_reducible refine HS3.out.mono ?_); rintro e w4 ⟨rfl, ks, hp4, hw4, hR4, hg4⟩; have HF := Aside0.mk (And.intro hp4 (And.intro hw4 (And.intro hR4 hg4))); clear hp4 hw4 hR4 hg4))
  go_ret
  obtain ⟨hp4, hw4, hR4, hg4⟩ := HF.out
  exact ⟨_, ks, rfl, ⟨hp4.trans HP.out, hw4⟩, hR4, (Tch.of_grown (S := fun k => v.ownBlock = some k) hg4 (fun k hk => hk)).below HB3.out HB3.out.size (fun k _ hk => Kd.R_base HR.out k hk)⟩
set_option maxHeartbeats 4000000 in
theorem keys_any {w0 W : World} {g : Nat} {s : WS} (hI : IsW w0 W g s) (hl : s.ats.length ≤ 1000000) :
    Calls Try.prog 22 #[.pointer (some ⟨g, 0, none⟩)] W fun e w' => ∃ (v : Value) (ks : List Int), e = .returned v ∧ ByTick s.ats ks ∧ kI.R 3 w' W.heap.size (fun _ => True) v ks ∧ Below W.heap.size W w' := by
  obtain ⟨xs, hX, hxl⟩ := hI
  have hkI : ∀ x ∈ keys s.ats, I64 x := fun x hx => by
    obtain ⟨p, hp, rfl⟩ := List.mem_map.1 hx
    exact (hX.keyI p hp).1
  obtain ⟨mb, A, n, hb, hg, hM, hgm, hR, hH, hC, hG⟩ := hX.open_
  obtain ⟨B, hBe⟩ : ∃ B, B = W.heap.size := ⟨_, rfl⟩
  obtain ⟨W1, hW1⟩ : ∃ W1, W1 = W.alloc (.cells #[.pointer (some ⟨g, 0, none⟩)] 29) := ⟨_, rfl⟩
  have hb1 : Below W.heap.size W W1 := by rw [hW1]; exact below_alloc (Below.refl _ _) _
  have hB1 : W1.heap[B]? = some (.cells #[.pointer (some ⟨g, 0, none⟩)] 29 (0, 0)) := by rw [hW1, hBe]; exact heap_alloc_new _ _
  have c0 : W1.cell? ⟨B, 0, none⟩ = some (.pointer (some ⟨g, 0, none⟩)) := (blk_cell hB1 0).trans rfl
  have c1 : W1.cell? ⟨g, 0, none⟩ = some (.map (some mb)) := (blk_cell (blk_below hb hb1) 0).trans rfl
  have HS := Aside0.mk (sortedf_call hkI hl hB1 (blk_below hb hb1) (hM.step (hb1.block mb hM.lt)))
  have HK := Aside0.mk (keys_it mb W1)
  have HB1 := Aside0.mk hb1
  have HW := Aside0.mk hW1
  have HBE := Aside0.mk hBe
  clear hX hkI hb hg hM hgm hR hH hC hG hB1 hb1 hl hxl
  go_enter Try.func22, Try.ntmps22
  go_upto_region 1 with fail
  rw [← hW1, ← hBe]
  clear hW1 hBe
  go_wp2_with (first
    | (go_at_call 38; (with_reducible refine HK.out.mono ?_); rintro e w2 ⟨rfl, rfl⟩)
    | (go_at_call 37; (with_reducible refine HS.out.mono ?_); rintro e w3 ⟨v, ks, rfl, hby, hR3, hb3⟩; have HF := Aside0.mk (And.intro hby (And.intro hR3 hb3)); clear hby hR3 hb3))
  go_ret
  obtain ⟨hby, hR3, hb3⟩ := HF.out
  exact ⟨_, ks, rfl, hby, Kd.R_lower hR3 HB1.out.size, below_step HB1.out hb3⟩
/-- Two rows of the keys by tick are one. -/
theorem ByTick.unique {l : PL} {a b : List Int} (ha : ByTick l a) (hb : ByTick l b) : a = b := by
  refine List.Perm.eq_of_pairwise (le := fun x y => ¬ Lt l y x) (fun x y _ _ h1 h2 => ?_) ha.2 hb.2 (ha.1.trans hb.1.symm)
  unfold Lt at *
  omega
end Go.Proofs.Ytfflhppieogkbaa.Hp
