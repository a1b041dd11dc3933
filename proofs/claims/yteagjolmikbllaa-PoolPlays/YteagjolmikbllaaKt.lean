/-
  slices.Sorted(maps.Keys(m)) at a map of whole numbers: its keys, rising. Conditions: none.
-/
import Derived.Test.YteagjolmikbllaaKs
import Derived.Test.YteagjolmikbllaaMp
import Derived.Test.YteagjolmikbllaaWMore
set_option linter.unusedVariables false
set_option linter.unusedSimpArgs false
namespace Go.Proofs.Yteagjolmikbllaa.Mp
open Go Go.Maps Go.RowKit Go.Sort Go.Shelf Go.Proofs.YteagjolmikbllaaW.PrintWords
theorem sorts (m : Nat) : AnyZI.SortsIn Try.prog Try.sorted47_ren Fence.wide m :=
  ⟨fun blk off cap ss W hH hblk hsz => callsIn_wide.2 (AnyM.slices_Sort_int Try.sort52 blk off cap ss W hH hblk hsz),
   fun p cap W => callsIn_wide.2 (AnyM.slices_Sort_int_none Try.sort52 p cap W)⟩
theorem keys_call (mb : Option Nat) (W : World) : Calls Try.prog 48 #[.map mb] W fun e w' => e = .returned (.func (.func 53) #[] #[.pointer (some ⟨W.heap.size, 0, none⟩)]) ∧ w' = W.alloc (.cells #[.map mb] 56) :=
  (callsIn_wide (n := 5)).1 (AnyZI.keys_in Try.keys48 Fence.wide 5 trivial rfl mb W)
theorem row_of_own {W : World} {base : Nat} {v : Value} {xs : List Int} (h : W.ownsRow base 3 1 v xs.length (xs.map (Value.int .i64))) : (Kd.int .i64).R 3 W base (fun _ => True) v xs := Kd.R_of_own h (fun _ _ => trivial)
theorem sorted_call (b : Nat) (l : PL) (w : World) (hM : MapI w b l) (hl : l.length ≤ 1000000) :
    Calls Try.prog 47 #[.func (.func 53) #[] #[.pointer (some ⟨w.heap.size, 0, none⟩)]] (w.alloc (.cells #[.map (some b)] 56)) fun e w' => ∃ v : Value, e = .returned v ∧ (Kd.int .i64).R 3 w' (w.heap.size + 1) (fun _ => True) v (keys l) ∧ Below (w.heap.size + 1) (w.alloc (.cells #[.map (some b)] 56)) w' := by
  have hbl := hM.lt
  have hsz : Maps.size (dm l) = l.length := size_dm l
  have hseq : SeqGives Fence.wide 2 Try.prog 53 #[.pointer (some ⟨w.heap.size, 0, none⟩)] encZ (fun ss => ss.Perm (intKeys (dm l))) (Maps.size (dm l)) (w.alloc (.cells #[.map (some b)] 56)) :=
    AnyZI.keys_gives (ρ := Try.keys48_ren) { Try.keys48 with } Fence.wide _ trivial rfl (by omega) w.heap.size b l.length (dm l) _ (by simp) (by simp) (by
      obtain ⟨es, clock, hb, Ft, hs, hD⟩ := hM.2
      exact ⟨es, clock, (Below.heap_alloc _ _ b hbl).trans hb, Ft, hs, hD⟩)
  have cS := AnyZI.sorted_in Try.sorted47 Fence.wide 5 trivial trivial trivial trivial rfl (by omega) (sorts _) (enters_of Try.func52 (by kernel_rfl) rfl) 53 #[.pointer (some ⟨w.heap.size, 0, none⟩)] trivial (enters_of Try.func53 (by kernel_rfl) rfl) _ _ (by rw [hsz]; unfold maxLen; omega) (by rw [hsz]; omega) _ hseq
  change CallsIn _ _ Try.prog 47 _ _ _ at cS
  refine ((callsIn_wide (n := 5)).1 cS).mono ?_
  rintro e w' ⟨v, ss, rfl, hS, hrow, hnil, hb⟩
  rw [keys_dm] at hS
  have hk : ss.mergeSort (fun x y => decide (x ≤ y)) = keys l := sorted_keys hM.1 hS
  have hlen : ss.length = (keys l).length := hS.length_eq
  have e1 : (w.alloc (.cells #[.map (some b)] 56)).heap.size = w.heap.size + 1 := by simp
  refine ⟨v, rfl, ?_, by rw [← e1]; exact hb⟩
  rw [← e1]
  rw [hk, hlen] at hrow
  exact row_of_own hrow
end Go.Proofs.Yteagjolmikbllaa.Mp
