/-
  An array of two or three ints that comes in by value: its cells, out of the reading. Conditions: its type's shape in the program.
-/
import Derived.Lib.SmallJoins
import Derived.OpenShut
import Derived.WideShapes
namespace Go.Proofs.YtmlmiocomlehgaaArr
open Go Go.Joins Go.WideShapes
section
variable {H : Type} {enc : TypeId × Value → H} {P : Program} {w : World} {base : Nat} {spare : Nat → Bool} {held : Bool} {r : Reach} {b0 : Nat}

theorem okWide_array {t e : TypeId} {n : Nat} {v : Value} (ht : P.underlying t = some (.array n e)) (h : Value.okWide P w r base t v) : ∃ cs, v = .agg cs ∧ cs.size = P.cellsOf t := by
  simp only [Value.okWide, ht] at h
  obtain ⟨cs, h1, h2, _⟩ := h
  exact ⟨cs, h1, h2⟩
theorem cell_int {e : TypeId} {k : IntKind} {m : Nat} {c : Value} {x : DataW H × List MemPlace} (he : P.underlying e = some (.int k)) (h : DataW.trod enc P w base spare held m e [c] = some x) : ∃ n, c = .int k n ∧ (Lit.int k n).wf = true := by
  obtain ⟨n, e0, _, wn⟩ := DataW.trod_int he h
  simp only [List.cons.injEq, and_true] at e0
  exact ⟨n, e0, wn⟩
theorem open_arr2 {t e : TypeId} {k : IntKind} {v : Value} {d : DataW H} {p : List MemPlace} (ht : P.underlying t = some (.array 2 e)) (he : P.underlying e = some (.int k)) (hce : P.cellsOf e = 1) (hC : P.cellsOf t = 2)
    (hv : Value.okWide P w r b0 t v) (h : DataW.Trod enc P w base spare held t v d p) :
    ∃ x y : Int, v = .agg #[.int k x, .int k y] ∧ (Lit.int k x).wf = true ∧ (Lit.int k y).wf = true := by
  obtain ⟨cs, rfl, hsz⟩ := okWide_array ht hv
  obtain ⟨c0, c1, rfl⟩ := array2 (hsz.trans hC)
  obtain ⟨fuel, hf⟩ := h
  obtain ⟨xs, m, _, _, _, hlen, hx⟩ := DataW.trod_array ht hf
  have h0 := hx 0 (by omega)
  have h1 := hx 1 (by omega)
  simp only [hce, Value.cells] at h0 h1
  obtain ⟨x0, e0⟩ : ∃ x, xs[0]? = some x := ⟨xs[0], List.getElem?_eq_getElem (by omega)⟩
  obtain ⟨x1, e1⟩ : ∃ x, xs[1]? = some x := ⟨xs[1], List.getElem?_eq_getElem (by omega)⟩
  rw [e0] at h0
  rw [e1] at h1
  obtain ⟨a, ha, wa⟩ := cell_int he (c := c0) (by simpa using h0)
  obtain ⟨b, hb, wb⟩ := cell_int he (c := c1) (by simpa using h1)
  exact ⟨a, b, by rw [ha, hb], wa, wb⟩
theorem open_arr3 {t e : TypeId} {k : IntKind} {v : Value} {d : DataW H} {p : List MemPlace} (ht : P.underlying t = some (.array 3 e)) (he : P.underlying e = some (.int k)) (hce : P.cellsOf e = 1) (hC : P.cellsOf t = 3)
    (hv : Value.okWide P w r b0 t v) (h : DataW.Trod enc P w base spare held t v d p) :
    ∃ x y z : Int, v = .agg #[.int k x, .int k y, .int k z] ∧ (Lit.int k x).wf = true ∧ (Lit.int k y).wf = true ∧ (Lit.int k z).wf = true := by
  obtain ⟨cs, rfl, hsz⟩ := okWide_array ht hv
  obtain ⟨c0, c1, c2, rfl⟩ := array3 (hsz.trans hC)
  obtain ⟨fuel, hf⟩ := h
  obtain ⟨xs, m, _, _, _, hlen, hx⟩ := DataW.trod_array ht hf
  have h0 := hx 0 (by omega)
  have h1 := hx 1 (by omega)
  have h2 := hx 2 (by omega)
  simp only [hce, Value.cells] at h0 h1 h2
  obtain ⟨x0, e0⟩ : ∃ x, xs[0]? = some x := ⟨xs[0], List.getElem?_eq_getElem (by omega)⟩
  obtain ⟨x1, e1⟩ : ∃ x, xs[1]? = some x := ⟨xs[1], List.getElem?_eq_getElem (by omega)⟩
  obtain ⟨x2, e2⟩ : ∃ x, xs[2]? = some x := ⟨xs[2], List.getElem?_eq_getElem (by omega)⟩
  rw [e0] at h0
  rw [e1] at h1
  rw [e2] at h2
  obtain ⟨a, ha, wa⟩ := cell_int he (c := c0) (by simpa using h0)
  obtain ⟨b, hb, wb⟩ := cell_int he (c := c1) (by simpa using h1)
  obtain ⟨c, hc, wc⟩ := cell_int he (c := c2) (by simpa using h2)
  exact ⟨a, b, c, by rw [ha, hb, hc], wa, wb, wc⟩
end
end Go.Proofs.YtmlmiocomlehgaaArr
