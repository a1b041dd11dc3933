/-
  The contracts of the closures of package choose. Conditions: none.
-/
import Derived.Test.YthloffjgbgmpkaaPAx1
import Derived.Test.YthloffjgbgmpkaaPAx5
import Derived.WalkSpells
import Derived.WalkLawsBesides
import Derived.Handy
set_option linter.unusedVariables false
set_option linter.unusedSimpArgs false
namespace Go.Proofs.Ythloffjgbgmpkaa.Man
open Go.RowKit Go.Proofs.Ythloffjgbgmpkaa.PA Go.Proofs.YthloffjgbgmpkaaW.PrintWords Go.Proofs.YthloffjgbgmpkaaW.PrintLast Go.Proofs.YthloffjgbgmpkaaW.PrintMore

variable {P : Program} {ops : Array Oper} {Q : Exit → Act → World → Prop}
open Go.Proofs.YthloffjgbgmpkaaW.PrintWords in
/-- A call of a function value, in a region of any order. -/
theorem goesV_ {oi : Oper} {N : Option Tmp} {a : Act} {w : World} {K : Act → World → Prop} {f : FuncId} {fn : Func} {ags : Array Operand} {ts : Array TypeId} {q : Tmp} {caps : Array Value} (hf : P.funcs[f]? = some fn) (hname : (fn.name == "runtime.NumGoroutine") = false) (hb : fn.body.isSome = true) (args : Array Value)
    (hw : Region.wanted oi (yielded ops a.tmps) = true) (hN : oi.dst = N) (hop : oi.op = .call { callee := .value (.tmp q), args := ags, argTypes := ts }) (hv : a.eval (.tmp q) = .func (.func f) #[] caps) (hargs : ags.map a.eval ++ caps = args)
    (h : Calls P f args w fun e w' => ∃ v, e = .returned v ∧ K (a.put N v) w') : if Region.wanted oi (yielded ops a.tmps) = true then Oper.wp P oi a w K Q else K (a.put N undef) w := by
  refine call_ f args hw hN ?_ h
  have he := enters_ hf hname hb args w
  unfold execOp
  simp [hop, resolve, Deferred.ofValue, invoke, hv, hargs, he]
/-- A field of a value. -/
theorem field3 (a0 a1 a2 a3 : Int) (a4 : Bool) (w : World) : (Instr.field 32 (.agg #[.int .i64 a0, .int .i64 a1, .int .i64 a2, .int .i64 a3, .bool a4]) 3).run Try.prog w = .ok (.int .i64 a3) w := by kernel_rfl
def choose_Serve_2.f (a0_0 a0_1 a0_2 a0_3 : Int) (a0_4 : Bool) : Option Int := some (mx a0_3 0)
set_option maxHeartbeats 1000000 in
theorem choose_Serve_2.calls (a0_0 a0_1 a0_2 a0_3 : Int) (a0_4 : Bool) (r : Int) (w : World) (h : choose_Serve_2.f a0_0 a0_1 a0_2 a0_3 a0_4 = some r) :
    Calls Try.prog 23 #[.agg #[.int .i64 a0_0, .int .i64 a0_1, .int .i64 a0_2, .int .i64 a0_3, .bool a0_4]] w fun e w' => e = .returned (.int .i64 r) ∧ Below w.heap.size w w' := by
  obtain rfl := Option.some.inj h
  have hu32 := Try.underlying32
  have hf := field3
  go_enter Try.func23, Try.ntmps23
  go_wp2_with (go_at_call 24; refine (choose_right.calls a0_0 a0_1 a0_2 a0_3 a0_4 a0_0 (mx a0_1 0) (mx a0_2 0) (mx a0_3 0) a0_4 _ rfl).mono ?_; rintro e w' ⟨rfl, hb⟩)
  go_ret
  exact ⟨rfl, below_step (Below.alloc (Below.refl _ _) (Nat.le_refl _) _) hb⟩
def choose_Open_1.f (a0_0 a0_1 a0_2 a0_3 : Int) (a0_4 : Bool) (a1 : Int) : Option Bool := choose_opens.f a0_0 a0_1 a0_2 a0_3 a0_4 a1
set_option maxHeartbeats 1000000 in
theorem choose_Open_1.calls (a0_0 a0_1 a0_2 a0_3 : Int) (a0_4 : Bool) (a1 : Int) (r : Bool) {B1 : Nat} (w : World) (hcap : w.cell? ⟨B1, 0, none⟩ = some (.int .i64 a1)) (h : choose_Open_1.f a0_0 a0_1 a0_2 a0_3 a0_4 a1 = some r) :
    Calls Try.prog 25 #[.agg #[.int .i64 a0_0, .int .i64 a0_1, .int .i64 a0_2, .int .i64 a0_3, .bool a0_4], .pointer (some ⟨B1, 0, none⟩)] w fun e w' => e = .returned (.bool r) ∧ Below w.heap.size w w' := by
  have H := Aside0.mk h
  clear h
  have hu32 := Try.underlying32
  have hlt := World.block_lt_of_cell? w _ hcap
  go_enter Try.func25, Try.ntmps25
  go_wp2_with (go_at_call 26; refine (choose_opens.calls a0_0 a0_1 a0_2 a0_3 a0_4 a1 r _ H.out).mono ?_; rintro e w' ⟨rfl, hb⟩)
  go_ret
  exact ⟨rfl, below_step (Below.alloc (Below.refl _ _) (Nat.le_refl _) _) hb⟩
end Go.Proofs.Ythloffjgbgmpkaa.Man
