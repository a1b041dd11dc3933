/-
  Walks through communications that never wait, in one goroutine: codes in frames of the ordinary kind. Conditions: none.
-/
import Derived.Conc.LoneCalls
import Derived.Conc.LoneSelect
import Derived.Conc.LoneSelectN
import Derived.WalkKit
set_option linter.unusedVariables false
set_option linter.unusedSimpArgs false
namespace Go.Proofs.Yteagjolmikbllaa.Comm
open Go.RowKit Go.Conc

/-- A code in an ordinary frame. -/
def wpN (P : Program) (c : Code) (Q : Exit → Act → World → Prop) (a : Act) (w : World) : Prop :=
  ∀ (b : Frame) (k : List Item) (cs : List Frame), b.kind = .normal →
    ∃ e a' w', Q e a' w' ∧ Arrives P (lone (b.at a (.code c :: k)) cs w) b k cs e a' w'

section
variable {P : Program} {Q : Exit → Act → World → Prop} {a : Act} {w : World}
theorem wpN_of {c : Code} (h : c.wp P Q a w) : wpN P c Q a w := fun b k cs _ => h b k cs
theorem wpN_seq {x y : Code} (h : wpN P x (Exit.then (wpN P y Q) Q) a w) : wpN P (.seq x y) Q a w := by
  intro b k cs hb
  obtain ⟨e, a₁, w₁, hq, harr⟩ := h b (.code y :: k) cs hb
  have pass : ∀ e, e ≠ .normal → Q e a₁ w₁ → Arrives P (lone (b.at a (.code x :: .code y :: k)) cs w) b (.code y :: k) cs e a₁ w₁ →
      ∃ e a' w', Q e a' w' ∧ Arrives P (lone (b.at a (.code (.seq x y) :: k)) cs w) b k cs e a' w' :=
    fun e he hq h => ⟨e, a₁, w₁, hq, .of_steps (.one step_seq) (.pass (x := .code y) rfl (fun _ _ => .inl he) h)⟩
  cases e with
  | normal =>
    obtain ⟨e₂, a₂, w₂, hq₂, harr₂⟩ := hq b k cs hb
    exact ⟨e₂, a₂, w₂, hq₂, .of_steps (.head step_seq harr) harr₂⟩
  | exit id => exact pass _ (by simp) hq harr
  | goto l => exact pass _ (by simp) hq harr
  | ret => exact pass _ (by simp) hq harr
  | panic ch => exact pass _ (by simp) hq harr
  | outgrown => exact pass _ (by simp) hq harr
theorem wpN_cond {c : Operand} {x y : Code} {t : Bool} (hc : a.eval c = .bool t) (h : wpN P (if t then x else y) Q a w) : wpN P (.cond c x y) Q a w :=
  fun b k cs hb => let ⟨e, a', w', q, r⟩ := h b k cs hb; ⟨e, a', w', q, .of_steps (.one (step_cond hc)) r⟩
theorem wpN_block {id : Nat} {c : Code} (h : wpN P c (Exit.inBlock id Q) a w) : wpN P (.block id c) Q a w := by
  intro b k cs hb
  obtain ⟨e, a₁, w₁, hq, harr⟩ := h b (.inBlock id :: k) cs hb
  cases e with
  | normal => exact ⟨.normal, a₁, w₁, hq, .head step_block (Steps.trans harr (.one step_inBlock))⟩
  | exit id' =>
    by_cases hid : id' = id
    · simp only [Exit.inBlock, hid, if_true] at hq
      exact ⟨.normal, a₁, w₁, hq, .head step_block (harr k (by simp [exitTo, hid]))⟩
    · simp only [Exit.inBlock, hid, if_false] at hq
      refine ⟨.exit id', a₁, w₁, hq, fun k' hk => .head step_block (harr k' ?_)⟩
      have : (id == id') = false := by simp; exact fun h => hid h.symm
      simp [exitTo, this, hk]
  | goto l => exact ⟨_, a₁, w₁, hq, fun k' hk => .head step_block (harr k' (by simp [gotoIn, hk]))⟩
  | ret => exact ⟨_, a₁, w₁, hq, .of_steps (.one step_block) harr⟩
  | panic ch => exact ⟨_, a₁, w₁, hq, .of_steps (.one step_block) harr⟩
  | outgrown => exact ⟨_, a₁, w₁, hq, .of_steps (b := b) (k := k) (cs := cs) (e := .outgrown) (.one step_block) harr⟩
/-- A loop by the number of rounds that are left. -/
theorem wpN_loop {c : Code} (I : Nat → Act → World → Prop) (n : Nat) (h₀ : I n a w)
    (round : ∀ n a w, I n a w → wpN P c (Exit.then (fun a' w' => ∃ m, m < n ∧ I m a' w') Q) a w) : wpN P (.loop c) Q a w := by
  intro b k cs hb
  have key : ∀ n a w, I n a w → ∃ e a' w', Q e a' w' ∧ Arrives P (lone (b.at a (.code c :: .inLoop c :: k)) cs w) b k cs e a' w' := by
    intro n
    induction n using Nat.strongRecOn with
    | _ n ih =>
      intro a w hI
      obtain ⟨e, a₁, w₁, hq, harr⟩ := round n a w hI b (.inLoop c :: k) cs hb
      have pass : ∀ e, e ≠ .normal → Q e a₁ w₁ → Arrives P (lone (b.at a (.code c :: .inLoop c :: k)) cs w) b (.inLoop c :: k) cs e a₁ w₁ →
          ∃ e a' w', Q e a' w' ∧ Arrives P (lone (b.at a (.code c :: .inLoop c :: k)) cs w) b k cs e a' w' :=
        fun e he hq h => ⟨e, a₁, w₁, hq, .pass (x := .inLoop c) rfl (fun _ _ => .inl he) h⟩
      cases e with
      | normal =>
        obtain ⟨m, hm, hI₁⟩ := hq
        obtain ⟨e₂, a₂, w₂, hq₂, harr₂⟩ := ih m hm a₁ w₁ hI₁
        exact ⟨e₂, a₂, w₂, hq₂, .of_steps (Steps.trans harr (.one step_inLoop)) harr₂⟩
      | exit id => exact pass _ (by simp) hq harr
      | goto l => exact pass _ (by simp) hq harr
      | ret => exact pass _ (by simp) hq harr
      | panic ch => exact pass _ (by simp) hq harr
      | outgrown => exact pass _ (by simp) hq harr
  obtain ⟨e, a', w', hq, harr⟩ := key n a w h₀
  exact ⟨e, a', w', hq, .of_steps (.one step_loop) harr⟩

theorem calls_of_wpN {f : FuncId} {fn : Func} {c : Code} {args : Array Value} {R : Ending → World → Prop} (hf : P.funcs[f]? = some fn) (hb : fn.body = some c) (hno : ∀ w, ¬ R .outgrown w)
    (h : wpN P c (bodyPost P fn R) { tmps := args ++ Array.replicate (fn.ntmps - args.size) undef, defers := [] } w) : Calls P f args w R := by
  intro cs
  let b : Frame := { (default : Frame) with fn := f, kind := .normal }
  have henter : Frame.enter P f args .normal = b.at { tmps := args ++ Array.replicate (fn.ntmps - args.size) undef, defers := [] } [.code c] := by
    simp [Frame.enter, Frame.at, hf, hb, b]
  obtain ⟨e, a', w', hq, harr⟩ := h b [] cs rfl
  rw [← henter] at harr
  cases e with
  | normal =>
    obtain ⟨hd, v, hr, hR⟩ := hq
    exact ⟨.returned v, w', _, hR, Steps.trans harr (.one step_end), rfl, rfl, hd, rfl, fn, hf, hr⟩
  | ret =>
    obtain ⟨hd, v, hr, hR⟩ := hq
    obtain ⟨todo, hs⟩ := harr
    exact ⟨.returned v, w', _, hR, hs, rfl, rfl, hd, rfl, fn, hf, hr⟩
  | panic chain =>
    obtain ⟨hd, hR⟩ := hq
    obtain ⟨todo, hs⟩ := harr
    exact ⟨.panicked chain, w', _, hR, hs, rfl, rfl, hd, fn, hf⟩
  | exit id => exact hq.elim
  | goto l => exact hq.elim
  | outgrown => exact absurd hq (hno _)

/-! #### a region with a communication, operation by operation -/
/-- The rest of a region, in an ordinary frame. -/
def wpR (P : Program) (ops : Array Oper) (l : List Nat) (Q : Exit → Act → World → Prop) (a : Act) (w : World) : Prop :=
  ∀ (b : Frame) (k : List Item) (cs : List Frame), b.kind = .normal →
    ∃ e a' w', Q e a' w' ∧ Arrives P (lone (b.at a (.inRegion ops l :: k)) cs w) b k cs e a' w'
variable {ops : Array Oper} {i : Nat} {rest : List Nat} {o : Oper}
theorem wpN_region {id : Nat} (h : wpR P ops (List.range ops.size) Q a w) : wpN P (.region id ops false) Q a w :=
  fun b k cs hb => let ⟨e, a', w', q, r⟩ := h b k cs hb; ⟨e, a', w', q, .of_steps (.one step_region) r⟩
theorem wpR_end (h : Q .normal a w) : wpR P ops [] Q a w := fun _ _ _ _ => ⟨.normal, a, w, h, .one step_region_end⟩
/-- An operation that ends in a value. -/
theorem wpR_value {v : Value} {w' : World} (ho : ops[i]? = some o) (hw : Region.wanted o (yielded ops a.tmps) = true) (hr : (execOp a.eval o).run P w = .ok (.value v) w')
    (h : wpR P ops rest Q (a.put o.dst v) w') : wpR P ops (i :: rest) Q a w := by
  intro b k cs hb
  obtain ⟨e, a', w'', q, r⟩ := h b k cs hb
  refine ⟨e, a', w'', q, .of_steps (.one (step_lone_go ?_)) r⟩
  have hfin : (b.at a (.inRegion ops (i :: rest) :: k)).finish v = b.at (a.put o.dst v) (.inRegion ops rest :: k) := by rw [Frame.finish_at, ho]; rfl
  rw [stepG_op ho hw, ← hfin]
  simp [stepG.apply, hr]
/-- .. and leaves the world alone. -/
theorem wpR_same (v : Value) (ho : ops[i]? = some o) (hw : Region.wanted o (yielded ops a.tmps) = true) (hr : (execOp a.eval o).run P w = .ok (.value v) w)
    (h : wpR P ops rest Q (a.put o.dst v) w) : wpR P ops (i :: rest) Q a w := wpR_value ho hw hr h
/-- A send into a buffer with room. -/
theorem wpR_send {c cap s r : Nat} {buf : Array Value} {v z : Value} {tm : Bool} (ho : ops[i]? = some o) (hw : Region.wanted o (yielded ops a.tmps) = true)
    (hr : (execOp a.eval o).run P w = .ok (.comm #[scase c v z] true .send) w) (hc : w.heap[c]? = some (.chan cap buf false s r tm)) (hroom : buf.size < cap)
    (h : wpR P ops rest Q (a.put o.dst undef) (w.setChan c cap (buf.push v) false (s + 1) r tm)) : wpR P ops (i :: rest) Q a w := by
  intro b k cs hb
  obtain ⟨e, a', w'', q, hA⟩ := h b k cs hb
  refine ⟨e, a', w'', q, .of_steps (.one ?_) hA⟩
  have hs := step_lone_send_room (stepG_comm (P := P) (main := true) (b := b) (a := a) (k := k) (cs := cs) (w := w) (rest := rest) ho hw (by rw [hb]; decide) hr) hc hroom
  rw [Frame.finish_at, ho] at hs
  exact hs
/-- A select of one receive case, ready. -/
theorem wpR_select_recv {c cap s r : Nat} {buf : Array Value} {z : Value} {tm closed : Bool} (ho : ops[i]? = some o) (hw : Region.wanted o (yielded ops a.tmps) = true)
    (hr : (execOp a.eval o).run P w = .ok (.comm #[rcase c z] false .select) w) (hc : w.heap[c]? = some (.chan cap buf closed s r tm)) (hsome : 0 < buf.size)
    (h : wpR P ops rest Q (a.put o.dst (.tuple #[goInt 0, .bool true, buf.getD 0 undef])) (w.setChan c cap (buf.extract 1 buf.size) closed s (r + 1) tm)) : wpR P ops (i :: rest) Q a w := by
  intro b k cs hb
  obtain ⟨e, a', w'', q, hA⟩ := h b k cs hb
  refine ⟨e, a', w'', q, .of_steps (.one ?_) hA⟩
  have hs := step_lone_select_recv_buf (stepG_comm (P := P) (main := true) (b := b) (a := a) (k := k) (cs := cs) (w := w) (rest := rest) ho hw (by rw [hb]; decide) hr) hc hsome
  rw [Frame.finish_at, ho] at hs
  exact hs
/-- A select of one receive case over an open, empty channel: the default. -/
theorem wpR_select_default {c cap s r : Nat} {z : Value} {tm : Bool} (ho : ops[i]? = some o) (hw : Region.wanted o (yielded ops a.tmps) = true)
    (hr : (execOp a.eval o).run P w = .ok (.comm #[rcase c z] false .select) w) (hc : w.heap[c]? = some (.chan cap #[] false s r tm))
    (h : wpR P ops rest Q (a.put o.dst (.tuple #[goInt (-1), .bool false, z])) w) : wpR P ops (i :: rest) Q a w := by
  intro b k cs hb
  obtain ⟨e, a', w'', q, hA⟩ := h b k cs hb
  refine ⟨e, a', w'', q, .of_steps (.one ?_) hA⟩
  have hs := step_lone_select_default (stepG_comm (P := P) (main := true) (b := b) (a := a) (k := k) (cs := cs) (w := w) (rest := rest) ho hw (by rw [hb]; decide) hr) hc
  rw [Frame.finish_at, ho] at hs
  exact hs
end
end Go.Proofs.Yteagjolmikbllaa.Comm
