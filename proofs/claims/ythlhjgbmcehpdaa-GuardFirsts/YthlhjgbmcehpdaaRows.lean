/-
  No cell of these rows narrows 'for every input' (looked for: loops, veiled, ifaces, maps, wideKeys, modest, calm, conditions, laid).
  DERIVED. THE GIVEN ROWS OF THIS SEAT. 10 by the template 'for every input the law returns true; each argument reads behind the call as it read before'; 0 by the template 'total and deterministic' (their statements: YthlhjgbmcehpdaaTotals.lean).
  GIVEN WITH THE SEED: the statements are not yours to turn. If you find one false, say at which input.
  Laid BY PROGRAM, IN A SANDBOX (cutbox-rows.mjs): the forced cells as the released guide's own fill.sh prints them over the translation 6416a6f1b40ed79c… (all of the seat's roots in one cut). By AI agents, Wed Nov 11 2026. No macro, syntax, notation, axiom, sorry.
-/
import Derived.Test.YthlhjgbmcehpdaaChecked
import GoSem.Claim
import GoSem.ClaimJoined
import GoSem.ClaimMapViews
import Derived.JoinedTies
import Derived.KernelRfl
namespace Go.Proofs.Ythlhjgbmcehpdaa
/- THE CELL 'sum', in the pinned program and in every row, IS THE sha256 OF THE DUMP (.gsa) THAT YthlhjgbmcehpdaaProg.lean LOADS. Nothing in Lean hashes anything: it is a label: what it is worth is what the hold of that sum in a sandbox is worth. -/
noncomputable def Try.pinned : Pinned := { name := "ythlhjgbmcehpdaa", sum := "6416a6f1b40ed79cea8cc9d702d5196525083176016c33f9032b6d7ad8f10a0a", checked := Try.checked }
namespace Rows
def none {H : Type} : Left H := { results := [], args := [] }

/-- 'hostlerlaw11.GuardSpare': WHATEVER THE INPUT: true; the input reads as it did. -/
def guardSpareSpec : ChangeSpec := { name := "guardSpare", fn := fun _ => fun
  | [d1, d2] => { results := [.lit (.bool true)], args := [d1, d2] }
  | _ => none }
def guardSpareRow : OpenClaim := { program := "ythlhjgbmcehpdaa", sum := "6416a6f1b40ed79cea8cc9d702d5196525083176016c33f9032b6d7ad8f10a0a", func := "hostler/hostlerlaw11.GuardSpare", spec := "guardSpare", apart := false }
def GuardSpareSaid : Prop := guardSpareRow.holds Try.pinned (OpenSpec.ofChange guardSpareSpec)

/-- ITS FALSE NEIGHBOUR: 'it returns false'. Refute it at one input. -/
def guardSpareWrong : ChangeSpec := { name := "guardSpare", fn := fun _ => fun
  | [d1, d2] => { results := [.lit (.bool false)], args := [d1, d2] }
  | _ => none }
def GuardSpareWrongFalsely : Prop := guardSpareRow.holds Try.pinned (OpenSpec.ofChange guardSpareWrong)

/-- 'hostlerlaw11.GuardKeeps': WHATEVER THE INPUT: true; the input reads as it did. -/
def guardKeepsSpec : ChangeSpec := { name := "guardKeeps", fn := fun _ => fun
  | [d1, d2, d3] => { results := [.lit (.bool true)], args := [d1, d2, d3] }
  | _ => none }
def guardKeepsRow : OpenClaim := { program := "ythlhjgbmcehpdaa", sum := "6416a6f1b40ed79cea8cc9d702d5196525083176016c33f9032b6d7ad8f10a0a", func := "hostler/hostlerlaw11.GuardKeeps", spec := "guardKeeps", apart := false }
def GuardKeepsSaid : Prop := guardKeepsRow.holds Try.pinned (OpenSpec.ofChange guardKeepsSpec)

/-- ITS FALSE NEIGHBOUR: 'it returns false'. Refute it at one input. -/
def guardKeepsWrong : ChangeSpec := { name := "guardKeeps", fn := fun _ => fun
  | [d1, d2, d3] => { results := [.lit (.bool false)], args := [d1, d2, d3] }
  | _ => none }
def GuardKeepsWrongFalsely : Prop := guardKeepsRow.holds Try.pinned (OpenSpec.ofChange guardKeepsWrong)

/-- 'hostlerlaw11.GuardFell': WHATEVER THE INPUT: true; the input reads as it did. -/
def guardFellSpec : ChangeSpec := { name := "guardFell", fn := fun _ => fun
  | [d1, d2, d3] => { results := [.lit (.bool true)], args := [d1, d2, d3] }
  | _ => none }
def guardFellRow : OpenClaim := { program := "ythlhjgbmcehpdaa", sum := "6416a6f1b40ed79cea8cc9d702d5196525083176016c33f9032b6d7ad8f10a0a", func := "hostler/hostlerlaw11.GuardFell", spec := "guardFell", apart := false }
def GuardFellSaid : Prop := guardFellRow.holds Try.pinned (OpenSpec.ofChange guardFellSpec)

/-- ITS FALSE NEIGHBOUR: 'it returns false'. Refute it at one input. -/
def guardFellWrong : ChangeSpec := { name := "guardFell", fn := fun _ => fun
  | [d1, d2, d3] => { results := [.lit (.bool false)], args := [d1, d2, d3] }
  | _ => none }
def GuardFellWrongFalsely : Prop := guardFellRow.holds Try.pinned (OpenSpec.ofChange guardFellWrong)

/-- 'hostlerlaw10.StateWays': WHATEVER THE INPUT: true; the input reads as it did. -/
def stateWaysSpec : ChangeSpec := { name := "stateWays", fn := fun _ => fun
  | [d1, d2] => { results := [.lit (.bool true)], args := [d1, d2] }
  | _ => none }
def stateWaysRow : OpenClaim := { program := "ythlhjgbmcehpdaa", sum := "6416a6f1b40ed79cea8cc9d702d5196525083176016c33f9032b6d7ad8f10a0a", func := "hostler/hostlerlaw10.StateWays", spec := "stateWays", apart := false }
def StateWaysSaid : Prop := stateWaysRow.holds Try.pinned (OpenSpec.ofChange stateWaysSpec)

/-- ITS FALSE NEIGHBOUR: 'it returns false'. Refute it at one input. -/
def stateWaysWrong : ChangeSpec := { name := "stateWays", fn := fun _ => fun
  | [d1, d2] => { results := [.lit (.bool false)], args := [d1, d2] }
  | _ => none }
def StateWaysWrongFalsely : Prop := stateWaysRow.holds Try.pinned (OpenSpec.ofChange stateWaysWrong)

/-- 'hostlerlaw10.StateWalks': WHATEVER THE INPUT: true; the input reads as it did. -/
def stateWalksSpec : ChangeSpec := { name := "stateWalks", fn := fun _ => fun
  | [d1, d2, d3] => { results := [.lit (.bool true)], args := [d1, d2, d3] }
  | _ => none }
def stateWalksRow : OpenClaim := { program := "ythlhjgbmcehpdaa", sum := "6416a6f1b40ed79cea8cc9d702d5196525083176016c33f9032b6d7ad8f10a0a", func := "hostler/hostlerlaw10.StateWalks", spec := "stateWalks", apart := false }
def StateWalksSaid : Prop := stateWalksRow.holds Try.pinned (OpenSpec.ofChange stateWalksSpec)

/-- ITS FALSE NEIGHBOUR: 'it returns false'. Refute it at one input. -/
def stateWalksWrong : ChangeSpec := { name := "stateWalks", fn := fun _ => fun
  | [d1, d2, d3] => { results := [.lit (.bool false)], args := [d1, d2, d3] }
  | _ => none }
def StateWalksWrongFalsely : Prop := stateWalksRow.holds Try.pinned (OpenSpec.ofChange stateWalksWrong)

/-- 'hostlerlaw10.StateRetired': WHATEVER THE INPUT: true; the input reads as it did. -/
def stateRetiredSpec : ChangeSpec := { name := "stateRetired", fn := fun _ => fun
  | [d] => { results := [.lit (.bool true)], args := [d] }
  | _ => none }
def stateRetiredRow : OpenClaim := { program := "ythlhjgbmcehpdaa", sum := "6416a6f1b40ed79cea8cc9d702d5196525083176016c33f9032b6d7ad8f10a0a", func := "hostler/hostlerlaw10.StateRetired", spec := "stateRetired", apart := false }
def StateRetiredSaid : Prop := stateRetiredRow.holds Try.pinned (OpenSpec.ofChange stateRetiredSpec)

/-- ITS FALSE NEIGHBOUR: 'it returns false'. Refute it at one input. -/
def stateRetiredWrong : ChangeSpec := { name := "stateRetired", fn := fun _ => fun
  | [d] => { results := [.lit (.bool false)], args := [d] }
  | _ => none }
def StateRetiredWrongFalsely : Prop := stateRetiredRow.holds Try.pinned (OpenSpec.ofChange stateRetiredWrong)

/-- 'hostlerlaw10.StateNext': WHATEVER THE INPUT: true; the input reads as it did. -/
def stateNextSpec : ChangeSpec := { name := "stateNext", fn := fun _ => fun
  | [d1, d2, d3] => { results := [.lit (.bool true)], args := [d1, d2, d3] }
  | _ => none }
def stateNextRow : OpenClaim := { program := "ythlhjgbmcehpdaa", sum := "6416a6f1b40ed79cea8cc9d702d5196525083176016c33f9032b6d7ad8f10a0a", func := "hostler/hostlerlaw10.StateNext", spec := "stateNext", apart := false }
def StateNextSaid : Prop := stateNextRow.holds Try.pinned (OpenSpec.ofChange stateNextSpec)

/-- ITS FALSE NEIGHBOUR: 'it returns false'. Refute it at one input. -/
def stateNextWrong : ChangeSpec := { name := "stateNext", fn := fun _ => fun
  | [d1, d2, d3] => { results := [.lit (.bool false)], args := [d1, d2, d3] }
  | _ => none }
def StateNextWrongFalsely : Prop := stateNextRow.holds Try.pinned (OpenSpec.ofChange stateNextWrong)

/-- 'hostlerlaw10.StateNames': WHATEVER THE INPUT: true; the input reads as it did. -/
def stateNamesSpec : ChangeSpec := { name := "stateNames", fn := fun _ => fun
  | [d1, d2] => { results := [.lit (.bool true)], args := [d1, d2] }
  | _ => none }
def stateNamesRow : OpenClaim := { program := "ythlhjgbmcehpdaa", sum := "6416a6f1b40ed79cea8cc9d702d5196525083176016c33f9032b6d7ad8f10a0a", func := "hostler/hostlerlaw10.StateNames", spec := "stateNames", apart := false }
def StateNamesSaid : Prop := stateNamesRow.holds Try.pinned (OpenSpec.ofChange stateNamesSpec)

/-- ITS FALSE NEIGHBOUR: 'it returns false'. Refute it at one input. -/
def stateNamesWrong : ChangeSpec := { name := "stateNames", fn := fun _ => fun
  | [d1, d2] => { results := [.lit (.bool false)], args := [d1, d2] }
  | _ => none }
def StateNamesWrongFalsely : Prop := stateNamesRow.holds Try.pinned (OpenSpec.ofChange stateNamesWrong)

/-- 'hostlerlaw11.GuardNumbers': WHATEVER THE INPUT: true; the input reads as it did. -/
def guardNumbersSpec : ChangeSpec := { name := "guardNumbers", fn := fun _ => fun
  | [d1, d2, d3] => { results := [.lit (.bool true)], args := [d1, d2, d3] }
  | _ => none }
def guardNumbersRow : OpenClaim := { program := "ythlhjgbmcehpdaa", sum := "6416a6f1b40ed79cea8cc9d702d5196525083176016c33f9032b6d7ad8f10a0a", func := "hostler/hostlerlaw11.GuardNumbers", spec := "guardNumbers", unfollowed := true, recurses := true, apart := false }
def GuardNumbersSaid : Prop := guardNumbersRow.holds Try.pinned (OpenSpec.ofChange guardNumbersSpec)

/-- ITS FALSE NEIGHBOUR: 'it returns false'. Refute it at one input. -/
def guardNumbersWrong : ChangeSpec := { name := "guardNumbers", fn := fun _ => fun
  | [d1, d2, d3] => { results := [.lit (.bool false)], args := [d1, d2, d3] }
  | _ => none }
def GuardNumbersWrongFalsely : Prop := guardNumbersRow.holds Try.pinned (OpenSpec.ofChange guardNumbersWrong)

/-- 'hostlerlaw11.GuardFirsts': WHATEVER THE INPUT: true; the input reads as it did. -/
def guardFirstsSpec : ChangeSpec := { name := "guardFirsts", fn := fun _ => fun
  | [d1, d2, d3] => { results := [.lit (.bool true)], args := [d1, d2, d3] }
  | _ => none }
def guardFirstsRow : OpenClaim := { program := "ythlhjgbmcehpdaa", sum := "6416a6f1b40ed79cea8cc9d702d5196525083176016c33f9032b6d7ad8f10a0a", func := "hostler/hostlerlaw11.GuardFirsts", spec := "guardFirsts", unfollowed := true, recurses := true, apart := false }
def GuardFirstsSaid : Prop := guardFirstsRow.holds Try.pinned (OpenSpec.ofChange guardFirstsSpec)

/-- ITS FALSE NEIGHBOUR: 'it returns false'. Refute it at one input. -/
def guardFirstsWrong : ChangeSpec := { name := "guardFirsts", fn := fun _ => fun
  | [d1, d2, d3] => { results := [.lit (.bool false)], args := [d1, d2, d3] }
  | _ => none }
def GuardFirstsWrongFalsely : Prop := guardFirstsRow.holds Try.pinned (OpenSpec.ofChange guardFirstsWrong)

/- THE SECOND FORM. 'bulk': how many values and letters a reading holds, each counted each time it is reached (what is shared counts as often as it is met; a slice's spare places count too). A statement '..UptoSaid' is the law's where the arguments, and the package variables that the reading takes, are together of bulk at most 1048576: NARROWER than '..Said'. Prove '..Said' where nothing that the law and all that it calls make is longer than what came in: it says more and counts as full. Else prove '..UptoSaid'. A law counts once. -/
mutual
def uptoBulk {H : Type} : DataW H → Nat
  | .lit (.string bytes) => bytes.length + 1
  | .lit _ => 1
  | .nil => 1
  | .ptr d => uptoBulk d + 1
  | .slice elems spare => uptoBulkAll elems + uptoBulkAll spare + 1
  | .agg parts => uptoBulkAll parts + 1
  | .iface _ d => uptoBulk d + 1
  | .map entries => uptoBulkEntries entries + 1
  | .held _ => 1
def uptoBulkAll {H : Type} : List (DataW H) → Nat
  | [] => 0
  | d :: r => uptoBulk d + uptoBulkAll r
def uptoBulkEntries {H : Type} : List (Lit × DataW H) → Nat
  | [] => 0
  | x :: r => uptoBulkEntry x + uptoBulkEntries r
def uptoBulkEntry {H : Type} : Lit × DataW H → Nat
  | (.string bytes, d) => bytes.length + uptoBulk d + 1
  | (_, d) => uptoBulk d + 1
 end
def uptoSmall : (H : Type) → List (DataW H) → Bool := fun _ ds => decide (uptoBulkAll ds ≤ 1048576)
def OpenSpec.upto (s : _root_.Go.ChangeSpec) : _root_.Go.OpenSpec := { _root_.Go.OpenSpec.ofChange s with cond := some uptoSmall }

/-- 'hostlerlaw11.GuardSpare', WHERE WHAT IT READS IS OF BULK AT MOST 1048576: true; the input reads as it did. -/
def guardSpareUptoRow : OpenClaim := { program := "ythlhjgbmcehpdaa", sum := "6416a6f1b40ed79cea8cc9d702d5196525083176016c33f9032b6d7ad8f10a0a", func := "hostler/hostlerlaw11.GuardSpare", spec := "guardSpare", apart := false, narrowed := true }
def GuardSpareUptoSaid : Prop := guardSpareUptoRow.holds Try.pinned (OpenSpec.upto guardSpareSpec)

/-- 'hostlerlaw11.GuardKeeps', WHERE WHAT IT READS IS OF BULK AT MOST 1048576: true; the input reads as it did. -/
def guardKeepsUptoRow : OpenClaim := { program := "ythlhjgbmcehpdaa", sum := "6416a6f1b40ed79cea8cc9d702d5196525083176016c33f9032b6d7ad8f10a0a", func := "hostler/hostlerlaw11.GuardKeeps", spec := "guardKeeps", apart := false, narrowed := true }
def GuardKeepsUptoSaid : Prop := guardKeepsUptoRow.holds Try.pinned (OpenSpec.upto guardKeepsSpec)

/-- 'hostlerlaw11.GuardFell', WHERE WHAT IT READS IS OF BULK AT MOST 1048576: true; the input reads as it did. -/
def guardFellUptoRow : OpenClaim := { program := "ythlhjgbmcehpdaa", sum := "6416a6f1b40ed79cea8cc9d702d5196525083176016c33f9032b6d7ad8f10a0a", func := "hostler/hostlerlaw11.GuardFell", spec := "guardFell", apart := false, narrowed := true }
def GuardFellUptoSaid : Prop := guardFellUptoRow.holds Try.pinned (OpenSpec.upto guardFellSpec)

/-- 'hostlerlaw10.StateWays', WHERE WHAT IT READS IS OF BULK AT MOST 1048576: true; the input reads as it did. -/
def stateWaysUptoRow : OpenClaim := { program := "ythlhjgbmcehpdaa", sum := "6416a6f1b40ed79cea8cc9d702d5196525083176016c33f9032b6d7ad8f10a0a", func := "hostler/hostlerlaw10.StateWays", spec := "stateWays", apart := false, narrowed := true }
def StateWaysUptoSaid : Prop := stateWaysUptoRow.holds Try.pinned (OpenSpec.upto stateWaysSpec)

/-- 'hostlerlaw10.StateWalks', WHERE WHAT IT READS IS OF BULK AT MOST 1048576: true; the input reads as it did. -/
def stateWalksUptoRow : OpenClaim := { program := "ythlhjgbmcehpdaa", sum := "6416a6f1b40ed79cea8cc9d702d5196525083176016c33f9032b6d7ad8f10a0a", func := "hostler/hostlerlaw10.StateWalks", spec := "stateWalks", apart := false, narrowed := true }
def StateWalksUptoSaid : Prop := stateWalksUptoRow.holds Try.pinned (OpenSpec.upto stateWalksSpec)

/-- 'hostlerlaw10.StateRetired', WHERE WHAT IT READS IS OF BULK AT MOST 1048576: true; the input reads as it did. -/
def stateRetiredUptoRow : OpenClaim := { program := "ythlhjgbmcehpdaa", sum := "6416a6f1b40ed79cea8cc9d702d5196525083176016c33f9032b6d7ad8f10a0a", func := "hostler/hostlerlaw10.StateRetired", spec := "stateRetired", apart := false, narrowed := true }
def StateRetiredUptoSaid : Prop := stateRetiredUptoRow.holds Try.pinned (OpenSpec.upto stateRetiredSpec)

/-- 'hostlerlaw10.StateNext', WHERE WHAT IT READS IS OF BULK AT MOST 1048576: true; the input reads as it did. -/
def stateNextUptoRow : OpenClaim := { program := "ythlhjgbmcehpdaa", sum := "6416a6f1b40ed79cea8cc9d702d5196525083176016c33f9032b6d7ad8f10a0a", func := "hostler/hostlerlaw10.StateNext", spec := "stateNext", apart := false, narrowed := true }
def StateNextUptoSaid : Prop := stateNextUptoRow.holds Try.pinned (OpenSpec.upto stateNextSpec)

/-- 'hostlerlaw10.StateNames', WHERE WHAT IT READS IS OF BULK AT MOST 1048576: true; the input reads as it did. -/
def stateNamesUptoRow : OpenClaim := { program := "ythlhjgbmcehpdaa", sum := "6416a6f1b40ed79cea8cc9d702d5196525083176016c33f9032b6d7ad8f10a0a", func := "hostler/hostlerlaw10.StateNames", spec := "stateNames", apart := false, narrowed := true }
def StateNamesUptoSaid : Prop := stateNamesUptoRow.holds Try.pinned (OpenSpec.upto stateNamesSpec)

/-- 'hostlerlaw11.GuardNumbers', WHERE WHAT IT READS IS OF BULK AT MOST 1048576: true; the input reads as it did. -/
def guardNumbersUptoRow : OpenClaim := { program := "ythlhjgbmcehpdaa", sum := "6416a6f1b40ed79cea8cc9d702d5196525083176016c33f9032b6d7ad8f10a0a", func := "hostler/hostlerlaw11.GuardNumbers", spec := "guardNumbers", unfollowed := true, recurses := true, apart := false, narrowed := true }
def GuardNumbersUptoSaid : Prop := guardNumbersUptoRow.holds Try.pinned (OpenSpec.upto guardNumbersSpec)

/-- 'hostlerlaw11.GuardFirsts', WHERE WHAT IT READS IS OF BULK AT MOST 1048576: true; the input reads as it did. -/
def guardFirstsUptoRow : OpenClaim := { program := "ythlhjgbmcehpdaa", sum := "6416a6f1b40ed79cea8cc9d702d5196525083176016c33f9032b6d7ad8f10a0a", func := "hostler/hostlerlaw11.GuardFirsts", spec := "guardFirsts", unfollowed := true, recurses := true, apart := false, narrowed := true }
def GuardFirstsUptoSaid : Prop := guardFirstsUptoRow.holds Try.pinned (OpenSpec.upto guardFirstsSpec)

end Rows
end Go.Proofs.Ythlhjgbmcehpdaa
