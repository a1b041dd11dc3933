/-
  No cell of these rows narrows 'for every input' (looked for: loops, veiled, ifaces, maps, wideKeys, modest, calm, conditions, laid).
  DERIVED. THE GIVEN ROWS OF THIS SEAT. 4 by the template 'for every input the law returns true; each argument reads behind the call as it read before'; 0 by the template 'total and deterministic' (their statements: YthloffjgbgmpkaaTotals.lean).
  GIVEN WITH THE SEED: the statements are not yours to turn. If you find one false, say at which input.
  Laid BY PROGRAM, IN A SANDBOX (cutbox-rows.mjs): the forced cells as the released guide's own fill.sh prints them over the translation 475dfeb622f3ec68… (all of the seat's roots in one cut). By AI agents, Wed Nov 11 2026. No macro, syntax, notation, axiom, sorry.
-/
import Derived.Test.YthloffjgbgmpkaaChecked
import GoSem.Claim
import GoSem.ClaimJoined
import GoSem.ClaimMapViews
import Derived.JoinedTies
import Derived.KernelRfl
namespace Go.Proofs.Ythloffjgbgmpkaa
/- THE CELL 'sum', in the pinned program and in every row, IS THE sha256 OF THE DUMP (.gsa) THAT YthloffjgbgmpkaaProg.lean LOADS. Nothing in Lean hashes anything: it is a label: what it is worth is what the hold of that sum in a sandbox is worth. -/
noncomputable def Try.pinned : Pinned := { name := "ythloffjgbgmpkaa", sum := "475dfeb622f3ec683e3f4f29ed56556170d49e15d104cf0bb4503199ea718013", checked := Try.checked }
namespace Rows
def none {H : Type} : Left H := { results := [], args := [] }

/-- 'hostlerlaw17.ChooseBest': WHATEVER THE INPUT: true; the input reads as it did. -/
def chooseBestSpec : ChangeSpec := { name := "chooseBest", fn := fun _ => fun
  | [d1, d2] => { results := [.lit (.bool true)], args := [d1, d2] }
  | _ => none }
def chooseBestRow : OpenClaim := { program := "ythloffjgbgmpkaa", sum := "475dfeb622f3ec683e3f4f29ed56556170d49e15d104cf0bb4503199ea718013", func := "hostler/hostlerlaw17.ChooseBest", spec := "chooseBest", unfollowed := true, recurses := true, apart := false }
def ChooseBestSaid : Prop := chooseBestRow.holds Try.pinned (OpenSpec.ofChange chooseBestSpec)

/-- ITS FALSE NEIGHBOUR: 'it returns false'. Refute it at one input. -/
def chooseBestWrong : ChangeSpec := { name := "chooseBest", fn := fun _ => fun
  | [d1, d2] => { results := [.lit (.bool false)], args := [d1, d2] }
  | _ => none }
def ChooseBestWrongFalsely : Prop := chooseBestRow.holds Try.pinned (OpenSpec.ofChange chooseBestWrong)

/-- 'hostlerlaw17.ChooseOthers': WHATEVER THE INPUT: true; the input reads as it did. -/
def chooseOthersSpec : ChangeSpec := { name := "chooseOthers", fn := fun _ => fun
  | [d1, d2, d3] => { results := [.lit (.bool true)], args := [d1, d2, d3] }
  | _ => none }
def chooseOthersRow : OpenClaim := { program := "ythloffjgbgmpkaa", sum := "475dfeb622f3ec683e3f4f29ed56556170d49e15d104cf0bb4503199ea718013", func := "hostler/hostlerlaw17.ChooseOthers", spec := "chooseOthers", unfollowed := true, recurses := true, apart := false }
def ChooseOthersSaid : Prop := chooseOthersRow.holds Try.pinned (OpenSpec.ofChange chooseOthersSpec)

/-- ITS FALSE NEIGHBOUR: 'it returns false'. Refute it at one input. -/
def chooseOthersWrong : ChangeSpec := { name := "chooseOthers", fn := fun _ => fun
  | [d1, d2, d3] => { results := [.lit (.bool false)], args := [d1, d2, d3] }
  | _ => none }
def ChooseOthersWrongFalsely : Prop := chooseOthersRow.holds Try.pinned (OpenSpec.ofChange chooseOthersWrong)

/-- 'hostlerlaw17.ChoosePicks': WHATEVER THE INPUT: true; the input reads as it did. -/
def choosePicksSpec : ChangeSpec := { name := "choosePicks", fn := fun _ => fun
  | [d1, d2, d3] => { results := [.lit (.bool true)], args := [d1, d2, d3] }
  | _ => none }
def choosePicksRow : OpenClaim := { program := "ythloffjgbgmpkaa", sum := "475dfeb622f3ec683e3f4f29ed56556170d49e15d104cf0bb4503199ea718013", func := "hostler/hostlerlaw17.ChoosePicks", spec := "choosePicks", unfollowed := true, recurses := true, apart := false }
def ChoosePicksSaid : Prop := choosePicksRow.holds Try.pinned (OpenSpec.ofChange choosePicksSpec)

/-- ITS FALSE NEIGHBOUR: 'it returns false'. Refute it at one input. -/
def choosePicksWrong : ChangeSpec := { name := "choosePicks", fn := fun _ => fun
  | [d1, d2, d3] => { results := [.lit (.bool false)], args := [d1, d2, d3] }
  | _ => none }
def ChoosePicksWrongFalsely : Prop := choosePicksRow.holds Try.pinned (OpenSpec.ofChange choosePicksWrong)

/-- 'hostlerlaw17.ChooseWarm': WHATEVER THE INPUT: true; the input reads as it did. -/
def chooseWarmSpec : ChangeSpec := { name := "chooseWarm", fn := fun _ => fun
  | [d1, d2, d3] => { results := [.lit (.bool true)], args := [d1, d2, d3] }
  | _ => none }
def chooseWarmRow : OpenClaim := { program := "ythloffjgbgmpkaa", sum := "475dfeb622f3ec683e3f4f29ed56556170d49e15d104cf0bb4503199ea718013", func := "hostler/hostlerlaw17.ChooseWarm", spec := "chooseWarm", unfollowed := true, recurses := true, apart := false }
def ChooseWarmSaid : Prop := chooseWarmRow.holds Try.pinned (OpenSpec.ofChange chooseWarmSpec)

/-- ITS FALSE NEIGHBOUR: 'it returns false'. Refute it at one input. -/
def chooseWarmWrong : ChangeSpec := { name := "chooseWarm", fn := fun _ => fun
  | [d1, d2, d3] => { results := [.lit (.bool false)], args := [d1, d2, d3] }
  | _ => none }
def ChooseWarmWrongFalsely : Prop := chooseWarmRow.holds Try.pinned (OpenSpec.ofChange chooseWarmWrong)

/- THE SECOND FORM. 'bulk': how many values and letters a reading holds, each counted each time it is reached (what is shared counts as often as it is met; a slice's spare places count too). A statement '..UptoSaid' is the law's where the arguments, and the package variables that the reading takes, are together of bulk at most 1048576: NARROWER than '..Said'. Prove '..Said' where nothing that the law and all that it calls make is longer than what came in: it says more and counts as full. Else prove '..UptoSaid'. A law counts once. -/
mutual
def uptoBulk {H : Type} : DataW H → Nat
  | .lit (.string bytes) => bytes.length + 1
  | .lit _ => 1
  | .nil => 1
  | .ptr d => uptoBulk d + 1
  | .slice elems spare => uptoBulkAll elems + uptoBulkAll spare + 1
  | .agg parts => uptoBulkAll parts + 1
  | .iface _ d => uptoBulk d + 1
  | .map entries => uptoBulkEntries entries + 1
  | .held _ => 1
def uptoBulkAll {H : Type} : List (DataW H) → Nat
  | [] => 0
  | d :: r => uptoBulk d + uptoBulkAll r
def uptoBulkEntries {H : Type} : List (Lit × DataW H) → Nat
  | [] => 0
  | x :: r => uptoBulkEntry x + uptoBulkEntries r
def uptoBulkEntry {H : Type} : Lit × DataW H → Nat
  | (.string bytes, d) => bytes.length + uptoBulk d + 1
  | (_, d) => uptoBulk d + 1
 end
def uptoSmall : (H : Type) → List (DataW H) → Bool := fun _ ds => decide (uptoBulkAll ds ≤ 1048576)
def OpenSpec.upto (s : _root_.Go.ChangeSpec) : _root_.Go.OpenSpec := { _root_.Go.OpenSpec.ofChange s with cond := some uptoSmall }

/-- 'hostlerlaw17.ChooseBest', WHERE WHAT IT READS IS OF BULK AT MOST 1048576: true; the input reads as it did. -/
def chooseBestUptoRow : OpenClaim := { program := "ythloffjgbgmpkaa", sum := "475dfeb622f3ec683e3f4f29ed56556170d49e15d104cf0bb4503199ea718013", func := "hostler/hostlerlaw17.ChooseBest", spec := "chooseBest", unfollowed := true, recurses := true, apart := false, narrowed := true }
def ChooseBestUptoSaid : Prop := chooseBestUptoRow.holds Try.pinned (OpenSpec.upto chooseBestSpec)

/-- 'hostlerlaw17.ChooseOthers', WHERE WHAT IT READS IS OF BULK AT MOST 1048576: true; the input reads as it did. -/
def chooseOthersUptoRow : OpenClaim := { program := "ythloffjgbgmpkaa", sum := "475dfeb622f3ec683e3f4f29ed56556170d49e15d104cf0bb4503199ea718013", func := "hostler/hostlerlaw17.ChooseOthers", spec := "chooseOthers", unfollowed := true, recurses := true, apart := false, narrowed := true }
def ChooseOthersUptoSaid : Prop := chooseOthersUptoRow.holds Try.pinned (OpenSpec.upto chooseOthersSpec)

/-- 'hostlerlaw17.ChoosePicks', WHERE WHAT IT READS IS OF BULK AT MOST 1048576: true; the input reads as it did. -/
def choosePicksUptoRow : OpenClaim := { program := "ythloffjgbgmpkaa", sum := "475dfeb622f3ec683e3f4f29ed56556170d49e15d104cf0bb4503199ea718013", func := "hostler/hostlerlaw17.ChoosePicks", spec := "choosePicks", unfollowed := true, recurses := true, apart := false, narrowed := true }
def ChoosePicksUptoSaid : Prop := choosePicksUptoRow.holds Try.pinned (OpenSpec.upto choosePicksSpec)

/-- 'hostlerlaw17.ChooseWarm', WHERE WHAT IT READS IS OF BULK AT MOST 1048576: true; the input reads as it did. -/
def chooseWarmUptoRow : OpenClaim := { program := "ythloffjgbgmpkaa", sum := "475dfeb622f3ec683e3f4f29ed56556170d49e15d104cf0bb4503199ea718013", func := "hostler/hostlerlaw17.ChooseWarm", spec := "chooseWarm", unfollowed := true, recurses := true, apart := false, narrowed := true }
def ChooseWarmUptoSaid : Prop := chooseWarmUptoRow.holds Try.pinned (OpenSpec.upto chooseWarmSpec)

end Rows
end Go.Proofs.Ythloffjgbgmpkaa
