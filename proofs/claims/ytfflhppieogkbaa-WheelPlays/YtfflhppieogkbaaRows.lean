/-
  No cell of these rows narrows 'for every input' (looked for: loops, veiled, ifaces, maps, wideKeys, modest, calm, conditions, laid).
  DERIVED. THE GIVEN ROWS OF THIS SEAT. 6 by the template 'for every input the law returns true; each argument reads behind the call as it read before'; 0 by the template 'total and deterministic' (their statements: YtfflhppieogkbaaTotals.lean).
  GIVEN WITH THE SEED: the statements are not yours to turn. If you find one false, say at which input.
  Laid BY PROGRAM, IN A SANDBOX (cutbox-rows.mjs): the forced cells as the released guide's own fill.sh prints them over the translation e878c47343c0b0da… (all of the seat's roots in one cut). By AI agents, Wed Nov 11 2026. No macro, syntax, notation, axiom, sorry.
-/
import Derived.Test.YtfflhppieogkbaaChecked
import GoSem.Claim
import GoSem.ClaimJoined
import GoSem.ClaimMapViews
import Derived.JoinedTies
import Derived.KernelRfl
namespace Go.Proofs.Ytfflhppieogkbaa
/- THE CELL 'sum', in the pinned program and in every row, IS THE sha256 OF THE DUMP (.gsa) THAT YtfflhppieogkbaaProg.lean LOADS. Nothing in Lean hashes anything: it is a label: what it is worth is what the hold of that sum in a sandbox is worth. -/
noncomputable def Try.pinned : Pinned := { name := "ytfflhppieogkbaa", sum := "e878c47343c0b0dafc404632ee663b9d11435e26c4fa0d680067b76bfcb32a0a", checked := Try.checked }
namespace Rows
def none {H : Type} : Left H := { results := [], args := [] }

/-- 'hostlerlaw04.WheelKeys': WHATEVER THE INPUT: true; the input reads as it did. -/
def wheelKeysSpec : ChangeSpec := { name := "wheelKeys", fn := fun _ => fun
  | [d1, d2] => { results := [.lit (.bool true)], args := [d1, d2] }
  | _ => none }
def wheelKeysRow : OpenClaim := { program := "ytfflhppieogkbaa", sum := "e878c47343c0b0dafc404632ee663b9d11435e26c4fa0d680067b76bfcb32a0a", func := "hostler/hostlerlaw04.WheelKeys", spec := "wheelKeys", unfollowed := true, recurses := true, apart := false }
def WheelKeysSaid : Prop := wheelKeysRow.holds Try.pinned (OpenSpec.ofChange wheelKeysSpec)

/-- ITS FALSE NEIGHBOUR: 'it returns false'. Refute it at one input. -/
def wheelKeysWrong : ChangeSpec := { name := "wheelKeys", fn := fun _ => fun
  | [d1, d2] => { results := [.lit (.bool false)], args := [d1, d2] }
  | _ => none }
def WheelKeysWrongFalsely : Prop := wheelKeysRow.holds Try.pinned (OpenSpec.ofChange wheelKeysWrong)

/-- 'hostlerlaw04.WheelOnce': WHATEVER THE INPUT: true; the input reads as it did. -/
def wheelOnceSpec : ChangeSpec := { name := "wheelOnce", fn := fun _ => fun
  | [d1, d2, d3] => { results := [.lit (.bool true)], args := [d1, d2, d3] }
  | _ => none }
def wheelOnceRow : OpenClaim := { program := "ytfflhppieogkbaa", sum := "e878c47343c0b0dafc404632ee663b9d11435e26c4fa0d680067b76bfcb32a0a", func := "hostler/hostlerlaw04.WheelOnce", spec := "wheelOnce", unfollowed := true, recurses := true, apart := false }
def WheelOnceSaid : Prop := wheelOnceRow.holds Try.pinned (OpenSpec.ofChange wheelOnceSpec)

/-- ITS FALSE NEIGHBOUR: 'it returns false'. Refute it at one input. -/
def wheelOnceWrong : ChangeSpec := { name := "wheelOnce", fn := fun _ => fun
  | [d1, d2, d3] => { results := [.lit (.bool false)], args := [d1, d2, d3] }
  | _ => none }
def WheelOnceWrongFalsely : Prop := wheelOnceRow.holds Try.pinned (OpenSpec.ofChange wheelOnceWrong)

/-- 'hostlerlaw04.WheelSets': WHATEVER THE INPUT: true; the input reads as it did. -/
def wheelSetsSpec : ChangeSpec := { name := "wheelSets", fn := fun _ => fun
  | [d1, d2] => { results := [.lit (.bool true)], args := [d1, d2] }
  | _ => none }
def wheelSetsRow : OpenClaim := { program := "ytfflhppieogkbaa", sum := "e878c47343c0b0dafc404632ee663b9d11435e26c4fa0d680067b76bfcb32a0a", func := "hostler/hostlerlaw04.WheelSets", spec := "wheelSets", unfollowed := true, recurses := true, apart := false }
def WheelSetsSaid : Prop := wheelSetsRow.holds Try.pinned (OpenSpec.ofChange wheelSetsSpec)

/-- ITS FALSE NEIGHBOUR: 'it returns false'. Refute it at one input. -/
def wheelSetsWrong : ChangeSpec := { name := "wheelSets", fn := fun _ => fun
  | [d1, d2] => { results := [.lit (.bool false)], args := [d1, d2] }
  | _ => none }
def WheelSetsWrongFalsely : Prop := wheelSetsRow.holds Try.pinned (OpenSpec.ofChange wheelSetsWrong)

/-- 'hostlerlaw04.WheelNext': WHATEVER THE INPUT: true; the input reads as it did. -/
def wheelNextSpec : ChangeSpec := { name := "wheelNext", fn := fun _ => fun
  | [d] => { results := [.lit (.bool true)], args := [d] }
  | _ => none }
def wheelNextRow : OpenClaim := { program := "ytfflhppieogkbaa", sum := "e878c47343c0b0dafc404632ee663b9d11435e26c4fa0d680067b76bfcb32a0a", func := "hostler/hostlerlaw04.WheelNext", spec := "wheelNext", unfollowed := true, recurses := true, apart := false }
def WheelNextSaid : Prop := wheelNextRow.holds Try.pinned (OpenSpec.ofChange wheelNextSpec)

/-- ITS FALSE NEIGHBOUR: 'it returns false'. Refute it at one input. -/
def wheelNextWrong : ChangeSpec := { name := "wheelNext", fn := fun _ => fun
  | [d] => { results := [.lit (.bool false)], args := [d] }
  | _ => none }
def WheelNextWrongFalsely : Prop := wheelNextRow.holds Try.pinned (OpenSpec.ofChange wheelNextWrong)

/-- 'hostlerlaw04.WheelPlays': WHATEVER THE INPUT: true; the input reads as it did. -/
def wheelPlaysSpec : ChangeSpec := { name := "wheelPlays", fn := fun _ => fun
  | [d] => { results := [.lit (.bool true)], args := [d] }
  | _ => none }
def wheelPlaysRow : OpenClaim := { program := "ytfflhppieogkbaa", sum := "e878c47343c0b0dafc404632ee663b9d11435e26c4fa0d680067b76bfcb32a0a", func := "hostler/hostlerlaw04.WheelPlays", spec := "wheelPlays", unfollowed := true, recurses := true, apart := false }
def WheelPlaysSaid : Prop := wheelPlaysRow.holds Try.pinned (OpenSpec.ofChange wheelPlaysSpec)

/-- ITS FALSE NEIGHBOUR: 'it returns false'. Refute it at one input. -/
def wheelPlaysWrong : ChangeSpec := { name := "wheelPlays", fn := fun _ => fun
  | [d] => { results := [.lit (.bool false)], args := [d] }
  | _ => none }
def WheelPlaysWrongFalsely : Prop := wheelPlaysRow.holds Try.pinned (OpenSpec.ofChange wheelPlaysWrong)

/-- 'hostlerlaw04.WheelNil': WHATEVER THE INPUT: true; the input reads as it did. -/
def wheelNilSpec : ChangeSpec := { name := "wheelNil", fn := fun _ => fun
  | [d1, d2] => { results := [.lit (.bool true)], args := [d1, d2] }
  | _ => none }
def wheelNilRow : OpenClaim := { program := "ytfflhppieogkbaa", sum := "e878c47343c0b0dafc404632ee663b9d11435e26c4fa0d680067b76bfcb32a0a", func := "hostler/hostlerlaw04.WheelNil", spec := "wheelNil", unfollowed := true, recurses := true, apart := false }
def WheelNilSaid : Prop := wheelNilRow.holds Try.pinned (OpenSpec.ofChange wheelNilSpec)

/-- ITS FALSE NEIGHBOUR: 'it returns false'. Refute it at one input. -/
def wheelNilWrong : ChangeSpec := { name := "wheelNil", fn := fun _ => fun
  | [d1, d2] => { results := [.lit (.bool false)], args := [d1, d2] }
  | _ => none }
def WheelNilWrongFalsely : Prop := wheelNilRow.holds Try.pinned (OpenSpec.ofChange wheelNilWrong)

/- THE SECOND FORM. 'bulk': how many values and letters a reading holds, each counted each time it is reached (what is shared counts as often as it is met; a slice's spare places count too). A statement '..UptoSaid' is the law's where the arguments, and the package variables that the reading takes, are together of bulk at most 1048576: NARROWER than '..Said'. Prove '..Said' where nothing that the law and all that it calls make is longer than what came in: it says more and counts as full. Else prove '..UptoSaid'. A law counts once. -/
mutual
def uptoBulk {H : Type} : DataW H → Nat
  | .lit (.string bytes) => bytes.length + 1
  | .lit _ => 1
  | .nil => 1
  | .ptr d => uptoBulk d + 1
  | .slice elems spare => uptoBulkAll elems + uptoBulkAll spare + 1
  | .agg parts => uptoBulkAll parts + 1
  | .iface _ d => uptoBulk d + 1
  | .map entries => uptoBulkEntries entries + 1
  | .held _ => 1
def uptoBulkAll {H : Type} : List (DataW H) → Nat
  | [] => 0
  | d :: r => uptoBulk d + uptoBulkAll r
def uptoBulkEntries {H : Type} : List (Lit × DataW H) → Nat
  | [] => 0
  | x :: r => uptoBulkEntry x + uptoBulkEntries r
def uptoBulkEntry {H : Type} : Lit × DataW H → Nat
  | (.string bytes, d) => bytes.length + uptoBulk d + 1
  | (_, d) => uptoBulk d + 1
 end
def uptoSmall : (H : Type) → List (DataW H) → Bool := fun _ ds => decide (uptoBulkAll ds ≤ 1048576)
def OpenSpec.upto (s : _root_.Go.ChangeSpec) : _root_.Go.OpenSpec := { _root_.Go.OpenSpec.ofChange s with cond := some uptoSmall }

/-- 'hostlerlaw04.WheelKeys', WHERE WHAT IT READS IS OF BULK AT MOST 1048576: true; the input reads as it did. -/
def wheelKeysUptoRow : OpenClaim := { program := "ytfflhppieogkbaa", sum := "e878c47343c0b0dafc404632ee663b9d11435e26c4fa0d680067b76bfcb32a0a", func := "hostler/hostlerlaw04.WheelKeys", spec := "wheelKeys", unfollowed := true, recurses := true, apart := false, narrowed := true }
def WheelKeysUptoSaid : Prop := wheelKeysUptoRow.holds Try.pinned (OpenSpec.upto wheelKeysSpec)

/-- 'hostlerlaw04.WheelOnce', WHERE WHAT IT READS IS OF BULK AT MOST 1048576: true; the input reads as it did. -/
def wheelOnceUptoRow : OpenClaim := { program := "ytfflhppieogkbaa", sum := "e878c47343c0b0dafc404632ee663b9d11435e26c4fa0d680067b76bfcb32a0a", func := "hostler/hostlerlaw04.WheelOnce", spec := "wheelOnce", unfollowed := true, recurses := true, apart := false, narrowed := true }
def WheelOnceUptoSaid : Prop := wheelOnceUptoRow.holds Try.pinned (OpenSpec.upto wheelOnceSpec)

/-- 'hostlerlaw04.WheelSets', WHERE WHAT IT READS IS OF BULK AT MOST 1048576: true; the input reads as it did. -/
def wheelSetsUptoRow : OpenClaim := { program := "ytfflhppieogkbaa", sum := "e878c47343c0b0dafc404632ee663b9d11435e26c4fa0d680067b76bfcb32a0a", func := "hostler/hostlerlaw04.WheelSets", spec := "wheelSets", unfollowed := true, recurses := true, apart := false, narrowed := true }
def WheelSetsUptoSaid : Prop := wheelSetsUptoRow.holds Try.pinned (OpenSpec.upto wheelSetsSpec)

/-- 'hostlerlaw04.WheelNext', WHERE WHAT IT READS IS OF BULK AT MOST 1048576: true; the input reads as it did. -/
def wheelNextUptoRow : OpenClaim := { program := "ytfflhppieogkbaa", sum := "e878c47343c0b0dafc404632ee663b9d11435e26c4fa0d680067b76bfcb32a0a", func := "hostler/hostlerlaw04.WheelNext", spec := "wheelNext", unfollowed := true, recurses := true, apart := false, narrowed := true }
def WheelNextUptoSaid : Prop := wheelNextUptoRow.holds Try.pinned (OpenSpec.upto wheelNextSpec)

/-- 'hostlerlaw04.WheelPlays', WHERE WHAT IT READS IS OF BULK AT MOST 1048576: true; the input reads as it did. -/
def wheelPlaysUptoRow : OpenClaim := { program := "ytfflhppieogkbaa", sum := "e878c47343c0b0dafc404632ee663b9d11435e26c4fa0d680067b76bfcb32a0a", func := "hostler/hostlerlaw04.WheelPlays", spec := "wheelPlays", unfollowed := true, recurses := true, apart := false, narrowed := true }
def WheelPlaysUptoSaid : Prop := wheelPlaysUptoRow.holds Try.pinned (OpenSpec.upto wheelPlaysSpec)

/-- 'hostlerlaw04.WheelNil', WHERE WHAT IT READS IS OF BULK AT MOST 1048576: true; the input reads as it did. -/
def wheelNilUptoRow : OpenClaim := { program := "ytfflhppieogkbaa", sum := "e878c47343c0b0dafc404632ee663b9d11435e26c4fa0d680067b76bfcb32a0a", func := "hostler/hostlerlaw04.WheelNil", spec := "wheelNil", unfollowed := true, recurses := true, apart := false, narrowed := true }
def WheelNilUptoSaid : Prop := wheelNilUptoRow.holds Try.pinned (OpenSpec.upto wheelNilSpec)

end Rows
end Go.Proofs.Ytfflhppieogkbaa
