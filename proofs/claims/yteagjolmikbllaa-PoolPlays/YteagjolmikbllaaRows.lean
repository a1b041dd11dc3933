/-
  No cell of these rows narrows 'for every input' (looked for: loops, veiled, ifaces, maps, wideKeys, modest, calm, conditions, laid).
  DERIVED. THE GIVEN ROWS OF THIS SEAT. 5 by the template 'for every input the law returns true; each argument reads behind the call as it read before'; 0 by the template 'total and deterministic' (their statements: YteagjolmikbllaaTotals.lean).
  GIVEN WITH THE SEED: the statements are not yours to turn. If you find one false, say at which input.
  Laid BY PROGRAM, IN A SANDBOX (cutbox-rows.mjs): the forced cells as the released guide's own fill.sh prints them over the translation 16123bcb22c74a2e… (all of the seat's roots in one cut). By AI agents, Wed Nov 11 2026. No macro, syntax, notation, axiom, sorry.
-/
import Derived.Test.YteagjolmikbllaaChecked
import GoSem.Claim
import GoSem.ClaimJoined
import GoSem.ClaimMapViews
import Derived.JoinedTies
import Derived.KernelRfl
namespace Go.Proofs.Yteagjolmikbllaa
/- THE CELL 'sum', in the pinned program and in every row, IS THE sha256 OF THE DUMP (.gsa) THAT YteagjolmikbllaaProg.lean LOADS. Nothing in Lean hashes anything: it is a label: what it is worth is what the hold of that sum in a sandbox is worth. -/
noncomputable def Try.pinned : Pinned := { name := "yteagjolmikbllaa", sum := "16123bcb22c74a2e57c86c0bcbca36685d54c2adfb87fda5482a824f7a26323f", checked := Try.checked }
namespace Rows
def none {H : Type} : Left H := { results := [], args := [] }

/-- 'hostlerlaw16.PoolLast': WHATEVER THE INPUT: true; the input reads as it did. -/
def poolLastSpec : ChangeSpec := { name := "poolLast", fn := fun _ => fun
  | [d1, d2] => { results := [.lit (.bool true)], args := [d1, d2] }
  | _ => none }
def poolLastRow : OpenClaim := { program := "yteagjolmikbllaa", sum := "16123bcb22c74a2e57c86c0bcbca36685d54c2adfb87fda5482a824f7a26323f", func := "hostler/hostlerlaw16.PoolLast", spec := "poolLast", unfollowed := true, recurses := true, apart := false }
def PoolLastSaid : Prop := poolLastRow.holds Try.pinned (OpenSpec.ofChange poolLastSpec)

/-- ITS FALSE NEIGHBOUR: 'it returns false'. Refute it at one input. -/
def poolLastWrong : ChangeSpec := { name := "poolLast", fn := fun _ => fun
  | [d1, d2] => { results := [.lit (.bool false)], args := [d1, d2] }
  | _ => none }
def PoolLastWrongFalsely : Prop := poolLastRow.holds Try.pinned (OpenSpec.ofChange poolLastWrong)

/-- 'hostlerlaw16.PoolWays': WHATEVER THE INPUT: true; the input reads as it did. -/
def poolWaysSpec : ChangeSpec := { name := "poolWays", fn := fun _ => fun
  | [d1, d2] => { results := [.lit (.bool true)], args := [d1, d2] }
  | _ => none }
def poolWaysRow : OpenClaim := { program := "yteagjolmikbllaa", sum := "16123bcb22c74a2e57c86c0bcbca36685d54c2adfb87fda5482a824f7a26323f", func := "hostler/hostlerlaw16.PoolWays", spec := "poolWays", unfollowed := true, recurses := true, apart := false }
def PoolWaysSaid : Prop := poolWaysRow.holds Try.pinned (OpenSpec.ofChange poolWaysSpec)

/-- ITS FALSE NEIGHBOUR: 'it returns false'. Refute it at one input. -/
def poolWaysWrong : ChangeSpec := { name := "poolWays", fn := fun _ => fun
  | [d1, d2] => { results := [.lit (.bool false)], args := [d1, d2] }
  | _ => none }
def PoolWaysWrongFalsely : Prop := poolWaysRow.holds Try.pinned (OpenSpec.ofChange poolWaysWrong)

/-- 'hostlerlaw16.PoolPlays': WHATEVER THE INPUT: true; the input reads as it did. -/
def poolPlaysSpec : ChangeSpec := { name := "poolPlays", fn := fun _ => fun
  | [d1, d2] => { results := [.lit (.bool true)], args := [d1, d2] }
  | _ => none }
def poolPlaysRow : OpenClaim := { program := "yteagjolmikbllaa", sum := "16123bcb22c74a2e57c86c0bcbca36685d54c2adfb87fda5482a824f7a26323f", func := "hostler/hostlerlaw16.PoolPlays", spec := "poolPlays", unfollowed := true, recurses := true, apart := false }
def PoolPlaysSaid : Prop := poolPlaysRow.holds Try.pinned (OpenSpec.ofChange poolPlaysSpec)

/-- ITS FALSE NEIGHBOUR: 'it returns false'. Refute it at one input. -/
def poolPlaysWrong : ChangeSpec := { name := "poolPlays", fn := fun _ => fun
  | [d1, d2] => { results := [.lit (.bool false)], args := [d1, d2] }
  | _ => none }
def PoolPlaysWrongFalsely : Prop := poolPlaysRow.holds Try.pinned (OpenSpec.ofChange poolPlaysWrong)

/-- 'hostlerlaw16.PoolOne': WHATEVER THE INPUT: true; the input reads as it did. -/
def poolOneSpec : ChangeSpec := { name := "poolOne", fn := fun _ => fun
  | [d1, d2] => { results := [.lit (.bool true)], args := [d1, d2] }
  | _ => none }
def poolOneRow : OpenClaim := { program := "yteagjolmikbllaa", sum := "16123bcb22c74a2e57c86c0bcbca36685d54c2adfb87fda5482a824f7a26323f", func := "hostler/hostlerlaw16.PoolOne", spec := "poolOne", unfollowed := true, recurses := true, apart := false }
def PoolOneSaid : Prop := poolOneRow.holds Try.pinned (OpenSpec.ofChange poolOneSpec)

/-- ITS FALSE NEIGHBOUR: 'it returns false'. Refute it at one input. -/
def poolOneWrong : ChangeSpec := { name := "poolOne", fn := fun _ => fun
  | [d1, d2] => { results := [.lit (.bool false)], args := [d1, d2] }
  | _ => none }
def PoolOneWrongFalsely : Prop := poolOneRow.holds Try.pinned (OpenSpec.ofChange poolOneWrong)

/-- 'hostlerlaw16.PoolNil': WHATEVER THE INPUT: true; the input reads as it did. -/
def poolNilSpec : ChangeSpec := { name := "poolNil", fn := fun _ => fun
  | [d] => { results := [.lit (.bool true)], args := [d] }
  | _ => none }
def poolNilRow : OpenClaim := { program := "yteagjolmikbllaa", sum := "16123bcb22c74a2e57c86c0bcbca36685d54c2adfb87fda5482a824f7a26323f", func := "hostler/hostlerlaw16.PoolNil", spec := "poolNil", unfollowed := true, recurses := true, apart := false }
def PoolNilSaid : Prop := poolNilRow.holds Try.pinned (OpenSpec.ofChange poolNilSpec)

/-- ITS FALSE NEIGHBOUR: 'it returns false'. Refute it at one input. -/
def poolNilWrong : ChangeSpec := { name := "poolNil", fn := fun _ => fun
  | [d] => { results := [.lit (.bool false)], args := [d] }
  | _ => none }
def PoolNilWrongFalsely : Prop := poolNilRow.holds Try.pinned (OpenSpec.ofChange poolNilWrong)

/- THE SECOND FORM. 'bulk': how many values and letters a reading holds, each counted each time it is reached (what is shared counts as often as it is met; a slice's spare places count too). A statement '..UptoSaid' is the law's where the arguments, and the package variables that the reading takes, are together of bulk at most 1048576: NARROWER than '..Said'. Prove '..Said' where nothing that the law and all that it calls make is longer than what came in: it says more and counts as full. Else prove '..UptoSaid'. A law counts once. -/
mutual
def uptoBulk {H : Type} : DataW H → Nat
  | .lit (.string bytes) => bytes.length + 1
  | .lit _ => 1
  | .nil => 1
  | .ptr d => uptoBulk d + 1
  | .slice elems spare => uptoBulkAll elems + uptoBulkAll spare + 1
  | .agg parts => uptoBulkAll parts + 1
  | .iface _ d => uptoBulk d + 1
  | .map entries => uptoBulkEntries entries + 1
  | .held _ => 1
def uptoBulkAll {H : Type} : List (DataW H) → Nat
  | [] => 0
  | d :: r => uptoBulk d + uptoBulkAll r
def uptoBulkEntries {H : Type} : List (Lit × DataW H) → Nat
  | [] => 0
  | x :: r => uptoBulkEntry x + uptoBulkEntries r
def uptoBulkEntry {H : Type} : Lit × DataW H → Nat
  | (.string bytes, d) => bytes.length + uptoBulk d + 1
  | (_, d) => uptoBulk d + 1
 end
def uptoSmall : (H : Type) → List (DataW H) → Bool := fun _ ds => decide (uptoBulkAll ds ≤ 1048576)
def OpenSpec.upto (s : _root_.Go.ChangeSpec) : _root_.Go.OpenSpec := { _root_.Go.OpenSpec.ofChange s with cond := some uptoSmall }

/-- 'hostlerlaw16.PoolLast', WHERE WHAT IT READS IS OF BULK AT MOST 1048576: true; the input reads as it did. -/
def poolLastUptoRow : OpenClaim := { program := "yteagjolmikbllaa", sum := "16123bcb22c74a2e57c86c0bcbca36685d54c2adfb87fda5482a824f7a26323f", func := "hostler/hostlerlaw16.PoolLast", spec := "poolLast", unfollowed := true, recurses := true, apart := false, narrowed := true }
def PoolLastUptoSaid : Prop := poolLastUptoRow.holds Try.pinned (OpenSpec.upto poolLastSpec)

/-- 'hostlerlaw16.PoolWays', WHERE WHAT IT READS IS OF BULK AT MOST 1048576: true; the input reads as it did. -/
def poolWaysUptoRow : OpenClaim := { program := "yteagjolmikbllaa", sum := "16123bcb22c74a2e57c86c0bcbca36685d54c2adfb87fda5482a824f7a26323f", func := "hostler/hostlerlaw16.PoolWays", spec := "poolWays", unfollowed := true, recurses := true, apart := false, narrowed := true }
def PoolWaysUptoSaid : Prop := poolWaysUptoRow.holds Try.pinned (OpenSpec.upto poolWaysSpec)

/-- 'hostlerlaw16.PoolPlays', WHERE WHAT IT READS IS OF BULK AT MOST 1048576: true; the input reads as it did. -/
def poolPlaysUptoRow : OpenClaim := { program := "yteagjolmikbllaa", sum := "16123bcb22c74a2e57c86c0bcbca36685d54c2adfb87fda5482a824f7a26323f", func := "hostler/hostlerlaw16.PoolPlays", spec := "poolPlays", unfollowed := true, recurses := true, apart := false, narrowed := true }
def PoolPlaysUptoSaid : Prop := poolPlaysUptoRow.holds Try.pinned (OpenSpec.upto poolPlaysSpec)

/-- 'hostlerlaw16.PoolOne', WHERE WHAT IT READS IS OF BULK AT MOST 1048576: true; the input reads as it did. -/
def poolOneUptoRow : OpenClaim := { program := "yteagjolmikbllaa", sum := "16123bcb22c74a2e57c86c0bcbca36685d54c2adfb87fda5482a824f7a26323f", func := "hostler/hostlerlaw16.PoolOne", spec := "poolOne", unfollowed := true, recurses := true, apart := false, narrowed := true }
def PoolOneUptoSaid : Prop := poolOneUptoRow.holds Try.pinned (OpenSpec.upto poolOneSpec)

/-- 'hostlerlaw16.PoolNil', WHERE WHAT IT READS IS OF BULK AT MOST 1048576: true; the input reads as it did. -/
def poolNilUptoRow : OpenClaim := { program := "yteagjolmikbllaa", sum := "16123bcb22c74a2e57c86c0bcbca36685d54c2adfb87fda5482a824f7a26323f", func := "hostler/hostlerlaw16.PoolNil", spec := "poolNil", unfollowed := true, recurses := true, apart := false, narrowed := true }
def PoolNilUptoSaid : Prop := poolNilUptoRow.holds Try.pinned (OpenSpec.upto poolNilSpec)

end Rows
end Go.Proofs.Yteagjolmikbllaa
