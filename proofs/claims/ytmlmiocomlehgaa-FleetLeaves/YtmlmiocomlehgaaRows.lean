/-
  No cell of these rows narrows 'for every input' (looked for: loops, veiled, ifaces, maps, wideKeys, modest, calm, conditions, laid).
  DERIVED. THE GIVEN ROWS OF THIS SEAT. 7 by the template 'for every input the law returns true; each argument reads behind the call as it read before'; 0 by the template 'total and deterministic' (their statements: YtmlmiocomlehgaaTotals.lean).
  GIVEN WITH THE SEED: the statements are not yours to turn. If you find one false, say at which input.
  Laid BY PROGRAM, IN A SANDBOX (cutbox-rows.mjs): the forced cells as the released guide's own fill.sh prints them over the translation b7fb4417fd18a207… (all of the seat's roots in one cut). By AI agents, Wed Nov 11 2026. No macro, syntax, notation, axiom, sorry.
-/
import Derived.Test.YtmlmiocomlehgaaChecked
import GoSem.Claim
import GoSem.ClaimJoined
import GoSem.ClaimMapViews
import Derived.JoinedTies
import Derived.KernelRfl
namespace Go.Proofs.Ytmlmiocomlehgaa
/- THE CELL 'sum', in the pinned program and in every row, IS THE sha256 OF THE DUMP (.gsa) THAT YtmlmiocomlehgaaProg.lean LOADS. Nothing in Lean hashes anything: it is a label: what it is worth is what the hold of that sum in a sandbox is worth. -/
noncomputable def Try.pinned : Pinned := { name := "ytmlmiocomlehgaa", sum := "b7fb4417fd18a20721b04170ec8119ff1cfea7f88d60fbe7b05406043529e143", checked := Try.checked }
namespace Rows
def none {H : Type} : Left H := { results := [], args := [] }

/-- 'hostlerlaw18.FleetRow': WHATEVER THE INPUT: true; the input reads as it did. -/
def fleetRowSpec : ChangeSpec := { name := "fleetRow", fn := fun _ => fun
  | [d1, d2, d3] => { results := [.lit (.bool true)], args := [d1, d2, d3] }
  | _ => none }
def fleetRowRow : OpenClaim := { program := "ytmlmiocomlehgaa", sum := "b7fb4417fd18a20721b04170ec8119ff1cfea7f88d60fbe7b05406043529e143", func := "hostler/hostlerlaw18.FleetRow", spec := "fleetRow", inPlace := ["internal/bytealg.IndexByteString", "internal/bytealg.IndexString"], unfollowed := true, recurses := true, named := ["internal/bytealg.MaxLen"], apart := false }
def FleetRowSaid : Prop := fleetRowRow.holds Try.pinned (OpenSpec.ofChange fleetRowSpec)

/-- ITS FALSE NEIGHBOUR: 'it returns false'. Refute it at one input. -/
def fleetRowWrong : ChangeSpec := { name := "fleetRow", fn := fun _ => fun
  | [d1, d2, d3] => { results := [.lit (.bool false)], args := [d1, d2, d3] }
  | _ => none }
def FleetRowWrongFalsely : Prop := fleetRowRow.holds Try.pinned (OpenSpec.ofChange fleetRowWrong)

/-- 'hostlerlaw18.FleetLeaves': WHATEVER THE INPUT: true; the input reads as it did. -/
def fleetLeavesSpec : ChangeSpec := { name := "fleetLeaves", fn := fun _ => fun
  | [d1, d2, d3] => { results := [.lit (.bool true)], args := [d1, d2, d3] }
  | _ => none }
def fleetLeavesRow : OpenClaim := { program := "ytmlmiocomlehgaa", sum := "b7fb4417fd18a20721b04170ec8119ff1cfea7f88d60fbe7b05406043529e143", func := "hostler/hostlerlaw18.FleetLeaves", spec := "fleetLeaves", inPlace := ["internal/bytealg.IndexByteString", "internal/bytealg.IndexString"], unfollowed := true, recurses := true, named := ["internal/bytealg.MaxLen"], apart := false }
def FleetLeavesSaid : Prop := fleetLeavesRow.holds Try.pinned (OpenSpec.ofChange fleetLeavesSpec)

/-- ITS FALSE NEIGHBOUR: 'it returns false'. Refute it at one input. -/
def fleetLeavesWrong : ChangeSpec := { name := "fleetLeaves", fn := fun _ => fun
  | [d1, d2, d3] => { results := [.lit (.bool false)], args := [d1, d2, d3] }
  | _ => none }
def FleetLeavesWrongFalsely : Prop := fleetLeavesRow.holds Try.pinned (OpenSpec.ofChange fleetLeavesWrong)

/-- 'hostlerlaw18.FleetUndrains': WHATEVER THE INPUT: true; the input reads as it did. -/
def fleetUndrainsSpec : ChangeSpec := { name := "fleetUndrains", fn := fun _ => fun
  | [d1, d2, d3] => { results := [.lit (.bool true)], args := [d1, d2, d3] }
  | _ => none }
def fleetUndrainsRow : OpenClaim := { program := "ytmlmiocomlehgaa", sum := "b7fb4417fd18a20721b04170ec8119ff1cfea7f88d60fbe7b05406043529e143", func := "hostler/hostlerlaw18.FleetUndrains", spec := "fleetUndrains", inPlace := ["internal/bytealg.IndexByteString", "internal/bytealg.IndexString"], unfollowed := true, recurses := true, named := ["internal/bytealg.MaxLen"], apart := false }
def FleetUndrainsSaid : Prop := fleetUndrainsRow.holds Try.pinned (OpenSpec.ofChange fleetUndrainsSpec)

/-- ITS FALSE NEIGHBOUR: 'it returns false'. Refute it at one input. -/
def fleetUndrainsWrong : ChangeSpec := { name := "fleetUndrains", fn := fun _ => fun
  | [d1, d2, d3] => { results := [.lit (.bool false)], args := [d1, d2, d3] }
  | _ => none }
def FleetUndrainsWrongFalsely : Prop := fleetUndrainsRow.holds Try.pinned (OpenSpec.ofChange fleetUndrainsWrong)

/-- 'hostlerlaw18.FleetGuard': WHATEVER THE INPUT: true; the input reads as it did. -/
def fleetGuardSpec : ChangeSpec := { name := "fleetGuard", fn := fun _ => fun
  | [d1, d2, d3] => { results := [.lit (.bool true)], args := [d1, d2, d3] }
  | _ => none }
def fleetGuardRow : OpenClaim := { program := "ytmlmiocomlehgaa", sum := "b7fb4417fd18a20721b04170ec8119ff1cfea7f88d60fbe7b05406043529e143", func := "hostler/hostlerlaw18.FleetGuard", spec := "fleetGuard", inPlace := ["internal/bytealg.IndexByteString", "internal/bytealg.IndexString"], unfollowed := true, recurses := true, named := ["internal/bytealg.MaxLen"], apart := false }
def FleetGuardSaid : Prop := fleetGuardRow.holds Try.pinned (OpenSpec.ofChange fleetGuardSpec)

/-- ITS FALSE NEIGHBOUR: 'it returns false'. Refute it at one input. -/
def fleetGuardWrong : ChangeSpec := { name := "fleetGuard", fn := fun _ => fun
  | [d1, d2, d3] => { results := [.lit (.bool false)], args := [d1, d2, d3] }
  | _ => none }
def FleetGuardWrongFalsely : Prop := fleetGuardRow.holds Try.pinned (OpenSpec.ofChange fleetGuardWrong)

/-- 'hostlerlaw18.FleetForce': WHATEVER THE INPUT: true; the input reads as it did. -/
def fleetForceSpec : ChangeSpec := { name := "fleetForce", fn := fun _ => fun
  | [d1, d2, d3] => { results := [.lit (.bool true)], args := [d1, d2, d3] }
  | _ => none }
def fleetForceRow : OpenClaim := { program := "ytmlmiocomlehgaa", sum := "b7fb4417fd18a20721b04170ec8119ff1cfea7f88d60fbe7b05406043529e143", func := "hostler/hostlerlaw18.FleetForce", spec := "fleetForce", inPlace := ["internal/bytealg.IndexByteString", "internal/bytealg.IndexString"], unfollowed := true, recurses := true, named := ["internal/bytealg.MaxLen"], apart := false }
def FleetForceSaid : Prop := fleetForceRow.holds Try.pinned (OpenSpec.ofChange fleetForceSpec)

/-- ITS FALSE NEIGHBOUR: 'it returns false'. Refute it at one input. -/
def fleetForceWrong : ChangeSpec := { name := "fleetForce", fn := fun _ => fun
  | [d1, d2, d3] => { results := [.lit (.bool false)], args := [d1, d2, d3] }
  | _ => none }
def FleetForceWrongFalsely : Prop := fleetForceRow.holds Try.pinned (OpenSpec.ofChange fleetForceWrong)

/-- 'hostlerlaw18.FleetStays': WHATEVER THE INPUT: true; the input reads as it did. -/
def fleetStaysSpec : ChangeSpec := { name := "fleetStays", fn := fun _ => fun
  | [d1, d2, d3] => { results := [.lit (.bool true)], args := [d1, d2, d3] }
  | _ => none }
def fleetStaysRow : OpenClaim := { program := "ytmlmiocomlehgaa", sum := "b7fb4417fd18a20721b04170ec8119ff1cfea7f88d60fbe7b05406043529e143", func := "hostler/hostlerlaw18.FleetStays", spec := "fleetStays", inPlace := ["internal/bytealg.IndexByteString", "internal/bytealg.IndexString"], unfollowed := true, recurses := true, named := ["internal/bytealg.MaxLen"], apart := false }
def FleetStaysSaid : Prop := fleetStaysRow.holds Try.pinned (OpenSpec.ofChange fleetStaysSpec)

/-- ITS FALSE NEIGHBOUR: 'it returns false'. Refute it at one input. -/
def fleetStaysWrong : ChangeSpec := { name := "fleetStays", fn := fun _ => fun
  | [d1, d2, d3] => { results := [.lit (.bool false)], args := [d1, d2, d3] }
  | _ => none }
def FleetStaysWrongFalsely : Prop := fleetStaysRow.holds Try.pinned (OpenSpec.ofChange fleetStaysWrong)

/-- 'hostlerlaw18.FleetNil': WHATEVER THE INPUT: true; the input reads as it did. -/
def fleetNilSpec : ChangeSpec := { name := "fleetNil", fn := fun _ => fun
  | [d] => { results := [.lit (.bool true)], args := [d] }
  | _ => none }
def fleetNilRow : OpenClaim := { program := "ytmlmiocomlehgaa", sum := "b7fb4417fd18a20721b04170ec8119ff1cfea7f88d60fbe7b05406043529e143", func := "hostler/hostlerlaw18.FleetNil", spec := "fleetNil", inPlace := ["internal/bytealg.IndexByteString", "internal/bytealg.IndexString"], unfollowed := true, recurses := true, named := ["internal/bytealg.MaxLen"], apart := false }
def FleetNilSaid : Prop := fleetNilRow.holds Try.pinned (OpenSpec.ofChange fleetNilSpec)

/-- ITS FALSE NEIGHBOUR: 'it returns false'. Refute it at one input. -/
def fleetNilWrong : ChangeSpec := { name := "fleetNil", fn := fun _ => fun
  | [d] => { results := [.lit (.bool false)], args := [d] }
  | _ => none }
def FleetNilWrongFalsely : Prop := fleetNilRow.holds Try.pinned (OpenSpec.ofChange fleetNilWrong)

/- THE SECOND FORM. 'bulk': how many values and letters a reading holds, each counted each time it is reached (what is shared counts as often as it is met; a slice's spare places count too). A statement '..UptoSaid' is the law's where the arguments, and the package variables that the reading takes, are together of bulk at most 1048576: NARROWER than '..Said'. Prove '..Said' where nothing that the law and all that it calls make is longer than what came in: it says more and counts as full. Else prove '..UptoSaid'. A law counts once. -/
mutual
def uptoBulk {H : Type} : DataW H → Nat
  | .lit (.string bytes) => bytes.length + 1
  | .lit _ => 1
  | .nil => 1
  | .ptr d => uptoBulk d + 1
  | .slice elems spare => uptoBulkAll elems + uptoBulkAll spare + 1
  | .agg parts => uptoBulkAll parts + 1
  | .iface _ d => uptoBulk d + 1
  | .map entries => uptoBulkEntries entries + 1
  | .held _ => 1
def uptoBulkAll {H : Type} : List (DataW H) → Nat
  | [] => 0
  | d :: r => uptoBulk d + uptoBulkAll r
def uptoBulkEntries {H : Type} : List (Lit × DataW H) → Nat
  | [] => 0
  | x :: r => uptoBulkEntry x + uptoBulkEntries r
def uptoBulkEntry {H : Type} : Lit × DataW H → Nat
  | (.string bytes, d) => bytes.length + uptoBulk d + 1
  | (_, d) => uptoBulk d + 1
 end
def uptoSmall : (H : Type) → List (DataW H) → Bool := fun _ ds => decide (uptoBulkAll ds ≤ 1048576)
def OpenSpec.upto (s : _root_.Go.ChangeSpec) : _root_.Go.OpenSpec := { _root_.Go.OpenSpec.ofChange s with cond := some uptoSmall }

/-- 'hostlerlaw18.FleetRow', WHERE WHAT IT READS IS OF BULK AT MOST 1048576: true; the input reads as it did. -/
def fleetRowUptoRow : OpenClaim := { program := "ytmlmiocomlehgaa", sum := "b7fb4417fd18a20721b04170ec8119ff1cfea7f88d60fbe7b05406043529e143", func := "hostler/hostlerlaw18.FleetRow", spec := "fleetRow", inPlace := ["internal/bytealg.IndexByteString", "internal/bytealg.IndexString"], unfollowed := true, recurses := true, named := ["internal/bytealg.MaxLen"], apart := false, narrowed := true }
def FleetRowUptoSaid : Prop := fleetRowUptoRow.holds Try.pinned (OpenSpec.upto fleetRowSpec)

/-- 'hostlerlaw18.FleetLeaves', WHERE WHAT IT READS IS OF BULK AT MOST 1048576: true; the input reads as it did. -/
def fleetLeavesUptoRow : OpenClaim := { program := "ytmlmiocomlehgaa", sum := "b7fb4417fd18a20721b04170ec8119ff1cfea7f88d60fbe7b05406043529e143", func := "hostler/hostlerlaw18.FleetLeaves", spec := "fleetLeaves", inPlace := ["internal/bytealg.IndexByteString", "internal/bytealg.IndexString"], unfollowed := true, recurses := true, named := ["internal/bytealg.MaxLen"], apart := false, narrowed := true }
def FleetLeavesUptoSaid : Prop := fleetLeavesUptoRow.holds Try.pinned (OpenSpec.upto fleetLeavesSpec)

/-- 'hostlerlaw18.FleetUndrains', WHERE WHAT IT READS IS OF BULK AT MOST 1048576: true; the input reads as it did. -/
def fleetUndrainsUptoRow : OpenClaim := { program := "ytmlmiocomlehgaa", sum := "b7fb4417fd18a20721b04170ec8119ff1cfea7f88d60fbe7b05406043529e143", func := "hostler/hostlerlaw18.FleetUndrains", spec := "fleetUndrains", inPlace := ["internal/bytealg.IndexByteString", "internal/bytealg.IndexString"], unfollowed := true, recurses := true, named := ["internal/bytealg.MaxLen"], apart := false, narrowed := true }
def FleetUndrainsUptoSaid : Prop := fleetUndrainsUptoRow.holds Try.pinned (OpenSpec.upto fleetUndrainsSpec)

/-- 'hostlerlaw18.FleetGuard', WHERE WHAT IT READS IS OF BULK AT MOST 1048576: true; the input reads as it did. -/
def fleetGuardUptoRow : OpenClaim := { program := "ytmlmiocomlehgaa", sum := "b7fb4417fd18a20721b04170ec8119ff1cfea7f88d60fbe7b05406043529e143", func := "hostler/hostlerlaw18.FleetGuard", spec := "fleetGuard", inPlace := ["internal/bytealg.IndexByteString", "internal/bytealg.IndexString"], unfollowed := true, recurses := true, named := ["internal/bytealg.MaxLen"], apart := false, narrowed := true }
def FleetGuardUptoSaid : Prop := fleetGuardUptoRow.holds Try.pinned (OpenSpec.upto fleetGuardSpec)

/-- 'hostlerlaw18.FleetForce', WHERE WHAT IT READS IS OF BULK AT MOST 1048576: true; the input reads as it did. -/
def fleetForceUptoRow : OpenClaim := { program := "ytmlmiocomlehgaa", sum := "b7fb4417fd18a20721b04170ec8119ff1cfea7f88d60fbe7b05406043529e143", func := "hostler/hostlerlaw18.FleetForce", spec := "fleetForce", inPlace := ["internal/bytealg.IndexByteString", "internal/bytealg.IndexString"], unfollowed := true, recurses := true, named := ["internal/bytealg.MaxLen"], apart := false, narrowed := true }
def FleetForceUptoSaid : Prop := fleetForceUptoRow.holds Try.pinned (OpenSpec.upto fleetForceSpec)

/-- 'hostlerlaw18.FleetStays', WHERE WHAT IT READS IS OF BULK AT MOST 1048576: true; the input reads as it did. -/
def fleetStaysUptoRow : OpenClaim := { program := "ytmlmiocomlehgaa", sum := "b7fb4417fd18a20721b04170ec8119ff1cfea7f88d60fbe7b05406043529e143", func := "hostler/hostlerlaw18.FleetStays", spec := "fleetStays", inPlace := ["internal/bytealg.IndexByteString", "internal/bytealg.IndexString"], unfollowed := true, recurses := true, named := ["internal/bytealg.MaxLen"], apart := false, narrowed := true }
def FleetStaysUptoSaid : Prop := fleetStaysUptoRow.holds Try.pinned (OpenSpec.upto fleetStaysSpec)

/-- 'hostlerlaw18.FleetNil', WHERE WHAT IT READS IS OF BULK AT MOST 1048576: true; the input reads as it did. -/
def fleetNilUptoRow : OpenClaim := { program := "ytmlmiocomlehgaa", sum := "b7fb4417fd18a20721b04170ec8119ff1cfea7f88d60fbe7b05406043529e143", func := "hostler/hostlerlaw18.FleetNil", spec := "fleetNil", inPlace := ["internal/bytealg.IndexByteString", "internal/bytealg.IndexString"], unfollowed := true, recurses := true, named := ["internal/bytealg.MaxLen"], apart := false, narrowed := true }
def FleetNilUptoSaid : Prop := fleetNilUptoRow.holds Try.pinned (OpenSpec.upto fleetNilSpec)

end Rows
end Go.Proofs.Ytmlmiocomlehgaa
