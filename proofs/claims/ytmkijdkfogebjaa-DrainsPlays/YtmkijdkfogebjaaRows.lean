/-
  No cell of these rows narrows 'for every input' (looked for: loops, veiled, ifaces, maps, wideKeys, modest, calm, conditions, laid).
  DERIVED. THE GIVEN ROWS OF THIS SEAT. 5 by the template 'for every input the law returns true; each argument reads behind the call as it read before'; 0 by the template 'total and deterministic' (their statements: YtmkijdkfogebjaaTotals.lean).
  GIVEN WITH THE SEED: the statements are not yours to turn. If you find one false, say at which input.
  Laid BY PROGRAM, IN A SANDBOX (cutbox-rows.mjs): the forced cells as the released guide's own fill.sh prints them over the translation a6e35083099fbc79… (all of the seat's roots in one cut). By AI agents, Wed Nov 11 2026. No macro, syntax, notation, axiom, sorry.
-/
import Derived.Test.YtmkijdkfogebjaaChecked
import GoSem.Claim
import GoSem.ClaimJoined
import GoSem.ClaimMapViews
import Derived.JoinedTies
import Derived.KernelRfl
namespace Go.Proofs.Ytmkijdkfogebjaa
/- THE CELL 'sum', in the pinned program and in every row, IS THE sha256 OF THE DUMP (.gsa) THAT YtmkijdkfogebjaaProg.lean LOADS. Nothing in Lean hashes anything: it is a label: what it is worth is what the hold of that sum in a sandbox is worth. -/
noncomputable def Try.pinned : Pinned := { name := "ytmkijdkfogebjaa", sum := "a6e35083099fbc79398eba3165f5f748ebb1e1f909ec6a37e2b9043b7c0919ae", checked := Try.checked }
namespace Rows
def none {H : Type} : Left H := { results := [], args := [] }

/-- 'hostlerlaw13.DrainsOnce': WHATEVER THE INPUT: true; the input reads as it did. -/
def drainsOnceSpec : ChangeSpec := { name := "drainsOnce", fn := fun _ => fun
  | [d] => { results := [.lit (.bool true)], args := [d] }
  | _ => none }
def drainsOnceRow : OpenClaim := { program := "ytmkijdkfogebjaa", sum := "a6e35083099fbc79398eba3165f5f748ebb1e1f909ec6a37e2b9043b7c0919ae", func := "hostler/hostlerlaw13.DrainsOnce", spec := "drainsOnce", inPlace := ["internal/bytealg.IndexByteString", "internal/bytealg.IndexString"], unfollowed := true, recurses := true, named := ["internal/bytealg.MaxLen"], apart := false }
def DrainsOnceSaid : Prop := drainsOnceRow.holds Try.pinned (OpenSpec.ofChange drainsOnceSpec)

/-- ITS FALSE NEIGHBOUR: 'it returns false'. Refute it at one input. -/
def drainsOnceWrong : ChangeSpec := { name := "drainsOnce", fn := fun _ => fun
  | [d] => { results := [.lit (.bool false)], args := [d] }
  | _ => none }
def DrainsOnceWrongFalsely : Prop := drainsOnceRow.holds Try.pinned (OpenSpec.ofChange drainsOnceWrong)

/-- 'hostlerlaw13.DrainsDue': WHATEVER THE INPUT: true; the input reads as it did. -/
def drainsDueSpec : ChangeSpec := { name := "drainsDue", fn := fun _ => fun
  | [d1, d2, d3] => { results := [.lit (.bool true)], args := [d1, d2, d3] }
  | _ => none }
def drainsDueRow : OpenClaim := { program := "ytmkijdkfogebjaa", sum := "a6e35083099fbc79398eba3165f5f748ebb1e1f909ec6a37e2b9043b7c0919ae", func := "hostler/hostlerlaw13.DrainsDue", spec := "drainsDue", inPlace := ["internal/bytealg.IndexByteString", "internal/bytealg.IndexString"], unfollowed := true, recurses := true, named := ["internal/bytealg.MaxLen"], apart := false }
def DrainsDueSaid : Prop := drainsDueRow.holds Try.pinned (OpenSpec.ofChange drainsDueSpec)

/-- ITS FALSE NEIGHBOUR: 'it returns false'. Refute it at one input. -/
def drainsDueWrong : ChangeSpec := { name := "drainsDue", fn := fun _ => fun
  | [d1, d2, d3] => { results := [.lit (.bool false)], args := [d1, d2, d3] }
  | _ => none }
def DrainsDueWrongFalsely : Prop := drainsDueRow.holds Try.pinned (OpenSpec.ofChange drainsDueWrong)

/-- 'hostlerlaw13.DrainsPlays': WHATEVER THE INPUT: true; the input reads as it did. -/
def drainsPlaysSpec : ChangeSpec := { name := "drainsPlays", fn := fun _ => fun
  | [d] => { results := [.lit (.bool true)], args := [d] }
  | _ => none }
def drainsPlaysRow : OpenClaim := { program := "ytmkijdkfogebjaa", sum := "a6e35083099fbc79398eba3165f5f748ebb1e1f909ec6a37e2b9043b7c0919ae", func := "hostler/hostlerlaw13.DrainsPlays", spec := "drainsPlays", inPlace := ["internal/bytealg.IndexByteString", "internal/bytealg.IndexString"], unfollowed := true, recurses := true, named := ["internal/bytealg.MaxLen"], apart := false }
def DrainsPlaysSaid : Prop := drainsPlaysRow.holds Try.pinned (OpenSpec.ofChange drainsPlaysSpec)

/-- ITS FALSE NEIGHBOUR: 'it returns false'. Refute it at one input. -/
def drainsPlaysWrong : ChangeSpec := { name := "drainsPlays", fn := fun _ => fun
  | [d] => { results := [.lit (.bool false)], args := [d] }
  | _ => none }
def DrainsPlaysWrongFalsely : Prop := drainsPlaysRow.holds Try.pinned (OpenSpec.ofChange drainsPlaysWrong)

/-- 'hostlerlaw13.DrainsRow': WHATEVER THE INPUT: true; the input reads as it did. -/
def drainsRowSpec : ChangeSpec := { name := "drainsRow", fn := fun _ => fun
  | [d1, d2] => { results := [.lit (.bool true)], args := [d1, d2] }
  | _ => none }
def drainsRowRow : OpenClaim := { program := "ytmkijdkfogebjaa", sum := "a6e35083099fbc79398eba3165f5f748ebb1e1f909ec6a37e2b9043b7c0919ae", func := "hostler/hostlerlaw13.DrainsRow", spec := "drainsRow", inPlace := ["internal/bytealg.IndexByteString", "internal/bytealg.IndexString"], unfollowed := true, recurses := true, named := ["internal/bytealg.MaxLen"], apart := false }
def DrainsRowSaid : Prop := drainsRowRow.holds Try.pinned (OpenSpec.ofChange drainsRowSpec)

/-- ITS FALSE NEIGHBOUR: 'it returns false'. Refute it at one input. -/
def drainsRowWrong : ChangeSpec := { name := "drainsRow", fn := fun _ => fun
  | [d1, d2] => { results := [.lit (.bool false)], args := [d1, d2] }
  | _ => none }
def DrainsRowWrongFalsely : Prop := drainsRowRow.holds Try.pinned (OpenSpec.ofChange drainsRowWrong)

/-- 'hostlerlaw13.DrainsNil': WHATEVER THE INPUT: true; the input reads as it did. -/
def drainsNilSpec : ChangeSpec := { name := "drainsNil", fn := fun _ => fun
  | [d1, d2] => { results := [.lit (.bool true)], args := [d1, d2] }
  | _ => none }
def drainsNilRow : OpenClaim := { program := "ytmkijdkfogebjaa", sum := "a6e35083099fbc79398eba3165f5f748ebb1e1f909ec6a37e2b9043b7c0919ae", func := "hostler/hostlerlaw13.DrainsNil", spec := "drainsNil", inPlace := ["internal/bytealg.IndexByteString", "internal/bytealg.IndexString"], unfollowed := true, recurses := true, named := ["internal/bytealg.MaxLen"], apart := false }
def DrainsNilSaid : Prop := drainsNilRow.holds Try.pinned (OpenSpec.ofChange drainsNilSpec)

/-- ITS FALSE NEIGHBOUR: 'it returns false'. Refute it at one input. -/
def drainsNilWrong : ChangeSpec := { name := "drainsNil", fn := fun _ => fun
  | [d1, d2] => { results := [.lit (.bool false)], args := [d1, d2] }
  | _ => none }
def DrainsNilWrongFalsely : Prop := drainsNilRow.holds Try.pinned (OpenSpec.ofChange drainsNilWrong)

/- THE SECOND FORM. 'bulk': how many values and letters a reading holds, each counted each time it is reached (what is shared counts as often as it is met; a slice's spare places count too). A statement '..UptoSaid' is the law's where the arguments, and the package variables that the reading takes, are together of bulk at most 1048576: NARROWER than '..Said'. Prove '..Said' where nothing that the law and all that it calls make is longer than what came in: it says more and counts as full. Else prove '..UptoSaid'. A law counts once. -/
mutual
def uptoBulk {H : Type} : DataW H → Nat
  | .lit (.string bytes) => bytes.length + 1
  | .lit _ => 1
  | .nil => 1
  | .ptr d => uptoBulk d + 1
  | .slice elems spare => uptoBulkAll elems + uptoBulkAll spare + 1
  | .agg parts => uptoBulkAll parts + 1
  | .iface _ d => uptoBulk d + 1
  | .map entries => uptoBulkEntries entries + 1
  | .held _ => 1
def uptoBulkAll {H : Type} : List (DataW H) → Nat
  | [] => 0
  | d :: r => uptoBulk d + uptoBulkAll r
def uptoBulkEntries {H : Type} : List (Lit × DataW H) → Nat
  | [] => 0
  | x :: r => uptoBulkEntry x + uptoBulkEntries r
def uptoBulkEntry {H : Type} : Lit × DataW H → Nat
  | (.string bytes, d) => bytes.length + uptoBulk d + 1
  | (_, d) => uptoBulk d + 1
 end
def uptoSmall : (H : Type) → List (DataW H) → Bool := fun _ ds => decide (uptoBulkAll ds ≤ 1048576)
def OpenSpec.upto (s : _root_.Go.ChangeSpec) : _root_.Go.OpenSpec := { _root_.Go.OpenSpec.ofChange s with cond := some uptoSmall }

/-- 'hostlerlaw13.DrainsOnce', WHERE WHAT IT READS IS OF BULK AT MOST 1048576: true; the input reads as it did. -/
def drainsOnceUptoRow : OpenClaim := { program := "ytmkijdkfogebjaa", sum := "a6e35083099fbc79398eba3165f5f748ebb1e1f909ec6a37e2b9043b7c0919ae", func := "hostler/hostlerlaw13.DrainsOnce", spec := "drainsOnce", inPlace := ["internal/bytealg.IndexByteString", "internal/bytealg.IndexString"], unfollowed := true, recurses := true, named := ["internal/bytealg.MaxLen"], apart := false, narrowed := true }
def DrainsOnceUptoSaid : Prop := drainsOnceUptoRow.holds Try.pinned (OpenSpec.upto drainsOnceSpec)

/-- 'hostlerlaw13.DrainsDue', WHERE WHAT IT READS IS OF BULK AT MOST 1048576: true; the input reads as it did. -/
def drainsDueUptoRow : OpenClaim := { program := "ytmkijdkfogebjaa", sum := "a6e35083099fbc79398eba3165f5f748ebb1e1f909ec6a37e2b9043b7c0919ae", func := "hostler/hostlerlaw13.DrainsDue", spec := "drainsDue", inPlace := ["internal/bytealg.IndexByteString", "internal/bytealg.IndexString"], unfollowed := true, recurses := true, named := ["internal/bytealg.MaxLen"], apart := false, narrowed := true }
def DrainsDueUptoSaid : Prop := drainsDueUptoRow.holds Try.pinned (OpenSpec.upto drainsDueSpec)

/-- 'hostlerlaw13.DrainsPlays', WHERE WHAT IT READS IS OF BULK AT MOST 1048576: true; the input reads as it did. -/
def drainsPlaysUptoRow : OpenClaim := { program := "ytmkijdkfogebjaa", sum := "a6e35083099fbc79398eba3165f5f748ebb1e1f909ec6a37e2b9043b7c0919ae", func := "hostler/hostlerlaw13.DrainsPlays", spec := "drainsPlays", inPlace := ["internal/bytealg.IndexByteString", "internal/bytealg.IndexString"], unfollowed := true, recurses := true, named := ["internal/bytealg.MaxLen"], apart := false, narrowed := true }
def DrainsPlaysUptoSaid : Prop := drainsPlaysUptoRow.holds Try.pinned (OpenSpec.upto drainsPlaysSpec)

/-- 'hostlerlaw13.DrainsRow', WHERE WHAT IT READS IS OF BULK AT MOST 1048576: true; the input reads as it did. -/
def drainsRowUptoRow : OpenClaim := { program := "ytmkijdkfogebjaa", sum := "a6e35083099fbc79398eba3165f5f748ebb1e1f909ec6a37e2b9043b7c0919ae", func := "hostler/hostlerlaw13.DrainsRow", spec := "drainsRow", inPlace := ["internal/bytealg.IndexByteString", "internal/bytealg.IndexString"], unfollowed := true, recurses := true, named := ["internal/bytealg.MaxLen"], apart := false, narrowed := true }
def DrainsRowUptoSaid : Prop := drainsRowUptoRow.holds Try.pinned (OpenSpec.upto drainsRowSpec)

/-- 'hostlerlaw13.DrainsNil', WHERE WHAT IT READS IS OF BULK AT MOST 1048576: true; the input reads as it did. -/
def drainsNilUptoRow : OpenClaim := { program := "ytmkijdkfogebjaa", sum := "a6e35083099fbc79398eba3165f5f748ebb1e1f909ec6a37e2b9043b7c0919ae", func := "hostler/hostlerlaw13.DrainsNil", spec := "drainsNil", inPlace := ["internal/bytealg.IndexByteString", "internal/bytealg.IndexString"], unfollowed := true, recurses := true, named := ["internal/bytealg.MaxLen"], apart := false, narrowed := true }
def DrainsNilUptoSaid : Prop := drainsNilUptoRow.holds Try.pinned (OpenSpec.upto drainsNilSpec)

end Rows
end Go.Proofs.Ytmkijdkfogebjaa
