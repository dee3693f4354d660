/-
  No cell of these rows narrows 'for every input' (looked for: loops, veiled, ifaces, maps, wideKeys, modest, calm, conditions, laid).
  DERIVED. THE GIVEN ROWS OF THIS SEAT. 5 by the template 'for every input the law returns true; each argument reads behind the call as it read before'; 0 by the template 'total and deterministic' (their statements: YtdbcmmckjlbffaaTotals.lean).
  GIVEN WITH THE SEED: the statements are not yours to turn. If you find one false, say at which input.
  Laid BY PROGRAM, IN A SANDBOX (cutbox-rows.mjs): the forced cells as the released guide's own fill.sh prints them over the translation 4939a712cc6a353b… (all of the seat's roots in one cut). By AI agents, Wed Nov 11 2026. No macro, syntax, notation, axiom, sorry.
-/
import Derived.Test.YtdbcmmckjlbffaaChecked
import GoSem.Claim
import GoSem.ClaimJoined
import GoSem.ClaimMapViews
import Derived.JoinedTies
import Derived.KernelRfl
namespace Go.Proofs.Ytdbcmmckjlbffaa
/- THE CELL 'sum', in the pinned program and in every row, IS THE sha256 OF THE DUMP (.gsa) THAT YtdbcmmckjlbffaaProg.lean LOADS. Nothing in Lean hashes anything: it is a label: what it is worth is what the hold of that sum in a sandbox is worth. -/
noncomputable def Try.pinned : Pinned := { name := "ytdbcmmckjlbffaa", sum := "4939a712cc6a353b85fd9045fec0a2a6757615bc8657440bc9124544217e3897", checked := Try.checked }
namespace Rows
def none {H : Type} : Left H := { results := [], args := [] }

/-- 'signalboxlaw15.HoltAsks': WHATEVER THE INPUT: true; the input reads as it did. -/
def holtAsksSpec : ChangeSpec := { name := "holtAsks", fn := fun _ => fun
  | [d1, d2, d3] => { results := [.lit (.bool true)], args := [d1, d2, d3] }
  | _ => none }
def holtAsksRow : OpenClaim := { program := "ytdbcmmckjlbffaa", sum := "4939a712cc6a353b85fd9045fec0a2a6757615bc8657440bc9124544217e3897", func := "signalbox/signalboxlaw15.HoltAsks", spec := "holtAsks", unfollowed := true, recurses := true, apart := false }
def HoltAsksSaid : Prop := holtAsksRow.holds Try.pinned (OpenSpec.ofChange holtAsksSpec)

/-- ITS FALSE NEIGHBOUR: 'it returns false'. Refute it at one input. -/
def holtAsksWrong : ChangeSpec := { name := "holtAsks", fn := fun _ => fun
  | [d1, d2, d3] => { results := [.lit (.bool false)], args := [d1, d2, d3] }
  | _ => none }
def HoltAsksWrongFalsely : Prop := holtAsksRow.holds Try.pinned (OpenSpec.ofChange holtAsksWrong)

/-- 'signalboxlaw15.HoltMade': WHATEVER THE INPUT: true; the input reads as it did. -/
def holtMadeSpec : ChangeSpec := { name := "holtMade", fn := fun _ => fun
  | [d1, d2, d3] => { results := [.lit (.bool true)], args := [d1, d2, d3] }
  | _ => none }
def holtMadeRow : OpenClaim := { program := "ytdbcmmckjlbffaa", sum := "4939a712cc6a353b85fd9045fec0a2a6757615bc8657440bc9124544217e3897", func := "signalbox/signalboxlaw15.HoltMade", spec := "holtMade", unfollowed := true, recurses := true, apart := false }
def HoltMadeSaid : Prop := holtMadeRow.holds Try.pinned (OpenSpec.ofChange holtMadeSpec)

/-- ITS FALSE NEIGHBOUR: 'it returns false'. Refute it at one input. -/
def holtMadeWrong : ChangeSpec := { name := "holtMade", fn := fun _ => fun
  | [d1, d2, d3] => { results := [.lit (.bool false)], args := [d1, d2, d3] }
  | _ => none }
def HoltMadeWrongFalsely : Prop := holtMadeRow.holds Try.pinned (OpenSpec.ofChange holtMadeWrong)

/-- 'signalboxlaw15.HoltSets': WHATEVER THE INPUT: true; the input reads as it did. -/
def holtSetsSpec : ChangeSpec := { name := "holtSets", fn := fun _ => fun
  | [d1, d2, d3, d4] => { results := [.lit (.bool true)], args := [d1, d2, d3, d4] }
  | _ => none }
def holtSetsRow : OpenClaim := { program := "ytdbcmmckjlbffaa", sum := "4939a712cc6a353b85fd9045fec0a2a6757615bc8657440bc9124544217e3897", func := "signalbox/signalboxlaw15.HoltSets", spec := "holtSets", unfollowed := true, recurses := true, apart := false }
def HoltSetsSaid : Prop := holtSetsRow.holds Try.pinned (OpenSpec.ofChange holtSetsSpec)

/-- ITS FALSE NEIGHBOUR: 'it returns false'. Refute it at one input. -/
def holtSetsWrong : ChangeSpec := { name := "holtSets", fn := fun _ => fun
  | [d1, d2, d3, d4] => { results := [.lit (.bool false)], args := [d1, d2, d3, d4] }
  | _ => none }
def HoltSetsWrongFalsely : Prop := holtSetsRow.holds Try.pinned (OpenSpec.ofChange holtSetsWrong)

/-- 'signalboxlaw15.HoltJust': WHATEVER THE INPUT: true; the input reads as it did. -/
def holtJustSpec : ChangeSpec := { name := "holtJust", fn := fun _ => fun
  | [d1, d2] => { results := [.lit (.bool true)], args := [d1, d2] }
  | _ => none }
def holtJustRow : OpenClaim := { program := "ytdbcmmckjlbffaa", sum := "4939a712cc6a353b85fd9045fec0a2a6757615bc8657440bc9124544217e3897", func := "signalbox/signalboxlaw15.HoltJust", spec := "holtJust", unfollowed := true, recurses := true, apart := false }
def HoltJustSaid : Prop := holtJustRow.holds Try.pinned (OpenSpec.ofChange holtJustSpec)

/-- ITS FALSE NEIGHBOUR: 'it returns false'. Refute it at one input. -/
def holtJustWrong : ChangeSpec := { name := "holtJust", fn := fun _ => fun
  | [d1, d2] => { results := [.lit (.bool false)], args := [d1, d2] }
  | _ => none }
def HoltJustWrongFalsely : Prop := holtJustRow.holds Try.pinned (OpenSpec.ofChange holtJustWrong)

/-- 'signalboxlaw15.HoltOne': WHATEVER THE INPUT: true; the input reads as it did. -/
def holtOneSpec : ChangeSpec := { name := "holtOne", fn := fun _ => fun
  | [d1, d2, d3, d4] => { results := [.lit (.bool true)], args := [d1, d2, d3, d4] }
  | _ => none }
def holtOneRow : OpenClaim := { program := "ytdbcmmckjlbffaa", sum := "4939a712cc6a353b85fd9045fec0a2a6757615bc8657440bc9124544217e3897", func := "signalbox/signalboxlaw15.HoltOne", spec := "holtOne", unfollowed := true, recurses := true, apart := false }
def HoltOneSaid : Prop := holtOneRow.holds Try.pinned (OpenSpec.ofChange holtOneSpec)

/-- ITS FALSE NEIGHBOUR: 'it returns false'. Refute it at one input. -/
def holtOneWrong : ChangeSpec := { name := "holtOne", fn := fun _ => fun
  | [d1, d2, d3, d4] => { results := [.lit (.bool false)], args := [d1, d2, d3, d4] }
  | _ => none }
def HoltOneWrongFalsely : Prop := holtOneRow.holds Try.pinned (OpenSpec.ofChange holtOneWrong)

/- THE SECOND FORM. 'bulk': how many values and letters a reading holds, each counted each time it is reached (what is shared counts as often as it is met; a slice's spare places count too). A statement '..UptoSaid' is the law's where the arguments, and the package variables that the reading takes, are together of bulk at most 1048576: NARROWER than '..Said'. Prove '..Said' where nothing that the law and all that it calls make is longer than what came in: it says more and counts as full. Else prove '..UptoSaid'. A law counts once. -/
mutual
def uptoBulk {H : Type} : DataW H → Nat
  | .lit (.string bytes) => bytes.length + 1
  | .lit _ => 1
  | .nil => 1
  | .ptr d => uptoBulk d + 1
  | .slice elems spare => uptoBulkAll elems + uptoBulkAll spare + 1
  | .agg parts => uptoBulkAll parts + 1
  | .iface _ d => uptoBulk d + 1
  | .map entries => uptoBulkEntries entries + 1
  | .held _ => 1
def uptoBulkAll {H : Type} : List (DataW H) → Nat
  | [] => 0
  | d :: r => uptoBulk d + uptoBulkAll r
def uptoBulkEntries {H : Type} : List (Lit × DataW H) → Nat
  | [] => 0
  | x :: r => uptoBulkEntry x + uptoBulkEntries r
def uptoBulkEntry {H : Type} : Lit × DataW H → Nat
  | (.string bytes, d) => bytes.length + uptoBulk d + 1
  | (_, d) => uptoBulk d + 1
 end
def uptoSmall : (H : Type) → List (DataW H) → Bool := fun _ ds => decide (uptoBulkAll ds ≤ 1048576)
def OpenSpec.upto (s : _root_.Go.ChangeSpec) : _root_.Go.OpenSpec := { _root_.Go.OpenSpec.ofChange s with cond := some uptoSmall }

/-- 'signalboxlaw15.HoltAsks', WHERE WHAT IT READS IS OF BULK AT MOST 1048576: true; the input reads as it did. -/
def holtAsksUptoRow : OpenClaim := { program := "ytdbcmmckjlbffaa", sum := "4939a712cc6a353b85fd9045fec0a2a6757615bc8657440bc9124544217e3897", func := "signalbox/signalboxlaw15.HoltAsks", spec := "holtAsks", unfollowed := true, recurses := true, apart := false, narrowed := true }
def HoltAsksUptoSaid : Prop := holtAsksUptoRow.holds Try.pinned (OpenSpec.upto holtAsksSpec)

/-- 'signalboxlaw15.HoltMade', WHERE WHAT IT READS IS OF BULK AT MOST 1048576: true; the input reads as it did. -/
def holtMadeUptoRow : OpenClaim := { program := "ytdbcmmckjlbffaa", sum := "4939a712cc6a353b85fd9045fec0a2a6757615bc8657440bc9124544217e3897", func := "signalbox/signalboxlaw15.HoltMade", spec := "holtMade", unfollowed := true, recurses := true, apart := false, narrowed := true }
def HoltMadeUptoSaid : Prop := holtMadeUptoRow.holds Try.pinned (OpenSpec.upto holtMadeSpec)

/-- 'signalboxlaw15.HoltSets', WHERE WHAT IT READS IS OF BULK AT MOST 1048576: true; the input reads as it did. -/
def holtSetsUptoRow : OpenClaim := { program := "ytdbcmmckjlbffaa", sum := "4939a712cc6a353b85fd9045fec0a2a6757615bc8657440bc9124544217e3897", func := "signalbox/signalboxlaw15.HoltSets", spec := "holtSets", unfollowed := true, recurses := true, apart := false, narrowed := true }
def HoltSetsUptoSaid : Prop := holtSetsUptoRow.holds Try.pinned (OpenSpec.upto holtSetsSpec)

/-- 'signalboxlaw15.HoltJust', WHERE WHAT IT READS IS OF BULK AT MOST 1048576: true; the input reads as it did. -/
def holtJustUptoRow : OpenClaim := { program := "ytdbcmmckjlbffaa", sum := "4939a712cc6a353b85fd9045fec0a2a6757615bc8657440bc9124544217e3897", func := "signalbox/signalboxlaw15.HoltJust", spec := "holtJust", unfollowed := true, recurses := true, apart := false, narrowed := true }
def HoltJustUptoSaid : Prop := holtJustUptoRow.holds Try.pinned (OpenSpec.upto holtJustSpec)

/-- 'signalboxlaw15.HoltOne', WHERE WHAT IT READS IS OF BULK AT MOST 1048576: true; the input reads as it did. -/
def holtOneUptoRow : OpenClaim := { program := "ytdbcmmckjlbffaa", sum := "4939a712cc6a353b85fd9045fec0a2a6757615bc8657440bc9124544217e3897", func := "signalbox/signalboxlaw15.HoltOne", spec := "holtOne", unfollowed := true, recurses := true, apart := false, narrowed := true }
def HoltOneUptoSaid : Prop := holtOneUptoRow.holds Try.pinned (OpenSpec.upto holtOneSpec)

end Rows
end Go.Proofs.Ytdbcmmckjlbffaa
