/-
  No cell of these rows narrows 'for every input' (looked for: loops, veiled, ifaces, maps, wideKeys, modest, calm, conditions, laid).
  DERIVED. THE GIVEN ROWS OF THIS SEAT. 8 by the template 'for every input the law returns true; each argument reads behind the call as it read before'; 0 by the template 'total and deterministic' (their statements: YtfbcilmiagmijaaTotals.lean).
  GIVEN WITH THE SEED: the statements are not yours to turn. If you find one false, say at which input.
  Laid BY PROGRAM, IN A SANDBOX (cutbox-rows.mjs): the forced cells as the released guide's own fill.sh prints them over the translation a148eb5d705e8903… (all of the seat's roots in one cut). By AI agents, Wed Nov 11 2026. No macro, syntax, notation, axiom, sorry.
-/
import Derived.Test.YtfbcilmiagmijaaChecked
import GoSem.Claim
import GoSem.ClaimJoined
import GoSem.ClaimMapViews
import Derived.JoinedTies
import Derived.KernelRfl
namespace Go.Proofs.Ytfbcilmiagmijaa
/- THE CELL 'sum', in the pinned program and in every row, IS THE sha256 OF THE DUMP (.gsa) THAT YtfbcilmiagmijaaProg.lean LOADS. Nothing in Lean hashes anything: it is a label: what it is worth is what the hold of that sum in a sandbox is worth. -/
noncomputable def Try.pinned : Pinned := { name := "ytfbcilmiagmijaa", sum := "a148eb5d705e89037439daff92a7b8693250844c5b1d29dc37ab14038f12a5b4", checked := Try.checked }
namespace Rows
def none {H : Type} : Left H := { results := [], args := [] }

/-- 'signalboxlaw9.PickPlaces': WHATEVER THE INPUT: true; the input reads as it did. -/
def pickPlacesSpec : ChangeSpec := { name := "pickPlaces", fn := fun _ => fun
  | [d1, d2, d3] => { results := [.lit (.bool true)], args := [d1, d2, d3] }
  | _ => none }
def pickPlacesRow : OpenClaim := { program := "ytfbcilmiagmijaa", sum := "a148eb5d705e89037439daff92a7b8693250844c5b1d29dc37ab14038f12a5b4", func := "signalbox/signalboxlaw9.PickPlaces", spec := "pickPlaces", unfollowed := true, recurses := true, apart := false }
def PickPlacesSaid : Prop := pickPlacesRow.holds Try.pinned (OpenSpec.ofChange pickPlacesSpec)

/-- ITS FALSE NEIGHBOUR: 'it returns false'. Refute it at one input. -/
def pickPlacesWrong : ChangeSpec := { name := "pickPlaces", fn := fun _ => fun
  | [d1, d2, d3] => { results := [.lit (.bool false)], args := [d1, d2, d3] }
  | _ => none }
def PickPlacesWrongFalsely : Prop := pickPlacesRow.holds Try.pinned (OpenSpec.ofChange pickPlacesWrong)

/-- 'signalboxlaw9.PickTurns': WHATEVER THE INPUT: true; the input reads as it did. -/
def pickTurnsSpec : ChangeSpec := { name := "pickTurns", fn := fun _ => fun
  | [d1, d2, d3] => { results := [.lit (.bool true)], args := [d1, d2, d3] }
  | _ => none }
def pickTurnsRow : OpenClaim := { program := "ytfbcilmiagmijaa", sum := "a148eb5d705e89037439daff92a7b8693250844c5b1d29dc37ab14038f12a5b4", func := "signalbox/signalboxlaw9.PickTurns", spec := "pickTurns", unfollowed := true, recurses := true, apart := false }
def PickTurnsSaid : Prop := pickTurnsRow.holds Try.pinned (OpenSpec.ofChange pickTurnsSpec)

/-- ITS FALSE NEIGHBOUR: 'it returns false'. Refute it at one input. -/
def pickTurnsWrong : ChangeSpec := { name := "pickTurns", fn := fun _ => fun
  | [d1, d2, d3] => { results := [.lit (.bool false)], args := [d1, d2, d3] }
  | _ => none }
def PickTurnsWrongFalsely : Prop := pickTurnsRow.holds Try.pinned (OpenSpec.ofChange pickTurnsWrong)

/-- 'signalboxlaw28.SpanAsks': WHATEVER THE INPUT: true; the input reads as it did. -/
def spanAsksSpec : ChangeSpec := { name := "spanAsks", fn := fun _ => fun
  | [d1, d2, d3, d4, d5] => { results := [.lit (.bool true)], args := [d1, d2, d3, d4, d5] }
  | _ => none }
def spanAsksRow : OpenClaim := { program := "ytfbcilmiagmijaa", sum := "a148eb5d705e89037439daff92a7b8693250844c5b1d29dc37ab14038f12a5b4", func := "signalbox/signalboxlaw28.SpanAsks", spec := "spanAsks", apart := false }
def SpanAsksSaid : Prop := spanAsksRow.holds Try.pinned (OpenSpec.ofChange spanAsksSpec)

/-- ITS FALSE NEIGHBOUR: 'it returns false'. Refute it at one input. -/
def spanAsksWrong : ChangeSpec := { name := "spanAsks", fn := fun _ => fun
  | [d1, d2, d3, d4, d5] => { results := [.lit (.bool false)], args := [d1, d2, d3, d4, d5] }
  | _ => none }
def SpanAsksWrongFalsely : Prop := spanAsksRow.holds Try.pinned (OpenSpec.ofChange spanAsksWrong)

/-- 'signalboxlaw28.SpanHolds': WHATEVER THE INPUT: true; the input reads as it did. -/
def spanHoldsSpec : ChangeSpec := { name := "spanHolds", fn := fun _ => fun
  | [d1, d2, d3, d4, d5] => { results := [.lit (.bool true)], args := [d1, d2, d3, d4, d5] }
  | _ => none }
def spanHoldsRow : OpenClaim := { program := "ytfbcilmiagmijaa", sum := "a148eb5d705e89037439daff92a7b8693250844c5b1d29dc37ab14038f12a5b4", func := "signalbox/signalboxlaw28.SpanHolds", spec := "spanHolds", apart := false }
def SpanHoldsSaid : Prop := spanHoldsRow.holds Try.pinned (OpenSpec.ofChange spanHoldsSpec)

/-- ITS FALSE NEIGHBOUR: 'it returns false'. Refute it at one input. -/
def spanHoldsWrong : ChangeSpec := { name := "spanHolds", fn := fun _ => fun
  | [d1, d2, d3, d4, d5] => { results := [.lit (.bool false)], args := [d1, d2, d3, d4, d5] }
  | _ => none }
def SpanHoldsWrongFalsely : Prop := spanHoldsRow.holds Try.pinned (OpenSpec.ofChange spanHoldsWrong)

/-- 'signalboxlaw28.SpanLaws': WHATEVER THE INPUT: true; the input reads as it did. -/
def spanLawsSpec : ChangeSpec := { name := "spanLaws", fn := fun _ => fun
  | [d1, d2, d3, d4] => { results := [.lit (.bool true)], args := [d1, d2, d3, d4] }
  | _ => none }
def spanLawsRow : OpenClaim := { program := "ytfbcilmiagmijaa", sum := "a148eb5d705e89037439daff92a7b8693250844c5b1d29dc37ab14038f12a5b4", func := "signalbox/signalboxlaw28.SpanLaws", spec := "spanLaws", apart := false }
def SpanLawsSaid : Prop := spanLawsRow.holds Try.pinned (OpenSpec.ofChange spanLawsSpec)

/-- ITS FALSE NEIGHBOUR: 'it returns false'. Refute it at one input. -/
def spanLawsWrong : ChangeSpec := { name := "spanLaws", fn := fun _ => fun
  | [d1, d2, d3, d4] => { results := [.lit (.bool false)], args := [d1, d2, d3, d4] }
  | _ => none }
def SpanLawsWrongFalsely : Prop := spanLawsRow.holds Try.pinned (OpenSpec.ofChange spanLawsWrong)

/-- 'signalboxlaw13.UnitsAsks': WHATEVER THE INPUT: true; the input reads as it did. -/
def unitsAsksSpec : ChangeSpec := { name := "unitsAsks", fn := fun _ => fun
  | [d1, d2, d3] => { results := [.lit (.bool true)], args := [d1, d2, d3] }
  | _ => none }
def unitsAsksRow : OpenClaim := { program := "ytfbcilmiagmijaa", sum := "a148eb5d705e89037439daff92a7b8693250844c5b1d29dc37ab14038f12a5b4", func := "signalbox/signalboxlaw13.UnitsAsks", spec := "unitsAsks", unfollowed := true, recurses := true, apart := false }
def UnitsAsksSaid : Prop := unitsAsksRow.holds Try.pinned (OpenSpec.ofChange unitsAsksSpec)

/-- ITS FALSE NEIGHBOUR: 'it returns false'. Refute it at one input. -/
def unitsAsksWrong : ChangeSpec := { name := "unitsAsks", fn := fun _ => fun
  | [d1, d2, d3] => { results := [.lit (.bool false)], args := [d1, d2, d3] }
  | _ => none }
def UnitsAsksWrongFalsely : Prop := unitsAsksRow.holds Try.pinned (OpenSpec.ofChange unitsAsksWrong)

/-- 'signalboxlaw13.UnitsBack': WHATEVER THE INPUT: true; the input reads as it did. -/
def unitsBackSpec : ChangeSpec := { name := "unitsBack", fn := fun _ => fun
  | [d1, d2] => { results := [.lit (.bool true)], args := [d1, d2] }
  | _ => none }
def unitsBackRow : OpenClaim := { program := "ytfbcilmiagmijaa", sum := "a148eb5d705e89037439daff92a7b8693250844c5b1d29dc37ab14038f12a5b4", func := "signalbox/signalboxlaw13.UnitsBack", spec := "unitsBack", unfollowed := true, recurses := true, apart := false }
def UnitsBackSaid : Prop := unitsBackRow.holds Try.pinned (OpenSpec.ofChange unitsBackSpec)

/-- ITS FALSE NEIGHBOUR: 'it returns false'. Refute it at one input. -/
def unitsBackWrong : ChangeSpec := { name := "unitsBack", fn := fun _ => fun
  | [d1, d2] => { results := [.lit (.bool false)], args := [d1, d2] }
  | _ => none }
def UnitsBackWrongFalsely : Prop := unitsBackRow.holds Try.pinned (OpenSpec.ofChange unitsBackWrong)

/-- 'signalboxlaw13.UnitsFits': WHATEVER THE INPUT: true; the input reads as it did. -/
def unitsFitsSpec : ChangeSpec := { name := "unitsFits", fn := fun _ => fun
  | [d1, d2, d3] => { results := [.lit (.bool true)], args := [d1, d2, d3] }
  | _ => none }
def unitsFitsRow : OpenClaim := { program := "ytfbcilmiagmijaa", sum := "a148eb5d705e89037439daff92a7b8693250844c5b1d29dc37ab14038f12a5b4", func := "signalbox/signalboxlaw13.UnitsFits", spec := "unitsFits", unfollowed := true, recurses := true, apart := false }
def UnitsFitsSaid : Prop := unitsFitsRow.holds Try.pinned (OpenSpec.ofChange unitsFitsSpec)

/-- ITS FALSE NEIGHBOUR: 'it returns false'. Refute it at one input. -/
def unitsFitsWrong : ChangeSpec := { name := "unitsFits", fn := fun _ => fun
  | [d1, d2, d3] => { results := [.lit (.bool false)], args := [d1, d2, d3] }
  | _ => none }
def UnitsFitsWrongFalsely : Prop := unitsFitsRow.holds Try.pinned (OpenSpec.ofChange unitsFitsWrong)

/- THE SECOND FORM. 'bulk': how many values and letters a reading holds, each counted each time it is reached (what is shared counts as often as it is met; a slice's spare places count too). A statement '..UptoSaid' is the law's where the arguments, and the package variables that the reading takes, are together of bulk at most 1048576: NARROWER than '..Said'. Prove '..Said' where nothing that the law and all that it calls make is longer than what came in: it says more and counts as full. Else prove '..UptoSaid'. A law counts once. -/
mutual
def uptoBulk {H : Type} : DataW H → Nat
  | .lit (.string bytes) => bytes.length + 1
  | .lit _ => 1
  | .nil => 1
  | .ptr d => uptoBulk d + 1
  | .slice elems spare => uptoBulkAll elems + uptoBulkAll spare + 1
  | .agg parts => uptoBulkAll parts + 1
  | .iface _ d => uptoBulk d + 1
  | .map entries => uptoBulkEntries entries + 1
  | .held _ => 1
def uptoBulkAll {H : Type} : List (DataW H) → Nat
  | [] => 0
  | d :: r => uptoBulk d + uptoBulkAll r
def uptoBulkEntries {H : Type} : List (Lit × DataW H) → Nat
  | [] => 0
  | x :: r => uptoBulkEntry x + uptoBulkEntries r
def uptoBulkEntry {H : Type} : Lit × DataW H → Nat
  | (.string bytes, d) => bytes.length + uptoBulk d + 1
  | (_, d) => uptoBulk d + 1
 end
def uptoSmall : (H : Type) → List (DataW H) → Bool := fun _ ds => decide (uptoBulkAll ds ≤ 1048576)
def OpenSpec.upto (s : _root_.Go.ChangeSpec) : _root_.Go.OpenSpec := { _root_.Go.OpenSpec.ofChange s with cond := some uptoSmall }

/-- 'signalboxlaw9.PickPlaces', WHERE WHAT IT READS IS OF BULK AT MOST 1048576: true; the input reads as it did. -/
def pickPlacesUptoRow : OpenClaim := { program := "ytfbcilmiagmijaa", sum := "a148eb5d705e89037439daff92a7b8693250844c5b1d29dc37ab14038f12a5b4", func := "signalbox/signalboxlaw9.PickPlaces", spec := "pickPlaces", unfollowed := true, recurses := true, apart := false, narrowed := true }
def PickPlacesUptoSaid : Prop := pickPlacesUptoRow.holds Try.pinned (OpenSpec.upto pickPlacesSpec)

/-- 'signalboxlaw9.PickTurns', WHERE WHAT IT READS IS OF BULK AT MOST 1048576: true; the input reads as it did. -/
def pickTurnsUptoRow : OpenClaim := { program := "ytfbcilmiagmijaa", sum := "a148eb5d705e89037439daff92a7b8693250844c5b1d29dc37ab14038f12a5b4", func := "signalbox/signalboxlaw9.PickTurns", spec := "pickTurns", unfollowed := true, recurses := true, apart := false, narrowed := true }
def PickTurnsUptoSaid : Prop := pickTurnsUptoRow.holds Try.pinned (OpenSpec.upto pickTurnsSpec)

/-- 'signalboxlaw28.SpanAsks', WHERE WHAT IT READS IS OF BULK AT MOST 1048576: true; the input reads as it did. -/
def spanAsksUptoRow : OpenClaim := { program := "ytfbcilmiagmijaa", sum := "a148eb5d705e89037439daff92a7b8693250844c5b1d29dc37ab14038f12a5b4", func := "signalbox/signalboxlaw28.SpanAsks", spec := "spanAsks", apart := false, narrowed := true }
def SpanAsksUptoSaid : Prop := spanAsksUptoRow.holds Try.pinned (OpenSpec.upto spanAsksSpec)

/-- 'signalboxlaw28.SpanHolds', WHERE WHAT IT READS IS OF BULK AT MOST 1048576: true; the input reads as it did. -/
def spanHoldsUptoRow : OpenClaim := { program := "ytfbcilmiagmijaa", sum := "a148eb5d705e89037439daff92a7b8693250844c5b1d29dc37ab14038f12a5b4", func := "signalbox/signalboxlaw28.SpanHolds", spec := "spanHolds", apart := false, narrowed := true }
def SpanHoldsUptoSaid : Prop := spanHoldsUptoRow.holds Try.pinned (OpenSpec.upto spanHoldsSpec)

/-- 'signalboxlaw28.SpanLaws', WHERE WHAT IT READS IS OF BULK AT MOST 1048576: true; the input reads as it did. -/
def spanLawsUptoRow : OpenClaim := { program := "ytfbcilmiagmijaa", sum := "a148eb5d705e89037439daff92a7b8693250844c5b1d29dc37ab14038f12a5b4", func := "signalbox/signalboxlaw28.SpanLaws", spec := "spanLaws", apart := false, narrowed := true }
def SpanLawsUptoSaid : Prop := spanLawsUptoRow.holds Try.pinned (OpenSpec.upto spanLawsSpec)

/-- 'signalboxlaw13.UnitsAsks', WHERE WHAT IT READS IS OF BULK AT MOST 1048576: true; the input reads as it did. -/
def unitsAsksUptoRow : OpenClaim := { program := "ytfbcilmiagmijaa", sum := "a148eb5d705e89037439daff92a7b8693250844c5b1d29dc37ab14038f12a5b4", func := "signalbox/signalboxlaw13.UnitsAsks", spec := "unitsAsks", unfollowed := true, recurses := true, apart := false, narrowed := true }
def UnitsAsksUptoSaid : Prop := unitsAsksUptoRow.holds Try.pinned (OpenSpec.upto unitsAsksSpec)

/-- 'signalboxlaw13.UnitsBack', WHERE WHAT IT READS IS OF BULK AT MOST 1048576: true; the input reads as it did. -/
def unitsBackUptoRow : OpenClaim := { program := "ytfbcilmiagmijaa", sum := "a148eb5d705e89037439daff92a7b8693250844c5b1d29dc37ab14038f12a5b4", func := "signalbox/signalboxlaw13.UnitsBack", spec := "unitsBack", unfollowed := true, recurses := true, apart := false, narrowed := true }
def UnitsBackUptoSaid : Prop := unitsBackUptoRow.holds Try.pinned (OpenSpec.upto unitsBackSpec)

/-- 'signalboxlaw13.UnitsFits', WHERE WHAT IT READS IS OF BULK AT MOST 1048576: true; the input reads as it did. -/
def unitsFitsUptoRow : OpenClaim := { program := "ytfbcilmiagmijaa", sum := "a148eb5d705e89037439daff92a7b8693250844c5b1d29dc37ab14038f12a5b4", func := "signalbox/signalboxlaw13.UnitsFits", spec := "unitsFits", unfollowed := true, recurses := true, apart := false, narrowed := true }
def UnitsFitsUptoSaid : Prop := unitsFitsUptoRow.holds Try.pinned (OpenSpec.upto unitsFitsSpec)

end Rows
end Go.Proofs.Ytfbcilmiagmijaa
