/-
  No cell of these rows narrows 'for every input' (looked for: loops, veiled, ifaces, maps, wideKeys, modest, calm, conditions, laid).
  DERIVED. THE GIVEN ROWS OF THIS SEAT. 5 by the template 'for every input the law returns true; each argument reads behind the call as it read before'; 0 by the template 'total and deterministic' (their statements: YtlngcnijlijplaaTotals.lean).
  GIVEN WITH THE SEED: the statements are not yours to turn. If you find one false, say at which input.
  Laid BY PROGRAM, IN A SANDBOX (cutbox-rows.mjs): the forced cells as the released guide's own fill.sh prints them over the translation e1393ff044183bb4… (all of the seat's roots in one cut). By AI agents, Wed Nov 11 2026. No macro, syntax, notation, axiom, sorry.
-/
import Derived.Test.YtlngcnijlijplaaChecked
import GoSem.Claim
import GoSem.ClaimJoined
import GoSem.ClaimMapViews
import Derived.JoinedTies
import Derived.KernelRfl
namespace Go.Proofs.Ytlngcnijlijplaa
/- THE CELL 'sum', in the pinned program and in every row, IS THE sha256 OF THE DUMP (.gsa) THAT YtlngcnijlijplaaProg.lean LOADS. Nothing in Lean hashes anything: it is a label: what it is worth is what the hold of that sum in a sandbox is worth. -/
noncomputable def Try.pinned : Pinned := { name := "ytlngcnijlijplaa", sum := "e1393ff044183bb44a01528e2cdbff272d46ac3c197dc651c6e317b4b5418553", checked := Try.checked }
namespace Rows
def none {H : Type} : Left H := { results := [], args := [] }

/-- 'signalboxlaw14.BankOrders': WHATEVER THE INPUT: true; the input reads as it did. -/
def bankOrdersSpec : ChangeSpec := { name := "bankOrders", fn := fun _ => fun
  | [d1, d2, d3] => { results := [.lit (.bool true)], args := [d1, d2, d3] }
  | _ => none }
def bankOrdersRow : OpenClaim := { program := "ytlngcnijlijplaa", sum := "e1393ff044183bb44a01528e2cdbff272d46ac3c197dc651c6e317b4b5418553", func := "signalbox/signalboxlaw14.BankOrders", spec := "bankOrders", unfollowed := true, recurses := true, apart := false }
def BankOrdersSaid : Prop := bankOrdersRow.holds Try.pinned (OpenSpec.ofChange bankOrdersSpec)

/-- ITS FALSE NEIGHBOUR: 'it returns false'. Refute it at one input. -/
def bankOrdersWrong : ChangeSpec := { name := "bankOrders", fn := fun _ => fun
  | [d1, d2, d3] => { results := [.lit (.bool false)], args := [d1, d2, d3] }
  | _ => none }
def BankOrdersWrongFalsely : Prop := bankOrdersRow.holds Try.pinned (OpenSpec.ofChange bankOrdersWrong)

/-- 'signalboxlaw14.BankMade': WHATEVER THE INPUT: true; the input reads as it did. -/
def bankMadeSpec : ChangeSpec := { name := "bankMade", fn := fun _ => fun
  | [d1, d2, d3] => { results := [.lit (.bool true)], args := [d1, d2, d3] }
  | _ => none }
def bankMadeRow : OpenClaim := { program := "ytlngcnijlijplaa", sum := "e1393ff044183bb44a01528e2cdbff272d46ac3c197dc651c6e317b4b5418553", func := "signalbox/signalboxlaw14.BankMade", spec := "bankMade", unfollowed := true, recurses := true, apart := false }
def BankMadeSaid : Prop := bankMadeRow.holds Try.pinned (OpenSpec.ofChange bankMadeSpec)

/-- ITS FALSE NEIGHBOUR: 'it returns false'. Refute it at one input. -/
def bankMadeWrong : ChangeSpec := { name := "bankMade", fn := fun _ => fun
  | [d1, d2, d3] => { results := [.lit (.bool false)], args := [d1, d2, d3] }
  | _ => none }
def BankMadeWrongFalsely : Prop := bankMadeRow.holds Try.pinned (OpenSpec.ofChange bankMadeWrong)

/-- 'signalboxlaw14.BankCompletes': WHATEVER THE INPUT: true; the input reads as it did. -/
def bankCompletesSpec : ChangeSpec := { name := "bankCompletes", fn := fun _ => fun
  | [d1, d2, d3, d4] => { results := [.lit (.bool true)], args := [d1, d2, d3, d4] }
  | _ => none }
def bankCompletesRow : OpenClaim := { program := "ytlngcnijlijplaa", sum := "e1393ff044183bb44a01528e2cdbff272d46ac3c197dc651c6e317b4b5418553", func := "signalbox/signalboxlaw14.BankCompletes", spec := "bankCompletes", unfollowed := true, recurses := true, apart := false }
def BankCompletesSaid : Prop := bankCompletesRow.holds Try.pinned (OpenSpec.ofChange bankCompletesSpec)

/-- ITS FALSE NEIGHBOUR: 'it returns false'. Refute it at one input. -/
def bankCompletesWrong : ChangeSpec := { name := "bankCompletes", fn := fun _ => fun
  | [d1, d2, d3, d4] => { results := [.lit (.bool false)], args := [d1, d2, d3, d4] }
  | _ => none }
def BankCompletesWrongFalsely : Prop := bankCompletesRow.holds Try.pinned (OpenSpec.ofChange bankCompletesWrong)

/-- 'signalboxlaw14.BankSafe': WHATEVER THE INPUT: true; the input reads as it did. -/
def bankSafeSpec : ChangeSpec := { name := "bankSafe", fn := fun _ => fun
  | [d1, d2] => { results := [.lit (.bool true)], args := [d1, d2] }
  | _ => none }
def bankSafeRow : OpenClaim := { program := "ytlngcnijlijplaa", sum := "e1393ff044183bb44a01528e2cdbff272d46ac3c197dc651c6e317b4b5418553", func := "signalbox/signalboxlaw14.BankSafe", spec := "bankSafe", unfollowed := true, recurses := true, apart := false }
def BankSafeSaid : Prop := bankSafeRow.holds Try.pinned (OpenSpec.ofChange bankSafeSpec)

/-- ITS FALSE NEIGHBOUR: 'it returns false'. Refute it at one input. -/
def bankSafeWrong : ChangeSpec := { name := "bankSafe", fn := fun _ => fun
  | [d1, d2] => { results := [.lit (.bool false)], args := [d1, d2] }
  | _ => none }
def BankSafeWrongFalsely : Prop := bankSafeRow.holds Try.pinned (OpenSpec.ofChange bankSafeWrong)

/-- 'signalboxlaw14.BankComes': WHATEVER THE INPUT: true; the input reads as it did. -/
def bankComesSpec : ChangeSpec := { name := "bankComes", fn := fun _ => fun
  | [d1, d2, d3, d4, d5] => { results := [.lit (.bool true)], args := [d1, d2, d3, d4, d5] }
  | _ => none }
def bankComesRow : OpenClaim := { program := "ytlngcnijlijplaa", sum := "e1393ff044183bb44a01528e2cdbff272d46ac3c197dc651c6e317b4b5418553", func := "signalbox/signalboxlaw14.BankComes", spec := "bankComes", unfollowed := true, recurses := true, apart := false }
def BankComesSaid : Prop := bankComesRow.holds Try.pinned (OpenSpec.ofChange bankComesSpec)

/-- ITS FALSE NEIGHBOUR: 'it returns false'. Refute it at one input. -/
def bankComesWrong : ChangeSpec := { name := "bankComes", fn := fun _ => fun
  | [d1, d2, d3, d4, d5] => { results := [.lit (.bool false)], args := [d1, d2, d3, d4, d5] }
  | _ => none }
def BankComesWrongFalsely : Prop := bankComesRow.holds Try.pinned (OpenSpec.ofChange bankComesWrong)

/- THE SECOND FORM. 'bulk': how many values and letters a reading holds, each counted each time it is reached (what is shared counts as often as it is met; a slice's spare places count too). A statement '..UptoSaid' is the law's where the arguments, and the package variables that the reading takes, are together of bulk at most 1048576: NARROWER than '..Said'. Prove '..Said' where nothing that the law and all that it calls make is longer than what came in: it says more and counts as full. Else prove '..UptoSaid'. A law counts once. -/
mutual
def uptoBulk {H : Type} : DataW H → Nat
  | .lit (.string bytes) => bytes.length + 1
  | .lit _ => 1
  | .nil => 1
  | .ptr d => uptoBulk d + 1
  | .slice elems spare => uptoBulkAll elems + uptoBulkAll spare + 1
  | .agg parts => uptoBulkAll parts + 1
  | .iface _ d => uptoBulk d + 1
  | .map entries => uptoBulkEntries entries + 1
  | .held _ => 1
def uptoBulkAll {H : Type} : List (DataW H) → Nat
  | [] => 0
  | d :: r => uptoBulk d + uptoBulkAll r
def uptoBulkEntries {H : Type} : List (Lit × DataW H) → Nat
  | [] => 0
  | x :: r => uptoBulkEntry x + uptoBulkEntries r
def uptoBulkEntry {H : Type} : Lit × DataW H → Nat
  | (.string bytes, d) => bytes.length + uptoBulk d + 1
  | (_, d) => uptoBulk d + 1
 end
def uptoSmall : (H : Type) → List (DataW H) → Bool := fun _ ds => decide (uptoBulkAll ds ≤ 1048576)
def OpenSpec.upto (s : _root_.Go.ChangeSpec) : _root_.Go.OpenSpec := { _root_.Go.OpenSpec.ofChange s with cond := some uptoSmall }

/-- 'signalboxlaw14.BankOrders', WHERE WHAT IT READS IS OF BULK AT MOST 1048576: true; the input reads as it did. -/
def bankOrdersUptoRow : OpenClaim := { program := "ytlngcnijlijplaa", sum := "e1393ff044183bb44a01528e2cdbff272d46ac3c197dc651c6e317b4b5418553", func := "signalbox/signalboxlaw14.BankOrders", spec := "bankOrders", unfollowed := true, recurses := true, apart := false, narrowed := true }
def BankOrdersUptoSaid : Prop := bankOrdersUptoRow.holds Try.pinned (OpenSpec.upto bankOrdersSpec)

/-- 'signalboxlaw14.BankMade', WHERE WHAT IT READS IS OF BULK AT MOST 1048576: true; the input reads as it did. -/
def bankMadeUptoRow : OpenClaim := { program := "ytlngcnijlijplaa", sum := "e1393ff044183bb44a01528e2cdbff272d46ac3c197dc651c6e317b4b5418553", func := "signalbox/signalboxlaw14.BankMade", spec := "bankMade", unfollowed := true, recurses := true, apart := false, narrowed := true }
def BankMadeUptoSaid : Prop := bankMadeUptoRow.holds Try.pinned (OpenSpec.upto bankMadeSpec)

/-- 'signalboxlaw14.BankCompletes', WHERE WHAT IT READS IS OF BULK AT MOST 1048576: true; the input reads as it did. -/
def bankCompletesUptoRow : OpenClaim := { program := "ytlngcnijlijplaa", sum := "e1393ff044183bb44a01528e2cdbff272d46ac3c197dc651c6e317b4b5418553", func := "signalbox/signalboxlaw14.BankCompletes", spec := "bankCompletes", unfollowed := true, recurses := true, apart := false, narrowed := true }
def BankCompletesUptoSaid : Prop := bankCompletesUptoRow.holds Try.pinned (OpenSpec.upto bankCompletesSpec)

/-- 'signalboxlaw14.BankSafe', WHERE WHAT IT READS IS OF BULK AT MOST 1048576: true; the input reads as it did. -/
def bankSafeUptoRow : OpenClaim := { program := "ytlngcnijlijplaa", sum := "e1393ff044183bb44a01528e2cdbff272d46ac3c197dc651c6e317b4b5418553", func := "signalbox/signalboxlaw14.BankSafe", spec := "bankSafe", unfollowed := true, recurses := true, apart := false, narrowed := true }
def BankSafeUptoSaid : Prop := bankSafeUptoRow.holds Try.pinned (OpenSpec.upto bankSafeSpec)

/-- 'signalboxlaw14.BankComes', WHERE WHAT IT READS IS OF BULK AT MOST 1048576: true; the input reads as it did. -/
def bankComesUptoRow : OpenClaim := { program := "ytlngcnijlijplaa", sum := "e1393ff044183bb44a01528e2cdbff272d46ac3c197dc651c6e317b4b5418553", func := "signalbox/signalboxlaw14.BankComes", spec := "bankComes", unfollowed := true, recurses := true, apart := false, narrowed := true }
def BankComesUptoSaid : Prop := bankComesUptoRow.holds Try.pinned (OpenSpec.upto bankComesSpec)

end Rows
end Go.Proofs.Ytlngcnijlijplaa
