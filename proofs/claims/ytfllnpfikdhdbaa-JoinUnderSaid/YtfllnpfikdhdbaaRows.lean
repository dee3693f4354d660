/-
  No cell of these rows narrows 'for every input' (looked for: loops, veiled, ifaces, maps, wideKeys, modest, calm, conditions, laid).
  DERIVED. THE GIVEN ROWS OF THIS SEAT. 7 by the template 'for every input the law returns true; each argument reads behind the call as it read before'; 0 by the template 'total and deterministic' (their statements: YtfllnpfikdhdbaaTotals.lean).
  GIVEN WITH THE SEED: the statements are not yours to turn. If you find one false, say at which input.
  Laid BY PROGRAM, IN A SANDBOX (cutbox-rows.mjs): the forced cells as the released guide's own fill.sh prints them over the translation 3586d1eca33cef4b… (all of the seat's roots in one cut). By AI agents, Wed Nov 11 2026. No macro, syntax, notation, axiom, sorry.
-/
import Derived.Test.YtfllnpfikdhdbaaChecked
import GoSem.Claim
import GoSem.ClaimJoined
import GoSem.ClaimMapViews
import Derived.JoinedTies
import Derived.KernelRfl
namespace Go.Proofs.Ytfllnpfikdhdbaa
/- THE CELL 'sum', in the pinned program and in every row, IS THE sha256 OF THE DUMP (.gsa) THAT YtfllnpfikdhdbaaProg.lean LOADS. Nothing in Lean hashes anything: it is a label: what it is worth is what the hold of that sum in a sandbox is worth. -/
noncomputable def Try.pinned : Pinned := { name := "ytfllnpfikdhdbaa", sum := "3586d1eca33cef4bfb3d3a86c9aaeb84a57bda932936d4b95420347dfe5dde1a", checked := Try.checked }
namespace Rows
def none {H : Type} : Left H := { results := [], args := [] }

/-- 'signalboxlaw8.ProcsPlays': WHATEVER THE INPUT: true; the input reads as it did. -/
def procsPlaysSpec : ChangeSpec := { name := "procsPlays", fn := fun _ => fun
  | [d1, d2] => { results := [.lit (.bool true)], args := [d1, d2] }
  | _ => none }
def procsPlaysRow : OpenClaim := { program := "ytfllnpfikdhdbaa", sum := "3586d1eca33cef4bfb3d3a86c9aaeb84a57bda932936d4b95420347dfe5dde1a", func := "signalbox/signalboxlaw8.ProcsPlays", spec := "procsPlays", inPlace := ["sync/atomic.LoadInt64", "sync/atomic.AddInt64"], unfollowed := true, recurses := true, apart := false }
def ProcsPlaysSaid : Prop := procsPlaysRow.holds Try.pinned (OpenSpec.ofChange procsPlaysSpec)

/-- ITS FALSE NEIGHBOUR: 'it returns false'. Refute it at one input. -/
def procsPlaysWrong : ChangeSpec := { name := "procsPlays", fn := fun _ => fun
  | [d1, d2] => { results := [.lit (.bool false)], args := [d1, d2] }
  | _ => none }
def ProcsPlaysWrongFalsely : Prop := procsPlaysRow.holds Try.pinned (OpenSpec.ofChange procsPlaysWrong)

/-- 'signalboxlaw8.ProcsNumbers': WHATEVER THE INPUT: true; the input reads as it did. -/
def procsNumbersSpec : ChangeSpec := { name := "procsNumbers", fn := fun _ => fun
  | [d1, d2] => { results := [.lit (.bool true)], args := [d1, d2] }
  | _ => none }
def procsNumbersRow : OpenClaim := { program := "ytfllnpfikdhdbaa", sum := "3586d1eca33cef4bfb3d3a86c9aaeb84a57bda932936d4b95420347dfe5dde1a", func := "signalbox/signalboxlaw8.ProcsNumbers", spec := "procsNumbers", inPlace := ["sync/atomic.LoadInt64", "sync/atomic.AddInt64"], unfollowed := true, recurses := true, apart := false }
def ProcsNumbersSaid : Prop := procsNumbersRow.holds Try.pinned (OpenSpec.ofChange procsNumbersSpec)

/-- ITS FALSE NEIGHBOUR: 'it returns false'. Refute it at one input. -/
def procsNumbersWrong : ChangeSpec := { name := "procsNumbers", fn := fun _ => fun
  | [d1, d2] => { results := [.lit (.bool false)], args := [d1, d2] }
  | _ => none }
def ProcsNumbersWrongFalsely : Prop := procsNumbersRow.holds Try.pinned (OpenSpec.ofChange procsNumbersWrong)

/-- 'signalboxlaw8.ProcsStays': WHATEVER THE INPUT: true; the input reads as it did. -/
def procsStaysSpec : ChangeSpec := { name := "procsStays", fn := fun _ => fun
  | [d1, d2] => { results := [.lit (.bool true)], args := [d1, d2] }
  | _ => none }
def procsStaysRow : OpenClaim := { program := "ytfllnpfikdhdbaa", sum := "3586d1eca33cef4bfb3d3a86c9aaeb84a57bda932936d4b95420347dfe5dde1a", func := "signalbox/signalboxlaw8.ProcsStays", spec := "procsStays", inPlace := ["sync/atomic.LoadInt64", "sync/atomic.AddInt64"], unfollowed := true, recurses := true, apart := false }
def ProcsStaysSaid : Prop := procsStaysRow.holds Try.pinned (OpenSpec.ofChange procsStaysSpec)

/-- ITS FALSE NEIGHBOUR: 'it returns false'. Refute it at one input. -/
def procsStaysWrong : ChangeSpec := { name := "procsStays", fn := fun _ => fun
  | [d1, d2] => { results := [.lit (.bool false)], args := [d1, d2] }
  | _ => none }
def ProcsStaysWrongFalsely : Prop := procsStaysRow.holds Try.pinned (OpenSpec.ofChange procsStaysWrong)

/-- 'signalboxlaw8.ProcsNothing': WHATEVER THE INPUT: true; the input reads as it did. -/
def procsNothingSpec : ChangeSpec := { name := "procsNothing", fn := fun _ => fun
  | [d1, d2] => { results := [.lit (.bool true)], args := [d1, d2] }
  | _ => none }
def procsNothingRow : OpenClaim := { program := "ytfllnpfikdhdbaa", sum := "3586d1eca33cef4bfb3d3a86c9aaeb84a57bda932936d4b95420347dfe5dde1a", func := "signalbox/signalboxlaw8.ProcsNothing", spec := "procsNothing", inPlace := ["sync/atomic.LoadInt64", "sync/atomic.AddInt64"], unfollowed := true, recurses := true, apart := false }
def ProcsNothingSaid : Prop := procsNothingRow.holds Try.pinned (OpenSpec.ofChange procsNothingSpec)

/-- ITS FALSE NEIGHBOUR: 'it returns false'. Refute it at one input. -/
def procsNothingWrong : ChangeSpec := { name := "procsNothing", fn := fun _ => fun
  | [d1, d2] => { results := [.lit (.bool false)], args := [d1, d2] }
  | _ => none }
def ProcsNothingWrongFalsely : Prop := procsNothingRow.holds Try.pinned (OpenSpec.ofChange procsNothingWrong)

/-- 'signalboxlaw10.JoinPlays': WHATEVER THE INPUT: true; the input reads as it did. -/
def joinPlaysSpec : ChangeSpec := { name := "joinPlays", fn := fun _ => fun
  | [d] => { results := [.lit (.bool true)], args := [d] }
  | _ => none }
def joinPlaysRow : OpenClaim := { program := "ytfllnpfikdhdbaa", sum := "3586d1eca33cef4bfb3d3a86c9aaeb84a57bda932936d4b95420347dfe5dde1a", func := "signalbox/signalboxlaw10.JoinPlays", spec := "joinPlays", inPlace := ["sync/atomic.LoadInt64", "sync/atomic.AddInt64"], unfollowed := true, recurses := true, apart := false }
def JoinPlaysSaid : Prop := joinPlaysRow.holds Try.pinned (OpenSpec.ofChange joinPlaysSpec)

/-- ITS FALSE NEIGHBOUR: 'it returns false'. Refute it at one input. -/
def joinPlaysWrong : ChangeSpec := { name := "joinPlays", fn := fun _ => fun
  | [d] => { results := [.lit (.bool false)], args := [d] }
  | _ => none }
def JoinPlaysWrongFalsely : Prop := joinPlaysRow.holds Try.pinned (OpenSpec.ofChange joinPlaysWrong)

/-- 'signalboxlaw10.JoinWaits': WHATEVER THE INPUT: true; the input reads as it did. -/
def joinWaitsSpec : ChangeSpec := { name := "joinWaits", fn := fun _ => fun
  | [d1, d2, d3] => { results := [.lit (.bool true)], args := [d1, d2, d3] }
  | _ => none }
def joinWaitsRow : OpenClaim := { program := "ytfllnpfikdhdbaa", sum := "3586d1eca33cef4bfb3d3a86c9aaeb84a57bda932936d4b95420347dfe5dde1a", func := "signalbox/signalboxlaw10.JoinWaits", spec := "joinWaits", inPlace := ["sync/atomic.LoadInt64", "sync/atomic.AddInt64"], unfollowed := true, recurses := true, apart := false }
def JoinWaitsSaid : Prop := joinWaitsRow.holds Try.pinned (OpenSpec.ofChange joinWaitsSpec)

/-- ITS FALSE NEIGHBOUR: 'it returns false'. Refute it at one input. -/
def joinWaitsWrong : ChangeSpec := { name := "joinWaits", fn := fun _ => fun
  | [d1, d2, d3] => { results := [.lit (.bool false)], args := [d1, d2, d3] }
  | _ => none }
def JoinWaitsWrongFalsely : Prop := joinWaitsRow.holds Try.pinned (OpenSpec.ofChange joinWaitsWrong)

/-- 'signalboxlaw10.JoinUnder': WHATEVER THE INPUT: true; the input reads as it did. -/
def joinUnderSpec : ChangeSpec := { name := "joinUnder", fn := fun _ => fun
  | [d] => { results := [.lit (.bool true)], args := [d] }
  | _ => none }
def joinUnderRow : OpenClaim := { program := "ytfllnpfikdhdbaa", sum := "3586d1eca33cef4bfb3d3a86c9aaeb84a57bda932936d4b95420347dfe5dde1a", func := "signalbox/signalboxlaw10.JoinUnder", spec := "joinUnder", inPlace := ["sync/atomic.LoadInt64", "sync/atomic.AddInt64"], unfollowed := true, recurses := true, apart := false }
def JoinUnderSaid : Prop := joinUnderRow.holds Try.pinned (OpenSpec.ofChange joinUnderSpec)

/-- ITS FALSE NEIGHBOUR: 'it returns false'. Refute it at one input. -/
def joinUnderWrong : ChangeSpec := { name := "joinUnder", fn := fun _ => fun
  | [d] => { results := [.lit (.bool false)], args := [d] }
  | _ => none }
def JoinUnderWrongFalsely : Prop := joinUnderRow.holds Try.pinned (OpenSpec.ofChange joinUnderWrong)

/- THE SECOND FORM. 'bulk': how many values and letters a reading holds, each counted each time it is reached (what is shared counts as often as it is met; a slice's spare places count too). A statement '..UptoSaid' is the law's where the arguments, and the package variables that the reading takes, are together of bulk at most 1048576: NARROWER than '..Said'. Prove '..Said' where nothing that the law and all that it calls make is longer than what came in: it says more and counts as full. Else prove '..UptoSaid'. A law counts once. -/
mutual
def uptoBulk {H : Type} : DataW H → Nat
  | .lit (.string bytes) => bytes.length + 1
  | .lit _ => 1
  | .nil => 1
  | .ptr d => uptoBulk d + 1
  | .slice elems spare => uptoBulkAll elems + uptoBulkAll spare + 1
  | .agg parts => uptoBulkAll parts + 1
  | .iface _ d => uptoBulk d + 1
  | .map entries => uptoBulkEntries entries + 1
  | .held _ => 1
def uptoBulkAll {H : Type} : List (DataW H) → Nat
  | [] => 0
  | d :: r => uptoBulk d + uptoBulkAll r
def uptoBulkEntries {H : Type} : List (Lit × DataW H) → Nat
  | [] => 0
  | x :: r => uptoBulkEntry x + uptoBulkEntries r
def uptoBulkEntry {H : Type} : Lit × DataW H → Nat
  | (.string bytes, d) => bytes.length + uptoBulk d + 1
  | (_, d) => uptoBulk d + 1
 end
def uptoSmall : (H : Type) → List (DataW H) → Bool := fun _ ds => decide (uptoBulkAll ds ≤ 1048576)
def OpenSpec.upto (s : _root_.Go.ChangeSpec) : _root_.Go.OpenSpec := { _root_.Go.OpenSpec.ofChange s with cond := some uptoSmall }

/-- 'signalboxlaw8.ProcsPlays', WHERE WHAT IT READS IS OF BULK AT MOST 1048576: true; the input reads as it did. -/
def procsPlaysUptoRow : OpenClaim := { program := "ytfllnpfikdhdbaa", sum := "3586d1eca33cef4bfb3d3a86c9aaeb84a57bda932936d4b95420347dfe5dde1a", func := "signalbox/signalboxlaw8.ProcsPlays", spec := "procsPlays", inPlace := ["sync/atomic.LoadInt64", "sync/atomic.AddInt64"], unfollowed := true, recurses := true, apart := false, narrowed := true }
def ProcsPlaysUptoSaid : Prop := procsPlaysUptoRow.holds Try.pinned (OpenSpec.upto procsPlaysSpec)

/-- 'signalboxlaw8.ProcsNumbers', WHERE WHAT IT READS IS OF BULK AT MOST 1048576: true; the input reads as it did. -/
def procsNumbersUptoRow : OpenClaim := { program := "ytfllnpfikdhdbaa", sum := "3586d1eca33cef4bfb3d3a86c9aaeb84a57bda932936d4b95420347dfe5dde1a", func := "signalbox/signalboxlaw8.ProcsNumbers", spec := "procsNumbers", inPlace := ["sync/atomic.LoadInt64", "sync/atomic.AddInt64"], unfollowed := true, recurses := true, apart := false, narrowed := true }
def ProcsNumbersUptoSaid : Prop := procsNumbersUptoRow.holds Try.pinned (OpenSpec.upto procsNumbersSpec)

/-- 'signalboxlaw8.ProcsStays', WHERE WHAT IT READS IS OF BULK AT MOST 1048576: true; the input reads as it did. -/
def procsStaysUptoRow : OpenClaim := { program := "ytfllnpfikdhdbaa", sum := "3586d1eca33cef4bfb3d3a86c9aaeb84a57bda932936d4b95420347dfe5dde1a", func := "signalbox/signalboxlaw8.ProcsStays", spec := "procsStays", inPlace := ["sync/atomic.LoadInt64", "sync/atomic.AddInt64"], unfollowed := true, recurses := true, apart := false, narrowed := true }
def ProcsStaysUptoSaid : Prop := procsStaysUptoRow.holds Try.pinned (OpenSpec.upto procsStaysSpec)

/-- 'signalboxlaw8.ProcsNothing', WHERE WHAT IT READS IS OF BULK AT MOST 1048576: true; the input reads as it did. -/
def procsNothingUptoRow : OpenClaim := { program := "ytfllnpfikdhdbaa", sum := "3586d1eca33cef4bfb3d3a86c9aaeb84a57bda932936d4b95420347dfe5dde1a", func := "signalbox/signalboxlaw8.ProcsNothing", spec := "procsNothing", inPlace := ["sync/atomic.LoadInt64", "sync/atomic.AddInt64"], unfollowed := true, recurses := true, apart := false, narrowed := true }
def ProcsNothingUptoSaid : Prop := procsNothingUptoRow.holds Try.pinned (OpenSpec.upto procsNothingSpec)

/-- 'signalboxlaw10.JoinPlays', WHERE WHAT IT READS IS OF BULK AT MOST 1048576: true; the input reads as it did. -/
def joinPlaysUptoRow : OpenClaim := { program := "ytfllnpfikdhdbaa", sum := "3586d1eca33cef4bfb3d3a86c9aaeb84a57bda932936d4b95420347dfe5dde1a", func := "signalbox/signalboxlaw10.JoinPlays", spec := "joinPlays", inPlace := ["sync/atomic.LoadInt64", "sync/atomic.AddInt64"], unfollowed := true, recurses := true, apart := false, narrowed := true }
def JoinPlaysUptoSaid : Prop := joinPlaysUptoRow.holds Try.pinned (OpenSpec.upto joinPlaysSpec)

/-- 'signalboxlaw10.JoinWaits', WHERE WHAT IT READS IS OF BULK AT MOST 1048576: true; the input reads as it did. -/
def joinWaitsUptoRow : OpenClaim := { program := "ytfllnpfikdhdbaa", sum := "3586d1eca33cef4bfb3d3a86c9aaeb84a57bda932936d4b95420347dfe5dde1a", func := "signalbox/signalboxlaw10.JoinWaits", spec := "joinWaits", inPlace := ["sync/atomic.LoadInt64", "sync/atomic.AddInt64"], unfollowed := true, recurses := true, apart := false, narrowed := true }
def JoinWaitsUptoSaid : Prop := joinWaitsUptoRow.holds Try.pinned (OpenSpec.upto joinWaitsSpec)

/-- 'signalboxlaw10.JoinUnder', WHERE WHAT IT READS IS OF BULK AT MOST 1048576: true; the input reads as it did. -/
def joinUnderUptoRow : OpenClaim := { program := "ytfllnpfikdhdbaa", sum := "3586d1eca33cef4bfb3d3a86c9aaeb84a57bda932936d4b95420347dfe5dde1a", func := "signalbox/signalboxlaw10.JoinUnder", spec := "joinUnder", inPlace := ["sync/atomic.LoadInt64", "sync/atomic.AddInt64"], unfollowed := true, recurses := true, apart := false, narrowed := true }
def JoinUnderUptoSaid : Prop := joinUnderUptoRow.holds Try.pinned (OpenSpec.upto joinUnderSpec)

end Rows
end Go.Proofs.Ytfllnpfikdhdbaa
