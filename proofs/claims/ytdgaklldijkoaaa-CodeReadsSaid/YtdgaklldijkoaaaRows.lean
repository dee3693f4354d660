/-
  No cell of these rows narrows 'for every input' (looked for: loops, veiled, ifaces, maps, wideKeys, modest, calm, conditions, laid).
  DERIVED. THE GIVEN ROWS OF THIS SEAT. 5 by the template 'for every input the law returns true; each argument reads behind the call as it read before'; 0 by the template 'total and deterministic' (their statements: YtdgaklldijkoaaaTotals.lean).
  GIVEN WITH THE SEED: the statements are not yours to turn. If you find one false, say at which input.
  Laid BY PROGRAM, IN A SANDBOX (cutbox-rows.mjs): the forced cells as the released guide's own fill.sh prints them over the translation 740254f4eb4b2f43… (all of the seat's roots in one cut). By AI agents, Wed Nov 11 2026. No macro, syntax, notation, axiom, sorry.
-/
import Derived.Test.YtdgaklldijkoaaaChecked
import GoSem.Claim
import GoSem.ClaimJoined
import GoSem.ClaimMapViews
import Derived.JoinedTies
import Derived.KernelRfl
namespace Go.Proofs.Ytdgaklldijkoaaa
/- THE CELL 'sum', in the pinned program and in every row, IS THE sha256 OF THE DUMP (.gsa) THAT YtdgaklldijkoaaaProg.lean LOADS. Nothing in Lean hashes anything: it is a label: what it is worth is what the hold of that sum in a sandbox is worth. -/
noncomputable def Try.pinned : Pinned := { name := "ytdgaklldijkoaaa", sum := "740254f4eb4b2f43c754e4251e4359a787a0b3f71291feec23d8a01b209474d1", checked := Try.checked }
namespace Rows
def none {H : Type} : Left H := { results := [], args := [] }

/-- 'signalboxlaw6.CodeCodes': WHATEVER THE INPUT: true; the input reads as it did. -/
def codeCodesSpec : ChangeSpec := { name := "codeCodes", fn := fun _ => fun
  | [d] => { results := [.lit (.bool true)], args := [d] }
  | _ => none }
def codeCodesRow : OpenClaim := { program := "ytdgaklldijkoaaa", sum := "740254f4eb4b2f43c754e4251e4359a787a0b3f71291feec23d8a01b209474d1", func := "signalbox/signalboxlaw6.CodeCodes", spec := "codeCodes", unfollowed := true, recurses := true, apart := false }
def CodeCodesSaid : Prop := codeCodesRow.holds Try.pinned (OpenSpec.ofChange codeCodesSpec)

/-- ITS FALSE NEIGHBOUR: 'it returns false'. Refute it at one input. -/
def codeCodesWrong : ChangeSpec := { name := "codeCodes", fn := fun _ => fun
  | [d] => { results := [.lit (.bool false)], args := [d] }
  | _ => none }
def CodeCodesWrongFalsely : Prop := codeCodesRow.holds Try.pinned (OpenSpec.ofChange codeCodesWrong)

/-- 'signalboxlaw6.CodeBack': WHATEVER THE INPUT: true; the input reads as it did. -/
def codeBackSpec : ChangeSpec := { name := "codeBack", fn := fun _ => fun
  | [d] => { results := [.lit (.bool true)], args := [d] }
  | _ => none }
def codeBackRow : OpenClaim := { program := "ytdgaklldijkoaaa", sum := "740254f4eb4b2f43c754e4251e4359a787a0b3f71291feec23d8a01b209474d1", func := "signalbox/signalboxlaw6.CodeBack", spec := "codeBack", unfollowed := true, recurses := true, apart := false }
def CodeBackSaid : Prop := codeBackRow.holds Try.pinned (OpenSpec.ofChange codeBackSpec)

/-- ITS FALSE NEIGHBOUR: 'it returns false'. Refute it at one input. -/
def codeBackWrong : ChangeSpec := { name := "codeBack", fn := fun _ => fun
  | [d] => { results := [.lit (.bool false)], args := [d] }
  | _ => none }
def CodeBackWrongFalsely : Prop := codeBackRow.holds Try.pinned (OpenSpec.ofChange codeBackWrong)

/-- 'signalboxlaw6.CodeReads': WHATEVER THE INPUT: true; the input reads as it did. -/
def codeReadsSpec : ChangeSpec := { name := "codeReads", fn := fun _ => fun
  | [d] => { results := [.lit (.bool true)], args := [d] }
  | _ => none }
def codeReadsRow : OpenClaim := { program := "ytdgaklldijkoaaa", sum := "740254f4eb4b2f43c754e4251e4359a787a0b3f71291feec23d8a01b209474d1", func := "signalbox/signalboxlaw6.CodeReads", spec := "codeReads", unfollowed := true, recurses := true, apart := false }
def CodeReadsSaid : Prop := codeReadsRow.holds Try.pinned (OpenSpec.ofChange codeReadsSpec)

/-- ITS FALSE NEIGHBOUR: 'it returns false'. Refute it at one input. -/
def codeReadsWrong : ChangeSpec := { name := "codeReads", fn := fun _ => fun
  | [d] => { results := [.lit (.bool false)], args := [d] }
  | _ => none }
def CodeReadsWrongFalsely : Prop := codeReadsRow.holds Try.pinned (OpenSpec.ofChange codeReadsWrong)

/-- 'signalboxlaw6.CodeTorn': WHATEVER THE INPUT: true; the input reads as it did. -/
def codeTornSpec : ChangeSpec := { name := "codeTorn", fn := fun _ => fun
  | [d1, d2, d3] => { results := [.lit (.bool true)], args := [d1, d2, d3] }
  | _ => none }
def codeTornRow : OpenClaim := { program := "ytdgaklldijkoaaa", sum := "740254f4eb4b2f43c754e4251e4359a787a0b3f71291feec23d8a01b209474d1", func := "signalbox/signalboxlaw6.CodeTorn", spec := "codeTorn", unfollowed := true, recurses := true, apart := false }
def CodeTornSaid : Prop := codeTornRow.holds Try.pinned (OpenSpec.ofChange codeTornSpec)

/-- ITS FALSE NEIGHBOUR: 'it returns false'. Refute it at one input. -/
def codeTornWrong : ChangeSpec := { name := "codeTorn", fn := fun _ => fun
  | [d1, d2, d3] => { results := [.lit (.bool false)], args := [d1, d2, d3] }
  | _ => none }
def CodeTornWrongFalsely : Prop := codeTornRow.holds Try.pinned (OpenSpec.ofChange codeTornWrong)

/-- 'signalboxlaw6.CodeApart': WHATEVER THE INPUT: true; the input reads as it did. -/
def codeApartSpec : ChangeSpec := { name := "codeApart", fn := fun _ => fun
  | [d1, d2] => { results := [.lit (.bool true)], args := [d1, d2] }
  | _ => none }
def codeApartRow : OpenClaim := { program := "ytdgaklldijkoaaa", sum := "740254f4eb4b2f43c754e4251e4359a787a0b3f71291feec23d8a01b209474d1", func := "signalbox/signalboxlaw6.CodeApart", spec := "codeApart", unfollowed := true, recurses := true, apart := false }
def CodeApartSaid : Prop := codeApartRow.holds Try.pinned (OpenSpec.ofChange codeApartSpec)

/-- ITS FALSE NEIGHBOUR: 'it returns false'. Refute it at one input. -/
def codeApartWrong : ChangeSpec := { name := "codeApart", fn := fun _ => fun
  | [d1, d2] => { results := [.lit (.bool false)], args := [d1, d2] }
  | _ => none }
def CodeApartWrongFalsely : Prop := codeApartRow.holds Try.pinned (OpenSpec.ofChange codeApartWrong)

/- THE SECOND FORM. 'bulk': how many values and letters a reading holds, each counted each time it is reached (what is shared counts as often as it is met; a slice's spare places count too). A statement '..UptoSaid' is the law's where the arguments, and the package variables that the reading takes, are together of bulk at most 1048576: NARROWER than '..Said'. Prove '..Said' where nothing that the law and all that it calls make is longer than what came in: it says more and counts as full. Else prove '..UptoSaid'. A law counts once. -/
mutual
def uptoBulk {H : Type} : DataW H → Nat
  | .lit (.string bytes) => bytes.length + 1
  | .lit _ => 1
  | .nil => 1
  | .ptr d => uptoBulk d + 1
  | .slice elems spare => uptoBulkAll elems + uptoBulkAll spare + 1
  | .agg parts => uptoBulkAll parts + 1
  | .iface _ d => uptoBulk d + 1
  | .map entries => uptoBulkEntries entries + 1
  | .held _ => 1
def uptoBulkAll {H : Type} : List (DataW H) → Nat
  | [] => 0
  | d :: r => uptoBulk d + uptoBulkAll r
def uptoBulkEntries {H : Type} : List (Lit × DataW H) → Nat
  | [] => 0
  | x :: r => uptoBulkEntry x + uptoBulkEntries r
def uptoBulkEntry {H : Type} : Lit × DataW H → Nat
  | (.string bytes, d) => bytes.length + uptoBulk d + 1
  | (_, d) => uptoBulk d + 1
 end
def uptoSmall : (H : Type) → List (DataW H) → Bool := fun _ ds => decide (uptoBulkAll ds ≤ 1048576)
def OpenSpec.upto (s : _root_.Go.ChangeSpec) : _root_.Go.OpenSpec := { _root_.Go.OpenSpec.ofChange s with cond := some uptoSmall }

/-- 'signalboxlaw6.CodeCodes', WHERE WHAT IT READS IS OF BULK AT MOST 1048576: true; the input reads as it did. -/
def codeCodesUptoRow : OpenClaim := { program := "ytdgaklldijkoaaa", sum := "740254f4eb4b2f43c754e4251e4359a787a0b3f71291feec23d8a01b209474d1", func := "signalbox/signalboxlaw6.CodeCodes", spec := "codeCodes", unfollowed := true, recurses := true, apart := false, narrowed := true }
def CodeCodesUptoSaid : Prop := codeCodesUptoRow.holds Try.pinned (OpenSpec.upto codeCodesSpec)

/-- 'signalboxlaw6.CodeBack', WHERE WHAT IT READS IS OF BULK AT MOST 1048576: true; the input reads as it did. -/
def codeBackUptoRow : OpenClaim := { program := "ytdgaklldijkoaaa", sum := "740254f4eb4b2f43c754e4251e4359a787a0b3f71291feec23d8a01b209474d1", func := "signalbox/signalboxlaw6.CodeBack", spec := "codeBack", unfollowed := true, recurses := true, apart := false, narrowed := true }
def CodeBackUptoSaid : Prop := codeBackUptoRow.holds Try.pinned (OpenSpec.upto codeBackSpec)

/-- 'signalboxlaw6.CodeReads', WHERE WHAT IT READS IS OF BULK AT MOST 1048576: true; the input reads as it did. -/
def codeReadsUptoRow : OpenClaim := { program := "ytdgaklldijkoaaa", sum := "740254f4eb4b2f43c754e4251e4359a787a0b3f71291feec23d8a01b209474d1", func := "signalbox/signalboxlaw6.CodeReads", spec := "codeReads", unfollowed := true, recurses := true, apart := false, narrowed := true }
def CodeReadsUptoSaid : Prop := codeReadsUptoRow.holds Try.pinned (OpenSpec.upto codeReadsSpec)

/-- 'signalboxlaw6.CodeTorn', WHERE WHAT IT READS IS OF BULK AT MOST 1048576: true; the input reads as it did. -/
def codeTornUptoRow : OpenClaim := { program := "ytdgaklldijkoaaa", sum := "740254f4eb4b2f43c754e4251e4359a787a0b3f71291feec23d8a01b209474d1", func := "signalbox/signalboxlaw6.CodeTorn", spec := "codeTorn", unfollowed := true, recurses := true, apart := false, narrowed := true }
def CodeTornUptoSaid : Prop := codeTornUptoRow.holds Try.pinned (OpenSpec.upto codeTornSpec)

/-- 'signalboxlaw6.CodeApart', WHERE WHAT IT READS IS OF BULK AT MOST 1048576: true; the input reads as it did. -/
def codeApartUptoRow : OpenClaim := { program := "ytdgaklldijkoaaa", sum := "740254f4eb4b2f43c754e4251e4359a787a0b3f71291feec23d8a01b209474d1", func := "signalbox/signalboxlaw6.CodeApart", spec := "codeApart", unfollowed := true, recurses := true, apart := false, narrowed := true }
def CodeApartUptoSaid : Prop := codeApartUptoRow.holds Try.pinned (OpenSpec.upto codeApartSpec)

end Rows
end Go.Proofs.Ytdgaklldijkoaaa
