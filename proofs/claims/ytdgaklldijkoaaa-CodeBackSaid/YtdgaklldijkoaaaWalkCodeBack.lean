-- Written by a program of this session.
import Derived.Test.YtdgaklldijkoaaaCodeN
namespace Go.Proofs.Ytdgaklldijkoaaa.PCode
open Go.RowKit Go.Proofs.YtdgaklldijkoaaaW.PrintWords
set_option linter.unusedVariables false
/-- What the law's call comes to. -/
def CodeBack.Walk : Prop := ∀ (w : World) (v0 : Value) (p0 : Pg) (h0 : PR w v0 p0) (x0 : p0.Wf), Calls Try.prog 4 #[v0] w fun e w' => e = .returned (.bool true) ∧ Below w.heap.size w w'
end Go.Proofs.Ytdgaklldijkoaaa.PCode
