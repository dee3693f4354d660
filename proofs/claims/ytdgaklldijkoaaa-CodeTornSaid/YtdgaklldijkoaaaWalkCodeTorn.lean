-- Written by a program of this session.
import Derived.Test.YtdgaklldijkoaaaCodeN
namespace Go.Proofs.Ytdgaklldijkoaaa.PCode
open Go.RowKit Go.Proofs.YtdgaklldijkoaaaW.PrintWords
set_option linter.unusedVariables false
/-- What the law's call comes to. -/
def CodeTorn.Walk : Prop := ∀ (w : World) (v0 : Value) (p0 : Pg) (h0 : PR w v0 p0) (x0 : p0.Wf) (a1 : Int) (x1 : (Lit.int .i64 a1).wf = true) (a2 : Int) (x2 : (Lit.int .u8 a2).wf = true), Calls Try.prog 6 #[v0, .int .i64 a1, .int .u8 a2] w fun e w' => e = .returned (.bool true) ∧ Below w.heap.size w w'
end Go.Proofs.Ytdgaklldijkoaaa.PCode
