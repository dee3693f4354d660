-- Written by a program of this session.
import Derived.Test.YtdgaklldijkoaaaCodeN
namespace Go.Proofs.Ytdgaklldijkoaaa.PCode
open Go.RowKit Go.Proofs.YtdgaklldijkoaaaW.PrintWords
set_option linter.unusedVariables false
/-- What the law's call comes to. -/
def CodeReads.Walk : Prop := ∀ (w : World) (A0 : Option Addr) (c0 : Nat) (l0 : List Int) (h0 : Kd.C (Kd.int .u8) w A0 l0.length l0) (k0 : l0.length ≤ c0) (x0 : Byt l0), Calls Try.prog 5 #[.slice A0 l0.length c0] w fun e w' => e = .returned (.bool true) ∧ Below w.heap.size w w'
end Go.Proofs.Ytdgaklldijkoaaa.PCode
