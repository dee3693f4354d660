-- Written by a program of this session (over the kit's printer): not typed by hand.
import Derived.Test.YtfbcilmiagmijaaPSpanLx0
import Derived.Test.YtfbcilmiagmijaaPSpanLx1
import Derived.Test.YtfbcilmiagmijaaPSpanLx2
import Derived.Test.YtfbcilmiagmijaaPSpanLx3
import Derived.Test.YtfbcilmiagmijaaPSpanLx4
import Derived.Test.YtfbcilmiagmijaaPSpanLx5
import Derived.Test.YtfbcilmiagmijaaPSpanLx6
import Derived.Test.YtfbcilmiagmijaaPSpanLx7
import Derived.Test.YtfbcilmiagmijaaPSpanLx8
namespace Go.Proofs.Ytfbcilmiagmijaa.PSpanL
open Go.RowKit Go.Proofs.YtfbcilmiagmijaaW.PrintWords Go.Proofs.YtfbcilmiagmijaaW.PrintLast Go.Proofs.YtfbcilmiagmijaaW.PrintMore
attribute [local go_sem] max2_int min2_int max_two min_two max_three min_three max_four min_four   -- for this text's walks alone
set_option linter.unusedVariables false
set_option linter.unusedSimpArgs false

attribute [local go_sem high] eqA29
/-! ### signalboxlaw28_SpanLaws: the first of its ways that says yes -/
def signalboxlaw28_SpanLaws.f (k : Nat) (a0 : Int) (a1 : Int) (a2 : Int) (a3 : Int) : Option (Bool) := if signalboxlaw28_SpanLaws_A.f k a0 a1 a2 a3 = some true then some true else (if signalboxlaw28_SpanLaws_B.f k a0 a1 a2 a3 = some true then some true else (if signalboxlaw28_SpanLaws_C.f k a0 a1 a2 a3 = some true then some true else (signalboxlaw28_SpanLaws_D.f k a0 a1 a2 a3)))
theorem signalboxlaw28_SpanLaws.calls (k : Nat) (a0 : Int) (a1 : Int) (a2 : Int) (a3 : Int) (r : Bool) (w : World) (h : signalboxlaw28_SpanLaws.f k a0 a1 a2 a3 = some r) :
    Calls Try.prog 7 #[.int .i64 a0, .int .i64 a1, .int .i64 a2, .int .i64 a3] w fun e w' => e = .returned (.bool r) ∧ Below w.heap.size w w' := by
  unfold signalboxlaw28_SpanLaws.f at h
  split at h
  case isTrue q =>
    obtain rfl := Option.some.inj h
    exact signalboxlaw28_SpanLaws_A.calls k a0 a1 a2 a3 true w q
  rename_i hnA
  split at h
  case isTrue q =>
    obtain rfl := Option.some.inj h
    exact signalboxlaw28_SpanLaws_B.calls k a0 a1 a2 a3 true w q
  rename_i hnB
  split at h
  case isTrue q =>
    obtain rfl := Option.some.inj h
    exact signalboxlaw28_SpanLaws_C.calls k a0 a1 a2 a3 true w q
  rename_i hnC
  exact signalboxlaw28_SpanLaws_D.calls k a0 a1 a2 a3 r w h

/-- THE ONE PURE STATEMENT of signalboxlaw28_SpanLaws: yours. -/
def signalboxlaw28_SpanLaws.Pure : Prop := ∀ (a0 : Int) (a1 : Int) (a2 : Int) (a3 : Int), (Lit.int .i64 a0).wf = true → (Lit.int .i64 a1).wf = true → (Lit.int .i64 a2).wf = true → (Lit.int .i64 a3).wf = true → ∃ k, signalboxlaw28_SpanLaws.f k a0 a1 a2 a3 = some true
theorem signalboxlaw28_SpanLaws.walk (P : signalboxlaw28_SpanLaws.Pure) (a0 : Int) (a1 : Int) (a2 : Int) (a3 : Int) (w : World) (w0 : (Lit.int .i64 a0).wf = true) (w1 : (Lit.int .i64 a1).wf = true) (w2 : (Lit.int .i64 a2).wf = true) (w3 : (Lit.int .i64 a3).wf = true) :
    Calls Try.prog 7 #[.int .i64 a0, .int .i64 a1, .int .i64 a2, .int .i64 a3] w fun e w' => e = .returned (.bool true) ∧ Below w.heap.size w w' := by
  obtain ⟨k, h⟩ := P a0 a1 a2 a3 w0 w1 w2 w3
  refine (signalboxlaw28_SpanLaws.calls k a0 a1 a2 a3 true w h).mono ?_
  rintro e w' ⟨rfl, hd⟩
  exact ⟨rfl, hd⟩

end Go.Proofs.Ytfbcilmiagmijaa.PSpanL
