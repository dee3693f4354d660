/-
  Whether a state may be, and which processes reduction leaves: the pure statement of HoltAsks.
-/
import Derived.Test.YtdbcmmckjlbffaaWalkHoltAsks
import Derived.Test.YtdbcmmckjlbffaaHoltEqLib
namespace Go.Proofs.Ytdbcmmckjlbffaa.Pure
open Go.RowKit Go.Proofs.Ytdbcmmckjlbffaa.PHolt Go.Proofs.Ytdbcmmckjlbffaa.EvKit Go.Proofs.Ytdbcmmckjlbffaa.HoltKit Go.Proofs.YtdbcmmckjlbffaaW.PrintWords Go.Proofs.YtdbcmmckjlbffaaW.PrintLast
set_option linter.unusedVariables false
set_option linter.unusedSimpArgs false

theorem HoltAsks : signalboxlaw15_HoltAsks.Pure := by
  intro l0 l1 l2 hm0 _ _ hm1 hr1 hm2 hr2
  have hb0 : l0.length ≤ 9223372036854775807 := by unfold maxLen at hm0; omega
  have hb1 : ∀ x ∈ l1, x.length ≤ 9223372036854775807 := fun x hx => by have := (hr1 x hx).1; unfold maxLen at this; omega
  have hb2 : ∀ x ∈ l2, x.length ≤ 9223372036854775807 := fun x hx => by have := (hr2 x hx).1; unfold maxLen at this; omega
  refine Ev.rounds (show Ev (fun q => signalboxlaw15_HoltAsks.f q l0 l1 l2) true from ?_)
  obtain ⟨b, hb⟩ := small_ l0 l1 l2 hm1 hm2 (fun x hx => (hr1 x hx).1) (fun x hx => (hr2 x hx).1)
  unfold signalboxlaw15_HoltAsks.f
  refine bnd hb (ite (fun _ => ?_) (fun _ => bnd awake (somec rfl)))
  refine bnd (hmay l0 l1 l2 hb0 hb1 hb2) (bnd (rmay l0 l1 l2 hb0 hb1 hb2) (pos (by simp) (bnd (hstuck hb0 hb1 hb2) (bnd (rstuck hb0 hb1 hb2) (bnd (ints _ _ (by have := stuckB_len (l0 := l0) (l1 := l1) (l2 := l2); omega)) (pos (by simp) (bnd awake (somec rfl))))))))
end Go.Proofs.Ytdbcmmckjlbffaa.Pure
