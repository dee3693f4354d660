/-
  Whether a set is deadlocked: the pure statement of HoltSets.
-/
import Derived.Test.YtdbcmmckjlbffaaWalkHoltSets
import Derived.Test.YtdbcmmckjlbffaaHoltDeadLib
namespace Go.Proofs.Ytdbcmmckjlbffaa.Pure
open Go.RowKit Go.Proofs.Ytdbcmmckjlbffaa.PHolt Go.Proofs.Ytdbcmmckjlbffaa.EvKit Go.Proofs.Ytdbcmmckjlbffaa.HoltKit Go.Proofs.YtdbcmmckjlbffaaW.PrintWords Go.Proofs.YtdbcmmckjlbffaaW.PrintLast
set_option linter.unusedVariables false
set_option linter.unusedSimpArgs false

theorem HoltSets : signalboxlaw15_HoltSets.Pure := by
  intro l0 l1 l2 l3 hm0 _ _ hm1 hr1 hm2 hr2 hm3 _ _
  have hb0 : l0.length ≤ 9223372036854775807 := by unfold maxLen at hm0; omega
  have hb1 : ∀ x ∈ l1, x.length ≤ 9223372036854775807 := fun x hx => by have := (hr1 x hx).1; unfold maxLen at this; omega
  have hb2 : ∀ x ∈ l2, x.length ≤ 9223372036854775807 := fun x hx => by have := (hr2 x hx).1; unfold maxLen at this; omega
  have hb3 : l3.length ≤ 9223372036854775807 := by unfold maxLen at hm3; omega
  refine Ev.rounds (show Ev (fun q => signalboxlaw15_HoltSets.f q l0 l1 l2 l3) true from ?_)
  obtain ⟨b, hb⟩ := small_ l0 l1 l2 hm1 hm2 (fun x hx => (hr1 x hx).1) (fun x hx => (hr2 x hx).1)
  have far : Ev (fun q => signalboxlaw15_HoltSets.j0 q l0 l1 l2 l3 true) true := by
    refine Ev.step (fun q => by simp only [signalboxlaw15_HoltSets.j0]; rfl) ?_
    exact pos trivial (bnd awake (somec rfl))
  unfold signalboxlaw15_HoltSets.f
  refine bnd hb (ite (fun _ => ?_) (fun _ => far))
  by_cases h60 : (l3.length : Int) > 60
  · rw [decide_eq_true h60]; exact far
  rw [decide_eq_false h60]
  refine Ev.step (fun q => by simp only [signalboxlaw15_HoltSets.j0]; rfl) ?_
  refine neg (by simp) ?_
  exact bnd (hdead hb0 hb1 hb2) (bnd (rdead hb0 hb1 hb2 hb3) (pos (by simp) (bnd awake (somec rfl))))
end Go.Proofs.Ytdbcmmckjlbffaa.Pure
