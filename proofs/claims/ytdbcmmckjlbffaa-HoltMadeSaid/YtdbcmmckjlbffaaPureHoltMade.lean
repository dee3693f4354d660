/-
  The same of states of plain numbers, all of which may be, and of any set: the pure statement of HoltMade.
-/
import Derived.Test.YtdbcmmckjlbffaaPHoltx10
import Derived.Test.YtdbcmmckjlbffaaHoltStLib
namespace Go.Proofs.Ytdbcmmckjlbffaa.Pure
open Go.RowKit Go.Proofs.Ytdbcmmckjlbffaa.PHolt Go.Proofs.Ytdbcmmckjlbffaa.EvKit Go.Proofs.Ytdbcmmckjlbffaa.HoltKit Go.Proofs.YtdbcmmckjlbffaaW.PrintWords Go.Proofs.YtdbcmmckjlbffaaW.PrintLast
set_option linter.unusedVariables false
set_option linter.unusedSimpArgs false

theorem HoltMade : signalboxlaw15_HoltMade.Pure := by
  intro a0 l1 l2 hw hm1 _ _ hm2 _ _
  have hb2 : l2.length ≤ 9223372036854775807 := by unfold maxLen at hm2; omega
  refine Ev.rounds (show Ev (fun q => signalboxlaw15_HoltMade.f q a0 l1 l2) true from ?_)
  have far : Ev (fun q => signalboxlaw15_HoltMade.j0 q a0 l1 l2 true) true := by
    refine Ev.step (fun q => by simp only [signalboxlaw15_HoltMade.j0]; rfl) ?_
    exact pos trivial (bnd awake (somec rfl))
  unfold signalboxlaw15_HoltMade.f
  refine ite (fun _ => far) (fun h0 => ite (fun _ => far) (fun h12 => ite (fun _ => far) (fun _ => ?_)))
  by_cases h20 : (l2.length : Int) > 20
  · rw [decide_eq_true h20]; exact far
  rw [decide_eq_false h20]
  obtain ⟨n, rfl⟩ : ∃ n : Nat, a0 = (n : Int) := ⟨a0.toNat, by omega⟩
  refine Ev.step (fun q => by simp only [signalboxlaw15_HoltMade.j0]; rfl) ?_
  refine neg (by simp) (bnd (state_ l1 n (by omega)) ?_)
  have hA := stA_len l1
  have hH := mH_row l1 n
  have hK := mK_row l1 n
  have hm := st_may l1 (n := n) (by omega)
  have M := hmay (stA l1) (mH l1 n) (mK l1 n) hA hH hK
  rw [hm] at M
  refine bnd M (pos rfl (bnd (hstuck hA hH hK) (bnd (rstuck hA hH hK) (bnd (ints _ _ (Nat.le_trans stuckB_len (by decide))) (pos (by simp) (bnd (hdead hA hH hK) (bnd (rdead hA hH hK hb2) (pos (by simp) (bnd awake (somec rfl))))))))))
end Go.Proofs.Ytdbcmmckjlbffaa.Pure
