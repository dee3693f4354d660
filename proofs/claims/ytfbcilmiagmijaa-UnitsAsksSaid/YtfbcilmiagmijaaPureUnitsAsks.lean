/-
  Units, their sums and differences: the pure statement of UnitsAsks.
-/
import Derived.Test.YtfbcilmiagmijaaPUnitsx10
import Derived.Test.YtfbcilmiagmijaaUnitsLib
namespace Go.Proofs.Ytfbcilmiagmijaa.Pure
open Go.RowKit Go.Proofs.Ytfbcilmiagmijaa.PUnits Go.Proofs.Ytfbcilmiagmijaa.EvKit Go.Proofs.Ytfbcilmiagmijaa.UnitsKit Go.Proofs.YtfbcilmiagmijaaW.PrintWords Go.Proofs.YtfbcilmiagmijaaW.PrintLast

namespace UnitsAsksKit
theorem far (a b : List Int) (n : Int) : Ev (fun q => signalboxlaw13_UnitsAsks.j0 q a b n true) true := by
  refine Ev.step (fun q => by simp only [signalboxlaw13_UnitsAsks.j0]; rfl) ?_
  exact pos trivial (bnd awake (somec rfl))
theorem near (a b : List Int) (n : Int) (ha : a.length ≤ 200) (hb : b.length ≤ 200) : Ev (fun q => signalboxlaw13_UnitsAsks.j0 q a b n false) true := by
  refine Ev.step (fun q => by simp only [signalboxlaw13_UnitsAsks.j0]; rfl) ?_
  refine neg (by simp) ?_
  refine bndc (plus a b (by omega)) (bnd (rplus a b (by omega) (by omega)) (bndc (less a b (by omega)) (bnd (rless a b (by omega) (by omega)) ?_)))
  have hz : (zeroU n).length ≤ 9000000000000000000 := by
    unfold zeroU
    split
    · rw [List.length_replicate]; omega
    · exact Nat.zero_le _
  have hp : (plusU a b).1.length ≤ 9000000000000000000 := by
    unfold plusU opU
    split
    · split
      · simp only [outG, List.length_map, List.length_zip]; omega
      · exact Nat.zero_le _
    · exact Nat.zero_le _
  have hm : (lessU a b).1.length ≤ 9000000000000000000 := by
    unfold lessU opU
    split
    · split
      · simp only [outG, List.length_map, List.length_zip]; omega
      · exact Nat.zero_le _
    · exact Nat.zero_le _
  refine bndc (zero n) (bndc (rzero n) (bnd (ints _ _ hz) (pos (by simp) ?_)))
  refine bnd (is_ a n (by omega)) (bnd (ris a n (by omega)) (pos (by simp) ?_))
  refine bnd (is_ a _ (by omega)) (bnd (ris a _ (by omega)) (pos (by simp) ?_))
  refine bnd (none_ a (by omega)) (bnd (rnone a (by omega)) (pos (by simp) ?_))
  refine bnd (sum a (by omega)) (bnd (rsum a (by omega)) (pos rfl ?_))
  refine bndc (fits a b) (bnd (rfits a b (by omega)) (pos (by simp) ?_))
  refine bnd (ints _ _ hp) (pos (by simp) (pos (by simp) ?_))
  refine bnd (ints _ _ hm) (pos (by simp) (pos (by simp) ?_))
  exact bnd awake (somec rfl)
end UnitsAsksKit
open UnitsAsksKit
theorem UnitsAsks : signalboxlaw13_UnitsAsks.Pure := by
  intro a b n _ _ _ _ _ _ _
  refine Ev.rounds (show Ev (fun q => signalboxlaw13_UnitsAsks.f q a b n) true from ?_)
  unfold signalboxlaw13_UnitsAsks.f
  refine ite (fun _ => far a b n) (fun h => ?_)
  by_cases h2 : (b.length : Int) > 200
  · rw [decide_eq_true h2]; exact far a b n
  · rw [decide_eq_false h2]; exact near a b n (by omega) (by omega)
end Go.Proofs.Ytfbcilmiagmijaa.Pure
