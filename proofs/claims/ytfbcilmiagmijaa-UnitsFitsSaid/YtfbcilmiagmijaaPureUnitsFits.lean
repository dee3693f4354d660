/-
  Fitting is an order: the pure statement of UnitsFits.
-/
import Derived.Test.YtfbcilmiagmijaaPUnitsx11
import Derived.Test.YtfbcilmiagmijaaUnitsLib
namespace Go.Proofs.Ytfbcilmiagmijaa.Pure
open Go.RowKit Go.Proofs.Ytfbcilmiagmijaa.PUnits Go.Proofs.Ytfbcilmiagmijaa.EvKit Go.Proofs.Ytfbcilmiagmijaa.UnitsKit Go.Proofs.YtfbcilmiagmijaaW.PrintWords Go.Proofs.YtfbcilmiagmijaaW.PrintLast

namespace UnitsFitsKit
theorem refl_ (a : List Int) : fitsU a a = true := fitsU_iff.2 ⟨rfl, fun _ _ => Int.le_refl _⟩
theorem anti {a b : List Int} (h : fitsU a b = true) (k : fitsU b a = true) : a = b := by
  obtain ⟨h1, h2⟩ := fitsU_iff.1 h
  obtain ⟨_, k2⟩ := fitsU_iff.1 k
  refine List.ext_getElem h1 (fun i hi hj => ?_)
  have := h2 i hi
  have := k2 i hj
  rw [rd_at hi, rd_at hj] at *
  omega
theorem trans_ {a b c : List Int} (h : fitsU a b = true) (k : fitsU b c = true) : fitsU a c = true := by
  obtain ⟨h1, h2⟩ := fitsU_iff.1 h
  obtain ⟨k1, k2⟩ := fitsU_iff.1 k
  exact fitsU_iff.2 ⟨h1.trans k1, fun i hi => Int.le_trans (h2 i hi) (k2 i (by omega))⟩
theorem none_fits {a : List Int} (h0 : 1 ≤ a.length) (h1 : a.length ≤ 6) (h : isU a (a.length : Int) = true) : (noneU a == fitsU a (zeroU (a.length : Int))) = true := by
  have h2 := (isU_iff.1 h).2
  have hz : zeroU (a.length : Int) = List.replicate a.length 0 := by
    unfold zeroU; rw [if_pos (by omega)]; rfl
  rw [hz, beq_iff_eq, Bool.eq_iff_iff, fitsU_iff]
  unfold noneU
  rw [List.all_eq_true]
  have e : ∀ i : Nat, i < a.length → rd (List.replicate a.length 0) (i : Int) = 0 := fun i hi => by
    rw [rd_at (by rw [List.length_replicate]; exact hi), List.getElem_replicate]
  constructor
  · intro k
    refine ⟨by rw [List.length_replicate], fun i hi => ?_⟩
    have := k _ (rd_mem hi)
    rw [e i hi]
    simp only [decide_eq_true_eq] at this
    omega
  · rintro ⟨_, k⟩ x hx
    obtain ⟨i, hi, rfl⟩ := List.getElem_of_mem hx
    have k1 := k i hi
    rw [e i hi, rd_at hi] at k1
    have := h2 _ hx
    exact decide_eq_true (by omega)
/-- The end that every road comes to. -/
def tail (k : Nat) (a : List Int) : Option Bool :=
  (units_None.f k a).bind fun t286 => ((signalboxref1_Zero.f (a.length : Int)).bind fun t287 => ((units_Fits.f a t287).bind fun t290 => (if (t286 == t290) = true then ((signalboxlaw13_awake.f k).bind fun t291 => (some t291)) else (if (a.length : Int) > 6 then ((signalboxlaw13_awake.f k).bind fun t292 => (some t292)) else (if (a.length : Int) = 0 then ((signalboxlaw13_awake.f k).bind fun t293 => (some t293)) else ((units_Is.f k a (a.length : Int)).bind fun t294 => (if t294 = true then (none) else ((signalboxlaw13_awake.f k).bind fun t295 => (some t295)))))))))
theorem tail_ (a : List Int) (ha : a.length ≤ 100) : Ev (fun q => tail q a) true := by
  unfold tail
  have w : Ev (fun q => (signalboxlaw13_awake.f q).bind fun t => some t) true := bnd awake (somec rfl)
  refine bnd (none_ a (by omega)) (bndc (rzero _) (bndc (fits _ _) (ite (fun _ => w) (fun h => ite (fun _ => w) (fun h2 => ite (fun _ => w) (fun h3 => ?_))))))
  refine bnd (is_ a _ (by omega)) (neg (fun h4 => h (none_fits (by omega) (by omega) h4)) w)
theorem far (a b c : List Int) : Ev (fun q => signalboxlaw13_UnitsFits.j0 q a b c true) true := by
  refine Ev.step (fun q => by simp only [signalboxlaw13_UnitsFits.j0]; rfl) ?_
  exact pos trivial (bnd awake (somec rfl))
theorem near (a b c : List Int) (ha : a.length ≤ 100) : Ev (fun q => signalboxlaw13_UnitsFits.j0 q a b c false) true := by
  refine Ev.step (fun q => by simp only [signalboxlaw13_UnitsFits.j0]; rfl) ?_
  refine neg (by simp) ?_
  have t := tail_ a ha
  refine bndc (fits a b) (bndc (fits b a) (bndc (fits b c) (bndc (fits a a) (pos (refl_ a) ?_))))
  refine ite (fun h1 => ?_) (fun _ => t)
  refine ite (fun h2 => ?_) (fun _ => ?_)
  · refine bnd (ints a b (by omega)) (pos (decide_eq_true (anti h1 h2)) ?_)
    exact ite (fun h3 => bndc (fits a c) (pos (trans_ h1 h3) t)) (fun _ => t)
  · exact ite (fun h3 => bndc (fits a c) (pos (trans_ h1 h3) t)) (fun _ => t)
end UnitsFitsKit
open UnitsFitsKit
theorem UnitsFits : signalboxlaw13_UnitsFits.Pure := by
  intro a b c _ _ _ _ _ _ _ _ _
  refine Ev.rounds (show Ev (fun q => signalboxlaw13_UnitsFits.f q a b c) true from ?_)
  unfold signalboxlaw13_UnitsFits.f
  refine ite (fun _ => far a b c) (fun h => ite (fun _ => far a b c) (fun _ => ?_))
  by_cases h2 : (c.length : Int) > 100
  · rw [decide_eq_true h2]; exact far a b c
  · rw [decide_eq_false h2]; exact near a b c (by omega)
end Go.Proofs.Ytfbcilmiagmijaa.Pure
