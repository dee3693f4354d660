/-
  Laws of intervals: the pure statement of SpanLaws.
-/
import Derived.Test.YtfbcilmiagmijaaPSpanLx9
import Derived.Test.YtfbcilmiagmijaaPSpanLx9
import Derived.Test.YtfbcilmiagmijaaPSpanLx9
import Derived.Test.YtfbcilmiagmijaaPSpanLx9
import Derived.Test.YtfbcilmiagmijaaPSpanLx9
import Derived.Test.YtfbcilmiagmijaaSpanLLib
namespace Go.Proofs.Ytfbcilmiagmijaa.Pure
open Go.RowKit Go.Proofs.Ytfbcilmiagmijaa.PSpanL Go.Proofs.Ytfbcilmiagmijaa.EvKit Go.Proofs.Ytfbcilmiagmijaa.SpanLKit Go.Proofs.YtfbcilmiagmijaaW.PrintWords Go.Proofs.YtfbcilmiagmijaaW.PrintLast

namespace SpanLawsKit
theorem of_range (a b : Int) : -1048576 ≤ of0 a b ∧ of0 a b ≤ of1 a b ∧ of1 a b ≤ 1048576 := by
  have := of_at a b; have := clip_at a; have := clip_at b
  omega
section
variable (a b c d : Int)
/-- The hull's bounds. -/
def h0 : Int := clip (mn (of0 a b) (of0 c d))
def h1 : Int := clip (mx (of1 a b) (of1 c d))
theorem h0_at : (of0 a b ≤ of0 c d ∧ h0 a b c d = of0 a b) ∨ (of0 c d ≤ of0 a b ∧ h0 a b c d = of0 c d) := by
  have := of_range a b; have := of_range c d; have := mn_at (of0 a b) (of0 c d); have := clip_at (mn (of0 a b) (of0 c d))
  unfold h0; omega
theorem h1_at : (of1 c d ≤ of1 a b ∧ h1 a b c d = of1 a b) ∨ (of1 a b ≤ of1 c d ∧ h1 a b c d = of1 c d) := by
  have := of_range a b; have := of_range c d; have := mx_at (of1 a b) (of1 c d); have := clip_at (mx (of1 a b) (of1 c d))
  unfold h1; omega
theorem h0_sym : clip (mn (of0 c d) (of0 a b)) = h0 a b c d := by
  have := h0_at a b c d; have := h0_at c d a b
  show h0 c d a b = _
  omega
theorem h1_sym : clip (mx (of1 c d) (of1 a b)) = h1 a b c d := by
  have := h1_at a b c d; have := h1_at c d a b
  show h1 c d a b = _
  omega
theorem self0 : clip (mn (of0 a b) (of0 a b)) = of0 a b := by
  have := h0_at a b a b
  show h0 a b a b = _
  omega
theorem self1 : clip (mx (of1 a b) (of1 a b)) = of1 a b := by
  have := h1_at a b a b
  show h1 a b a b = _
  omega
theorem again0 : clip (mn (h0 a b c d) (of0 a b)) = h0 a b c d := by
  have := h0_at a b c d; have := of_range a b; have := of_range c d; have := mn_at (h0 a b c d) (of0 a b); have := clip_at (mn (h0 a b c d) (of0 a b))
  omega
theorem again1 : clip (mx (h1 a b c d) (of1 a b)) = h1 a b c d := by
  have := h1_at a b c d; have := of_range a b; have := of_range c d; have := mx_at (h1 a b c d) (of1 a b); have := clip_at (mx (h1 a b c d) (of1 a b))
  omega
theorem plus_sym0 (x y : Int) : plus0 x y = plus0 y x := by
  have p := plus0_at x y; have := plus0_at y x
  have e : clip x + clip y = clip y + clip x := by omega
  rw [e] at p
  omega
theorem plus_sym1 (x y : Int) : plus1 x y = plus1 y x := by
  have p := plus1_at x y; have := plus1_at y x
  have e : clip x + clip y = clip y + clip x := by omega
  rw [e] at p
  omega
theorem nought0 : plus0 (of0 a b) (of0 0 0) = of0 a b := by
  have := of_range a b; have := of_at 0 0; have := clip_at 0; have := plus0_at (of0 a b) (of0 0 0); have := clip_at (of0 a b); have := clip_at (of0 0 0); have := clip_at (clip (of0 a b) + clip (of0 0 0))
  omega
theorem nought1 : plus1 (of1 a b) (of1 0 0) = of1 a b := by
  have := of_range a b; have := of_at 0 0; have := clip_at 0; have := plus1_at (of1 a b) (of1 0 0); have := clip_at (of1 a b); have := clip_at (of1 0 0); have := clip_at (clip (of1 a b) + clip (of1 0 0))
  omega
theorem loop_twice0 (x : Int) : loop0 (loop0 x) = loop0 x := by
  have := loop0_at x; have := loop0_at (loop0 x); omega
theorem loop_twice1 (x : Int) : loop1 (loop1 x) = loop1 x := by
  have := loop1_at x; have := loop1_at (loop1 x); omega
end
theorem wayA (a b c d : Int) (e0 : h0 a b c d = of0 a b) (e1 : h1 a b c d = of1 a b) : Ev (fun q => signalboxlaw28_SpanLaws_A.f q a b c d) true := by
  have g0 := h0_at a b c d; have g1 := h1_at a b c d
  unfold signalboxlaw28_SpanLaws_A.f
  refine bndc (of_f a b) (bndc (of_f c d) (bndc (show span_Hull.f (of0 a b) (of1 a b) (of0 c d) (of1 c d) = some (h0 a b c d, h1 a b c d) from hull_f _ _ _ _) ?_))
  refine bnd (plus_f _ _ _ _) (bnd (plus_f _ _ _ _) (pos (both (plus_sym0 _ _) (plus_sym1 _ _)) ?_))
  refine bndc (hull_f _ _ _ _) (pos (both (h0_sym a b c d).symm (h1_sym a b c d).symm) ?_)
  refine bndc (hull_f _ _ _ _) (pos (both (self0 a b) (self1 a b)) ?_)
  refine bndc (hull_f _ _ _ _) (pos (both (again0 a b c d) (again1 a b c d)) ?_)
  refine bndc (of_f 0 0) (bnd (plus_f _ _ _ _) (pos (both (nought0 a b) (nought1 a b)) ?_))
  refine pos (show h0 a b c d ≤ of0 a b by omega) (pos (show h1 a b c d ≥ of1 c d by omega) ?_)
  refine pos e0 (pos e1 ?_)
  exact bndc (loop_f _ _) (bndc (loop_f _ _) (bndc (loop_f _ _) (pos (both (loop_twice0 _) (loop_twice1 _)) (bnd awake (somec rfl)))))
theorem wayB (a b c d : Int) (e0 : h0 a b c d = of0 a b) (n1 : ¬ h1 a b c d = of1 a b) (e1 : h1 a b c d = of1 c d) : Ev (fun q => signalboxlaw28_SpanLaws_B.f q a b c d) true := by
  have g0 := h0_at a b c d; have g1 := h1_at a b c d
  unfold signalboxlaw28_SpanLaws_B.f
  refine bndc (of_f a b) (bndc (of_f c d) (bndc (show span_Hull.f (of0 a b) (of1 a b) (of0 c d) (of1 c d) = some (h0 a b c d, h1 a b c d) from hull_f _ _ _ _) ?_))
  refine bnd (plus_f _ _ _ _) (bnd (plus_f _ _ _ _) (pos (both (plus_sym0 _ _) (plus_sym1 _ _)) ?_))
  refine bndc (hull_f _ _ _ _) (pos (both (h0_sym a b c d).symm (h1_sym a b c d).symm) ?_)
  refine bndc (hull_f _ _ _ _) (pos (both (self0 a b) (self1 a b)) ?_)
  refine bndc (hull_f _ _ _ _) (pos (both (again0 a b c d) (again1 a b c d)) ?_)
  refine bndc (of_f 0 0) (bnd (plus_f _ _ _ _) (pos (both (nought0 a b) (nought1 a b)) ?_))
  refine pos (show h0 a b c d ≤ of0 a b by omega) (pos (show h1 a b c d ≥ of1 c d by omega) ?_)
  refine pos e0 (neg n1 (pos e1 ?_))
  exact bndc (loop_f _ _) (bndc (loop_f _ _) (bndc (loop_f _ _) (pos (both (loop_twice0 _) (loop_twice1 _)) (bnd awake (somec rfl)))))
theorem wayC (a b c d : Int) (n0 : ¬ h0 a b c d = of0 a b) (e0 : h0 a b c d = of0 c d) (e1 : h1 a b c d = of1 a b) : Ev (fun q => signalboxlaw28_SpanLaws_C.f q a b c d) true := by
  have g0 := h0_at a b c d; have g1 := h1_at a b c d
  unfold signalboxlaw28_SpanLaws_C.f
  refine bndc (of_f a b) (bndc (of_f c d) (bndc (show span_Hull.f (of0 a b) (of1 a b) (of0 c d) (of1 c d) = some (h0 a b c d, h1 a b c d) from hull_f _ _ _ _) ?_))
  refine bnd (plus_f _ _ _ _) (bnd (plus_f _ _ _ _) (pos (both (plus_sym0 _ _) (plus_sym1 _ _)) ?_))
  refine bndc (hull_f _ _ _ _) (pos (both (h0_sym a b c d).symm (h1_sym a b c d).symm) ?_)
  refine bndc (hull_f _ _ _ _) (pos (both (self0 a b) (self1 a b)) ?_)
  refine bndc (hull_f _ _ _ _) (pos (both (again0 a b c d) (again1 a b c d)) ?_)
  refine bndc (of_f 0 0) (bnd (plus_f _ _ _ _) (pos (both (nought0 a b) (nought1 a b)) ?_))
  refine pos (show h0 a b c d ≤ of0 a b by omega) (pos (show h1 a b c d ≥ of1 c d by omega) ?_)
  refine neg n0 (pos e0 (pos e1 ?_))
  exact bndc (loop_f _ _) (bndc (loop_f _ _) (bndc (loop_f _ _) (pos (both (loop_twice0 _) (loop_twice1 _)) (bnd awake (somec rfl)))))
theorem wayD (a b c d : Int) (n0 : ¬ h0 a b c d = of0 a b) (e0 : h0 a b c d = of0 c d) (n1 : ¬ h1 a b c d = of1 a b) (e1 : h1 a b c d = of1 c d) : Ev (fun q => signalboxlaw28_SpanLaws_D.f q a b c d) true := by
  have g0 := h0_at a b c d; have g1 := h1_at a b c d
  unfold signalboxlaw28_SpanLaws_D.f
  refine bndc (of_f a b) (bndc (of_f c d) (bndc (show span_Hull.f (of0 a b) (of1 a b) (of0 c d) (of1 c d) = some (h0 a b c d, h1 a b c d) from hull_f _ _ _ _) ?_))
  refine bnd (plus_f _ _ _ _) (bnd (plus_f _ _ _ _) (pos (both (plus_sym0 _ _) (plus_sym1 _ _)) ?_))
  refine bndc (hull_f _ _ _ _) (pos (both (h0_sym a b c d).symm (h1_sym a b c d).symm) ?_)
  refine bndc (hull_f _ _ _ _) (pos (both (self0 a b) (self1 a b)) ?_)
  refine bndc (hull_f _ _ _ _) (pos (both (again0 a b c d) (again1 a b c d)) ?_)
  refine bndc (of_f 0 0) (bnd (plus_f _ _ _ _) (pos (both (nought0 a b) (nought1 a b)) ?_))
  refine pos (show h0 a b c d ≤ of0 a b by omega) (pos (show h1 a b c d ≥ of1 c d by omega) ?_)
  refine neg n0 (pos e0 (neg n1 (pos e1 ?_)))
  exact bndc (loop_f _ _) (bndc (loop_f _ _) (bndc (loop_f _ _) (pos (both (loop_twice0 _) (loop_twice1 _)) (bnd awake (somec rfl)))))
end SpanLawsKit
open SpanLawsKit
theorem SpanLaws : signalboxlaw28_SpanLaws.Pure := by
  intro a b c d _ _ _ _
  have g0 := h0_at a b c d; have g1 := h1_at a b c d
  have yes : ∀ {f : Nat → Option Bool} {g : Nat → Option Bool}, Ev g true → Ev (fun q => if f q = some true then some true else g q) true := by
    rintro f g ⟨K, h⟩
    refine ⟨K, fun q hq => ?_⟩
    simp only
    split
    · rfl
    · exact h q hq
  have first : ∀ {f : Nat → Option Bool} {g : Nat → Option Bool}, Ev f true → Ev (fun q => if f q = some true then some true else g q) true := by
    rintro f g ⟨K, h⟩
    exact ⟨K, fun q hq => if_pos (h q hq)⟩
  refine Ev.rounds (show Ev (fun q => signalboxlaw28_SpanLaws.f q a b c d) true from ?_)
  unfold signalboxlaw28_SpanLaws.f
  by_cases e0 : h0 a b c d = of0 a b
  · by_cases e1 : h1 a b c d = of1 a b
    · exact first (wayA a b c d e0 e1)
    · exact yes (first (wayB a b c d e0 e1 (by omega)))
  · by_cases e1 : h1 a b c d = of1 a b
    · exact yes (yes (first (wayC a b c d e0 (by omega) e1)))
    · exact yes (yes (yes (wayD a b c d e0 (by omega) e1 (by omega))))
end Go.Proofs.Ytfbcilmiagmijaa.Pure
