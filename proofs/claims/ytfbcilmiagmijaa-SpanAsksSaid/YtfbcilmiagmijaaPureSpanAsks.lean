/-
  Intervals: the pure statement of SpanAsks.
-/
import Derived.Test.YtfbcilmiagmijaaPSpanx2
import Derived.Test.YtfbcilmiagmijaaPSpanx4
import Derived.Test.YtfbcilmiagmijaaPSpanx5
import Derived.Test.YtfbcilmiagmijaaPSpanx7
import Derived.Test.YtfbcilmiagmijaaSpanLib
namespace Go.Proofs.Ytfbcilmiagmijaa.Pure
open Go.RowKit Go.Proofs.Ytfbcilmiagmijaa.PSpan Go.Proofs.Ytfbcilmiagmijaa.EvKit Go.Proofs.Ytfbcilmiagmijaa.SpanKit Go.Proofs.YtfbcilmiagmijaaW.PrintWords Go.Proofs.YtfbcilmiagmijaaW.PrintLast

namespace SpanAsksKit
theorem rclip (x : Int) : signalboxref26_Clip.f x = some (clip x) := by
  unfold signalboxref26_Clip.f
  congr 1
  have := clip_at x
  simp only [mn, mx]
  split <;> split <;> omega
theorem rof (a b : Int) : signalboxref26_Of.f a b = some (of0 a b, of1 a b) := by
  unfold signalboxref26_Of.f of0 of1
  by_cases h : a > b
  · rw [if_pos h, if_pos h, if_pos h]
  · rw [if_neg h, if_neg h, if_neg h, rclip, rclip]; rfl
theorem rplus (a b c d : Int) : Ev (fun k => signalboxref26_Plus.f k a b c d) (plus0 a c, plus1 b d) := by
  have ca := clip_at a; have cb := clip_at b; have cc := clip_at c; have cd := clip_at d
  have p0 := plus0_at a c; have p1 := plus1_at b d
  unfold signalboxref26_Plus.f
  refine bndc (rclip a) (bndc (rclip c) ?_)
  rw [w64 (by omega) (by omega)]
  refine bndc (rclip _) (bndc (rclip b) (bndc (rclip d) ?_))
  rw [w64 (by omega) (by omega)]
  refine bndc (rclip _) ?_
  have j : ∀ t : Bool, (t = true ↔ a ≤ -1048576 ∨ c ≤ -1048576) → Ev (fun k => signalboxref26_Plus.j0 k t a b c d (clip (clip a + clip c)) (clip (clip b + clip d))) (plus0 a c, plus1 b d) := by
    intro t ht
    refine Ev.step (fun q => by simp only [signalboxref26_Plus.j0]; rfl) ?_
    have two : ∀ {x y u v : Int}, x = u → y = v → (some (x, y) : Option (Int × Int)) = some (u, v) := fun h k => by rw [h, k]
    by_cases h : t = true
    · have := ht.1 h
      refine pos h (ite (fun h1 => const (two ?_ ?_)) (fun h1 => ite (fun h2 => const (two ?_ ?_)) (fun h2 => const (two ?_ ?_)))) <;> omega
    · have h3 : ¬ (a ≤ -1048576 ∨ c ≤ -1048576) := fun k => h (ht.2 k)
      refine neg h (ite (fun h1 => const (two ?_ ?_)) (fun h1 => ite (fun h2 => const (two ?_ ?_)) (fun h2 => const (two ?_ ?_)))) <;> omega
  refine ite (fun h => j true ⟨fun _ => .inl h, fun _ => rfl⟩) (fun h => j _ ?_)
  rw [decide_eq_true_eq]
  exact ⟨fun k => .inr k, fun k => k.resolve_left h⟩
theorem rhull (a b c d : Int) : signalboxref26_Hull.f a b c d = some (clip (mn a c), clip (mx b d)) := by
  unfold signalboxref26_Hull.f; rw [rclip, rclip]; rfl
theorem rhas (a b x : Int) : signalboxref26_Has.f a b x = some (has a b x) := has_f a b x
theorem rloop (a b : Int) : Ev (fun k => signalboxref26_Loop.f k a b) (loop0 a, loop1 b) := by
  unfold signalboxref26_Loop.f
  have j1 : ∀ x y : Int, Ev (fun k => signalboxref26_Loop.j1 k x y) (x, y) := fun x y => Ev.step (fun q => by simp only [signalboxref26_Loop.j1]) (somec rfl)
  have j0 : ∀ x : Int, Ev (fun k => signalboxref26_Loop.j0 k a b x 0) (x, loop1 b) := by
    intro x
    refine Ev.step (fun q => by simp only [signalboxref26_Loop.j0]; rfl) ?_
    unfold loop1
    refine ite (fun h => ?_) (fun h => ?_)
    · rw [if_pos h]; exact j1 _ _
    · rw [if_neg h]; exact j1 _ _
  unfold loop0
  refine ite (fun h => ?_) (fun h => ?_)
  · rw [if_pos h]; exact j0 _
  · rw [if_neg h]; exact j0 _
end SpanAsksKit
open SpanAsksKit
theorem SpanAsks : signalboxlaw28_SpanAsks.Pure := by
  intro a b c d x _ _ _ _ _
  refine Ev.rounds (show Ev (fun q => signalboxlaw28_SpanAsks.f q a b c d x) true from ?_)
  unfold signalboxlaw28_SpanAsks.f
  have of_ : ∀ u v : Int, signalboxlaw28_of.f u v = some (u, v) := fun _ _ => rfl
  refine bndc (of_f a b) (bndc (rof a b) (bndc (of_ _ _) (pos (both rfl rfl) ?_)))
  refine bnd (plus_f a b c d) (bnd (rplus a b c d) (bndc (of_ _ _) (pos (both rfl rfl) ?_)))
  refine bndc (hull_f a b c d) (bndc (rhull a b c d) (bndc (of_ _ _) (pos (both rfl rfl) ?_)))
  refine bndc (loop_f a b) (bnd (rloop a b) (bndc (of_ _ _) (pos (both rfl rfl) ?_)))
  refine bndc (has_f a b x) (bndc (rhas a b x) (pos (beq_self_eq_true _) ?_))
  exact bndc (clip_f x) (bndc (rclip x) (pos rfl (bnd awake (somec rfl))))
end Go.Proofs.Ytfbcilmiagmijaa.Pure
