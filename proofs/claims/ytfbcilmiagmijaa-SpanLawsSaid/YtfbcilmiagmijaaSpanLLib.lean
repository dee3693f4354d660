/-
  What the printed functions of span (and of their reference) come to, as plain whole numbers.
-/
import Derived.Test.YtfbcilmiagmijaaPSpanLx2
import Derived.Test.YtfbcilmiagmijaaPSpanLx3
import Derived.Test.YtfbcilmiagmijaaPSpanLx4
import Derived.Test.YtfbcilmiagmijaaLists
namespace Go.Proofs.Ytfbcilmiagmijaa.SpanLKit
open Go.RowKit Go.Proofs.Ytfbcilmiagmijaa.PSpanL Go.Proofs.Ytfbcilmiagmijaa.EvKit Go.Proofs.YtfbcilmiagmijaaW.PrintWords Go.Proofs.YtfbcilmiagmijaaW.PrintLast

def clip (x : Int) : Int := if x ≤ -1048576 then -1048576 else if x ≥ 1048576 then 1048576 else x
theorem clip_at (x : Int) : (x ≤ -1048576 ∧ clip x = -1048576) ∨ (-1048576 < x ∧ x < 1048576 ∧ clip x = x) ∨ (1048576 ≤ x ∧ clip x = 1048576) := by
  unfold clip; split
  · omega
  · split <;> omega
theorem clip_f (x : Int) : span_Clip.f x = some (clip x) := by
  unfold span_Clip.f
  congr 1
  have := clip_at x
  simp only [mn, mx]
  split <;> split <;> omega
def of0 (a b : Int) : Int := if a > b then 0 else clip a
def of1 (a b : Int) : Int := if a > b then 0 else clip b
theorem of_at (a b : Int) : (a > b ∧ of0 a b = 0 ∧ of1 a b = 0) ∨ (a ≤ b ∧ of0 a b = clip a ∧ of1 a b = clip b) := by
  unfold of0 of1; split <;> omega
theorem of_f (a b : Int) : span_Of.f a b = some (of0 a b, of1 a b) := by
  unfold span_Of.f of0 of1
  by_cases h : a > b
  · rw [if_pos h, if_pos h, if_pos h]
  · rw [if_neg h, if_neg h, if_neg h, clip_f, clip_f]; rfl
def plus0 (a c : Int) : Int := if clip a = -1048576 then -1048576 else if clip c = -1048576 then -1048576 else clip (clip a + clip c)
def plus1 (b d : Int) : Int := if clip b = 1048576 then 1048576 else if clip d = 1048576 then 1048576 else clip (clip b + clip d)
theorem plus0_at (a c : Int) : ((a ≤ -1048576 ∨ c ≤ -1048576) ∧ plus0 a c = -1048576) ∨ (-1048576 < a ∧ -1048576 < c ∧ plus0 a c = clip (clip a + clip c)) := by
  have := clip_at a; have := clip_at c
  unfold plus0; split
  · omega
  · split <;> omega
theorem plus1_at (a c : Int) : ((a ≥ 1048576 ∨ c ≥ 1048576) ∧ plus1 a c = 1048576) ∨ (1048576 > a ∧ 1048576 > c ∧ plus1 a c = clip (clip a + clip c)) := by
  have := clip_at a; have := clip_at c
  unfold plus1; split
  · omega
  · split <;> omega
theorem plus_f (a b c d : Int) : Ev (fun k => span_Plus.f k a b c d) (plus0 a c, plus1 b d) := by
  have ca := clip_at a; have cb := clip_at b; have cc := clip_at c; have cd := clip_at d
  have j2 : ∀ x y : Int, Ev (fun k => span_Plus.j2 k x y) (x, y) := fun x y => Ev.step (fun q => by simp only [span_Plus.j2]) (somec rfl)
  have j1 : ∀ z : Int, Ev (fun k => span_Plus.j1 k (clip a) (clip b) (clip c) (clip d) (-1048576) 1048576 z 0) (z, plus1 b d) := by
    intro z
    refine Ev.step (fun q => by simp only [span_Plus.j1]; rfl) ?_
    rw [w64 (by omega) (by omega), clip_f]
    refine bndc rfl ?_
    unfold plus1
    refine ite (fun h => ?_) (fun h => ite (fun h2 => ?_) (fun h2 => ?_))
    · rw [if_pos h]; exact j2 _ _
    · rw [if_neg h, if_pos h2]; exact j2 _ _
    · rw [if_neg h, if_neg h2]; exact j2 _ _
  have j0 : Ev (fun k => span_Plus.j0 k false (clip a) (clip b) (clip c) (clip d) (-1048576) 1048576) (plus0 a c, plus1 b d) := by
    refine Ev.step (fun q => by simp only [span_Plus.j0]; rfl) ?_
    refine neg (by simp) ?_
    rw [w64 (by omega) (by omega), clip_f]
    refine bndc rfl ?_
    unfold plus0
    refine ite (fun h => ?_) (fun h => ite (fun h2 => ?_) (fun h2 => ?_))
    · rw [if_pos h]; exact j1 _
    · rw [if_neg h, if_pos h2]; exact j1 _
    · rw [if_neg h, if_neg h2]; exact j1 _
  have jt : ∀ r, r = (-1048576, 1048576) → Ev (fun k => span_Plus.j0 k true (clip a) (clip b) (clip c) (clip d) (-1048576) 1048576) r := by
    rintro r rfl
    refine Ev.step (fun q => by simp only [span_Plus.j0]; rfl) ?_
    exact pos trivial (somec rfl)
  have bd : ∀ x y : Int, span_Span_bounds.f x y = some (clip x, clip y) := fun x y => by unfold span_Span_bounds.f; rw [clip_f, clip_f]; rfl
  unfold span_Plus.f
  refine bndc (bd a b) (bndc (bd c d) (bndc (show span_ends.f = some (-1048576, 1048576) from rfl) ?_))
  refine ite (fun h => ?_) (fun h => ?_)
  · simp only [Bool.and_eq_true, beq_iff_eq] at h
    refine jt _ ?_
    unfold plus0 plus1
    rw [if_pos h.1, if_pos h.2]
  · by_cases h2 : (clip c == -1048576 && (clip d == 1048576)) = true
    · rw [show ((clip c, clip d).1 == (-1048576, 1048576).1 && ((clip c, clip d).2 == (-1048576, 1048576).2)) = true from h2]
      simp only [Bool.and_eq_true, beq_iff_eq] at h2
      refine jt _ ?_
      unfold plus0 plus1
      rw [if_pos h2.1, if_pos h2.2, ite_self, ite_self]
    · rw [show ((clip c, clip d).1 == (-1048576, 1048576).1 && ((clip c, clip d).2 == (-1048576, 1048576).2)) = false from Bool.eq_false_iff.2 h2]
      exact j0
theorem hull_f (a b c d : Int) : span_Hull.f a b c d = some (clip (mn a c), clip (mx b d)) := by
  unfold span_Hull.f; rw [clip_f, clip_f]; rfl
theorem mn_at (a b : Int) : (a ≤ b ∧ mn a b = a) ∨ (b ≤ a ∧ mn a b = b) := by unfold mn; split <;> omega
theorem mx_at (a b : Int) : (b ≤ a ∧ mx a b = a) ∨ (a ≤ b ∧ mx a b = b) := by unfold mx; split <;> omega
def loop0 (a : Int) : Int := if a < 0 then -1048576 else 0
def loop1 (b : Int) : Int := if b > 0 then 1048576 else 0
theorem loop0_at (a : Int) : (a < 0 ∧ loop0 a = -1048576) ∨ (0 ≤ a ∧ loop0 a = 0) := by unfold loop0; split <;> omega
theorem loop1_at (a : Int) : (0 < a ∧ loop1 a = 1048576) ∨ (a ≤ 0 ∧ loop1 a = 0) := by unfold loop1; split <;> omega
theorem loop_f (a b : Int) : span_Loop.f a b = some (loop0 a, loop1 b) := by
  unfold span_Loop.f loop0 loop1
  by_cases h : a < 0 <;> by_cases h2 : b > 0 <;> simp only [h, h2, if_true, if_false]
def has (a b x : Int) : Bool := (decide (x ≥ a) || decide (a ≤ -1048576)) && (decide (x ≤ b) || decide (b ≥ 1048576))
theorem has_f (a b x : Int) : span_Has.f a b x = some (has a b x) := by
  unfold span_Has.f has
  by_cases h : x ≥ a <;> by_cases h2 : a ≤ -1048576 <;> by_cases h3 : x ≤ b <;> simp [h, h2, h3]
theorem has_yes {a b x : Int} (h : x ≥ a ∨ a ≤ -1048576) (k : x ≤ b ∨ b ≥ 1048576) : has a b x = true := by
  simp [has]; omega
theorem both {a b c d : Int} (h : a = c) (k : b = d) : (a == c && (b == d)) = true := by simp [h, k]
theorem awake : Ev (fun k => signalboxlaw28_awake.f k) true := Ev.of signalboxlaw28_awake.mono (k := 10) (by decide +kernel)
end Go.Proofs.Ytfbcilmiagmijaa.SpanLKit
