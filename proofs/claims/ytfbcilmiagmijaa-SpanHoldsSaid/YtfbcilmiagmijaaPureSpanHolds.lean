/-
  Sums and hulls of intervals hold what they should: the pure statement of SpanHolds.
-/
import Derived.Test.YtfbcilmiagmijaaPSpanx8
import Derived.Test.YtfbcilmiagmijaaSpanLib
namespace Go.Proofs.Ytfbcilmiagmijaa.Pure
open Go.RowKit Go.Proofs.Ytfbcilmiagmijaa.PSpan Go.Proofs.Ytfbcilmiagmijaa.EvKit Go.Proofs.Ytfbcilmiagmijaa.SpanKit Go.Proofs.YtfbcilmiagmijaaW.PrintWords Go.Proofs.YtfbcilmiagmijaaW.PrintLast

namespace SpanHoldsKit
theorem far (a b c d : Int) (l : List Int) : Ev (fun q => signalboxlaw28_SpanHolds.j0 q a b c d l true) true := by
  refine Ev.step (fun q => by simp only [signalboxlaw28_SpanHolds.j0]; rfl) ?_
  exact pos trivial (bnd awake (somec rfl))
section
variable {a b c d : Int} (ha : -100000 ≤ a) (hb : b ≤ 100000) (hab : a ≤ b) (hc : -100000 ≤ c) (hd : d ≤ 100000) (hcd : c ≤ d) (l : List Int) (hl : l.length ≤ 40)
include ha hb hab hc hd hcd hl
theorem loop : ∀ (e i : Nat) (x s : Int), l.length - i = e → i ≤ l.length → a ≤ x → x ≤ b → i * a ≤ s → s ≤ i * b →
    Ev (fun q => signalboxlaw28_SpanHolds.l0 q a b l x d s i a b c d) true
  | 0, i, x, s, he, hi, h1, h2, h3, h4 => by
    refine Ev.step (fun q => by simp only [signalboxlaw28_SpanHolds.l0]; rfl) ?_
    refine neg (by omega) ?_
    refine bndc (has_f a b x) (pos (has_yes (.inl h1) (.inl h2)) ?_)
    refine bndc (has_f c d d) (pos (has_yes (.inl hcd) (.inl (by omega))) ?_)
    refine bnd (plus_f a b c d) ?_
    have p0 := plus0_at a c; have p1 := plus1_at b d
    have ca := clip_at a; have cb := clip_at b; have cc := clip_at c; have cd := clip_at d
    have c0 := clip_at (clip a + clip c); have c1 := clip_at (clip b + clip d)
    rw [w64 (x := x + d) (by omega) (by omega)]
    refine bndc (has_f _ _ _) (pos (has_yes (.inl (by simp only; omega)) (.inl (by simp only; omega))) ?_)
    have m0 := mn_at a c; have m1 := mx_at b d; have m2 := mn_at c a; have m3 := mx_at d b
    have e0 := clip_at (mn a c); have e1 := clip_at (mx b d); have e2 := clip_at (mn c a); have e3 := clip_at (mx d b)
    refine bndc (hull_f a b c d) (bndc (has_f _ _ _) (pos (has_yes (.inl (by simp only; omega)) (.inl (by simp only; omega))) ?_))
    refine bndc (hull_f c d a b) (bndc (has_f _ _ _) (pos (has_yes (.inl (by simp only; omega)) (.inl (by simp only; omega))) ?_))
    have l0 := loop0_at c; have l1 := loop1_at d
    exact bndc (loop_f c d) (bndc (has_f _ _ _) (pos (has_yes (by simp only; omega) (by simp only; omega)) (bnd awake (somec rfl))))
  | e + 1, i, x, s, he, hi, h1, h2, h3, h4 => by
    refine Ev.step (fun q => by simp only [signalboxlaw28_SpanHolds.l0]; rfl) ?_
    refine pos (by omega) (pos (by omega) ?_)
    rw [w64 (x := b - a) (by omega) (by omega), w64 (x := b - a + 1) (by omega) (by omega)]
    refine neg (by omega) ?_
    have t0 := Int.tmod_lt_of_pos (rd l i) (show 0 < b - a + 1 by omega)
    have t1 := Int.lt_tmod_of_pos (rd l i) (show 0 < b - a + 1 by omega)
    have i1 : (0 : Int) ≤ i := by omega
    have i2 : (i : Int) ≤ 40 := by omega
    have s0 : -4000000 ≤ (i : Int) * a := by
      have := Int.mul_le_mul_of_nonneg_left (show (-100000 : Int) ≤ a by omega) i1
      omega
    have s1 : (i : Int) * b ≤ 4000000 := by
      have := Int.mul_le_mul_of_nonneg_left (show b ≤ (100000 : Int) by omega) i1
      omega
    have go : ∀ k : Int, 0 ≤ k → k ≤ b - a → Ev (fun q => signalboxlaw28_SpanHolds.j2 q a b l d s i k a b c d) true := by
      intro k k0 k1
      refine Ev.step (fun q => by simp only [signalboxlaw28_SpanHolds.j2]; rfl) ?_
      rw [w64 (x := a + k) (by omega) (by omega), w64 (x := s + (a + k)) (by omega) (by omega), w64 (x := (i : Int) + 1) (by omega) (by omega), show ((i : Int) + 1) = ((i + 1 : Nat) : Int) by omega]
      have q0 : ((i + 1 : Nat) : Int) * a ≤ s + (a + k) := by
        rw [show ((i + 1 : Nat) : Int) * a = i * a + a by rw [Int.natCast_add, Int.add_mul]; omega]; omega
      have q1 : s + (a + k) ≤ ((i + 1 : Nat) : Int) * b := by
        rw [show ((i + 1 : Nat) : Int) * b = i * b + b by rw [Int.natCast_add, Int.add_mul]; omega]; omega
      have l0 := loop0_at a; have l1 := loop1_at b
      refine bndc (loop_f a b) (bndc (has_f _ _ _) (pos (has_yes ?_ ?_) (loop e (i + 1) (a + k) (s + (a + k)) (by omega) (by omega) (by omega) (by omega) q0 q1)))
      · show s + (a + k) ≥ loop0 a ∨ loop0 a ≤ -1048576
        rcases l0 with h | h
        · exact .inr (by omega)
        · have : 0 ≤ ((i + 1 : Nat) : Int) * a := Int.mul_nonneg (by omega) h.1
          exact .inl (by omega)
      · show s + (a + k) ≤ loop1 b ∨ loop1 b ≥ 1048576
        rcases l1 with h | h
        · exact .inr (by omega)
        · have : ((i + 1 : Nat) : Int) * b ≤ 0 := Int.mul_nonpos_of_nonneg_of_nonpos (by omega) h.1
          exact .inl (by omega)
    refine ite (fun h => ?_) (fun h => ?_)
    · rw [w64 (by omega) (by omega)]
      exact go _ (by omega) (by omega)
    · exact go _ (by omega) (by omega)
theorem near : Ev (fun q => signalboxlaw28_SpanHolds.j0 q a b c d l false) true := by
  refine Ev.step (fun q => by simp only [signalboxlaw28_SpanHolds.j0]; rfl) ?_
  refine neg (by simp) (bndc (of_f a b) (bndc (of_f c d) ?_))
  have o0 := of_at a b; have o1 := of_at c d
  have ca := clip_at a; have cb := clip_at b; have cc := clip_at c; have cd := clip_at d
  rw [show of0 a b = a by omega, show of1 a b = b by omega, show of0 c d = c by omega, show of1 c d = d by omega]
  exact loop ha hb hab hc hd hcd l hl l.length 0 a 0 (by omega) (by omega) (by omega) hab (by simp) (by simp)
end
end SpanHoldsKit
open SpanHoldsKit
theorem SpanHolds : signalboxlaw28_SpanHolds.Pure := by
  intro a b c d l _ _ _ _ _ _ _
  refine Ev.rounds (show Ev (fun q => signalboxlaw28_SpanHolds.f q a b c d l) true from ?_)
  unfold signalboxlaw28_SpanHolds.f
  have F := far a b c d l
  refine ite (fun _ => F) (fun h1 => ite (fun _ => F) (fun h2 => ite (fun _ => F) (fun h3 => ite (fun _ => F) (fun h4 => ite (fun _ => F) (fun h5 => ite (fun _ => F) (fun h6 => ite (fun _ => F) (fun h7 => ite (fun _ => F) (fun h8 => ?_))))))))
  by_cases h9 : d > 100000
  · rw [decide_eq_true h9]; exact F
  · rw [decide_eq_false h9]
    exact near (by omega) (by omega) (by omega) (by omega) (by omega) (by omega) l (by omega)
end Go.Proofs.Ytfbcilmiagmijaa.Pure
