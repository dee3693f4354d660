-- Written by a program of this session (over the kit's printer): not typed by hand.
import Derived.Test.YtdgaklldijkoaaaPCodex0
import Derived.Test.YtdgaklldijkoaaaPCodex7
import Derived.Test.YtdgaklldijkoaaaPCodex8
namespace Go.Proofs.Ytdgaklldijkoaaa.PCode
open Go.RowKit Go.Proofs.YtdgaklldijkoaaaW.PrintWords Go.Proofs.YtdgaklldijkoaaaW.PrintLast Go.Proofs.YtdgaklldijkoaaaW.PrintMore
attribute [local go_sem] max2_int min2_int max_two min_two max_three min_three max_four min_four   -- for this text's walks alone
set_option linter.unusedVariables false
set_option linter.unusedSimpArgs false

/-! ### signalboxref1_Encode: function 11 -/
mutual
def signalboxref1_Encode.l0 : Nat → List Int → Int → List (S44) → List (S46) → List (S56) → Int → List Int → List Int → List (List Int) → List (S65) → Int → Option (List Int × Int)
  | 0, _, _, _, _, _, _, _, _, _, _, _ => none
  | k + 1, x4, x5, x154000, x154001, x154002, x154003, x154004, x154005, x154006, x154007, x154008 => if x5 < (x154000.length : Int) then (if 0 ≤ x5 then ((signalboxref1_put.f k x4 ((rd_T44 x154000 x5).f0) 8).bind fun t162 => ((signalboxref1_put.f k t162 ((rd_T44 x154000 x5).f1) 8).bind fun t166 => ((signalboxref1_put.f k t166 ((rd_T44 x154000 x5).f2) 8).bind fun t170 => (signalboxref1_Encode.l0 k t170 (wrap64 (x5 + 1)) x154000 x154001 x154002 x154003 x154004 x154005 x154006 x154007 x154008)))) else (none)) else ((signalboxref1_put.f k x4 (x154001.length : Int) 2).bind fun t173 => (signalboxref1_Encode.l1 k t173 0 x154000 x154001 x154002 x154003 x154004 x154005 x154006 x154007 x154008))
def signalboxref1_Encode.l1 : Nat → List Int → Int → List (S44) → List (S46) → List (S56) → Int → List Int → List Int → List (List Int) → List (S65) → Int → Option (List Int × Int)
  | 0, _, _, _, _, _, _, _, _, _, _, _ => none
  | k + 1, x4, x6, x154000, x154001, x154002, x154003, x154004, x154005, x154006, x154007, x154008 => if x6 < (x154001.length : Int) then (if 0 ≤ x6 then ((signalboxref1_put.f k x4 ((rd_T46 x154001 x6).f0) 8).bind fun t177 => ((signalboxref1_put.f k t177 ((rd_T46 x154001 x6).f1) 8).bind fun t181 => ((signalboxref1_put.f k t181 ((rd_T46 x154001 x6).f2) 8).bind fun t185 => (signalboxref1_Encode.l1 k t185 (wrap64 (x6 + 1)) x154000 x154001 x154002 x154003 x154004 x154005 x154006 x154007 x154008)))) else (none)) else ((signalboxref1_put.f k x4 (x154002.length : Int) 2).bind fun t188 => (signalboxref1_Encode.l2 k t188 0 x154000 x154001 x154002 x154003 x154004 x154005 x154006 x154007 x154008))
def signalboxref1_Encode.l2 : Nat → List Int → Int → List (S44) → List (S46) → List (S56) → Int → List Int → List Int → List (List Int) → List (S65) → Int → Option (List Int × Int)
  | 0, _, _, _, _, _, _, _, _, _, _, _ => none
  | k + 1, x4, x7, x154000, x154001, x154002, x154003, x154004, x154005, x154006, x154007, x154008 => if x7 < (x154002.length : Int) then (if 0 ≤ x7 then ((signalboxref1_put.f k x4 ((rd_T56 x154002 x7).f0) 8).bind fun t192 => ((signalboxref1_put.f k t192 ((rd_T56 x154002 x7).f1) 8).bind fun t196 => (signalboxref1_Encode.l2 k t196 (wrap64 (x7 + 1)) x154000 x154001 x154002 x154003 x154004 x154005 x154006 x154007 x154008))) else (none)) else ((signalboxref1_put.f k x4 x154003 8).bind fun t199 => ((signalboxref1_puts.f k t199 x154004).bind fun t202 => ((signalboxref1_puts.f k t202 x154005).bind fun t205 => ((signalboxref1_put.f k t205 (x154006.length : Int) 2).bind fun t208 => (signalboxref1_Encode.l3 k t208 0 x154000 x154001 x154002 x154003 x154004 x154005 x154006 x154007 x154008)))))
def signalboxref1_Encode.l3 : Nat → List Int → Int → List (S44) → List (S46) → List (S56) → Int → List Int → List Int → List (List Int) → List (S65) → Int → Option (List Int × Int)
  | 0, _, _, _, _, _, _, _, _, _, _, _ => none
  | k + 1, x4, x8, x154000, x154001, x154002, x154003, x154004, x154005, x154006, x154007, x154008 => if x8 < (x154006.length : Int) then (signalboxref1_Encode.l4 k x4 x8 0 x154000 x154001 x154002 x154003 x154004 x154005 x154006 x154007 x154008) else ((signalboxref1_put.f k x4 (x154007.length : Int) 2).bind fun t217 => (signalboxref1_Encode.l5 k t217 0 x154000 x154001 x154002 x154003 x154004 x154005 x154006 x154007 x154008))
def signalboxref1_Encode.l4 : Nat → List Int → Int → Int → List (S44) → List (S46) → List (S56) → Int → List Int → List Int → List (List Int) → List (S65) → Int → Option (List Int × Int)
  | 0, _, _, _, _, _, _, _, _, _, _, _, _ => none
  | k + 1, x4, x8, x9, x154000, x154001, x154002, x154003, x154004, x154005, x154006, x154007, x154008 => if 0 ≤ x8 then (if x8 < (x154006.length : Int) then (if x9 < ((rd_L1 x154006 x8).length : Int) then (if 0 ≤ x9 then ((signalboxref1_put.f k x4 (rd (rd_L1 x154006 x8) x9) 8).bind fun t214 => (signalboxref1_Encode.l4 k t214 x8 (wrap64 (x9 + 1)) x154000 x154001 x154002 x154003 x154004 x154005 x154006 x154007 x154008)) else (none)) else (signalboxref1_Encode.l3 k x4 (wrap64 (x8 + 1)) x154000 x154001 x154002 x154003 x154004 x154005 x154006 x154007 x154008)) else (none)) else (none)
def signalboxref1_Encode.l5 : Nat → List Int → Int → List (S44) → List (S46) → List (S56) → Int → List Int → List Int → List (List Int) → List (S65) → Int → Option (List Int × Int)
  | 0, _, _, _, _, _, _, _, _, _, _, _ => none
  | k + 1, x4, x10, x154000, x154001, x154002, x154003, x154004, x154005, x154006, x154007, x154008 => if x10 < (x154007.length : Int) then (if 0 ≤ x10 then ((signalboxref1_put.f k x4 ((rd_T65 x154007 x10).f0) 8).bind fun t221 => ((signalboxref1_put.f k t221 ((rd_T65 x154007 x10).f1) 8).bind fun t225 => (signalboxref1_Encode.l5 k t225 (wrap64 (x10 + 1)) x154000 x154001 x154002 x154003 x154004 x154005 x154006 x154007 x154008))) else (none)) else ((signalboxref1_put.f k x4 x154008 8).bind fun t228 => (some (t228, 0)))
end
def signalboxref1_Encode.f (k : Nat) (l0_0 : List (S44)) (l0_1 : List (S46)) (l0_2 : List (S56)) (a0_3 : Int) (l0_4 : List Int) (l0_5 : List Int) (l0_6 : List (List Int)) (l0_7 : List (S65)) (a0_8 : Int) : Option (List Int × Int) := (signalboxref1_May.f k l0_0 l0_1 l0_2 a0_3 l0_4 l0_5 l0_6 l0_7 a0_8).bind fun t154 => (if t154 = true then ((signalboxref1_put.f k (([83, 66] : List Int)) (l0_0.length : Int) 2).bind fun t158 => (signalboxref1_Encode.l0 k t158 0 l0_0 l0_1 l0_2 a0_3 l0_4 l0_5 l0_6 l0_7 a0_8)) else (some (([] : List Int), 1)))
theorem signalboxref1_Encode.mono_l : ∀ k, (∀ y0 y1 y2 y3 y4 y5 y6 y7 y8 y9 y10, LeO (signalboxref1_Encode.l0 k y0 y1 y2 y3 y4 y5 y6 y7 y8 y9 y10) (signalboxref1_Encode.l0 (k + 1) y0 y1 y2 y3 y4 y5 y6 y7 y8 y9 y10)) ∧ (∀ y0 y1 y2 y3 y4 y5 y6 y7 y8 y9 y10, LeO (signalboxref1_Encode.l1 k y0 y1 y2 y3 y4 y5 y6 y7 y8 y9 y10) (signalboxref1_Encode.l1 (k + 1) y0 y1 y2 y3 y4 y5 y6 y7 y8 y9 y10)) ∧ (∀ y0 y1 y2 y3 y4 y5 y6 y7 y8 y9 y10, LeO (signalboxref1_Encode.l2 k y0 y1 y2 y3 y4 y5 y6 y7 y8 y9 y10) (signalboxref1_Encode.l2 (k + 1) y0 y1 y2 y3 y4 y5 y6 y7 y8 y9 y10)) ∧ (∀ y0 y1 y2 y3 y4 y5 y6 y7 y8 y9 y10, LeO (signalboxref1_Encode.l3 k y0 y1 y2 y3 y4 y5 y6 y7 y8 y9 y10) (signalboxref1_Encode.l3 (k + 1) y0 y1 y2 y3 y4 y5 y6 y7 y8 y9 y10)) ∧ (∀ y0 y1 y2 y3 y4 y5 y6 y7 y8 y9 y10 y11, LeO (signalboxref1_Encode.l4 k y0 y1 y2 y3 y4 y5 y6 y7 y8 y9 y10 y11) (signalboxref1_Encode.l4 (k + 1) y0 y1 y2 y3 y4 y5 y6 y7 y8 y9 y10 y11)) ∧ (∀ y0 y1 y2 y3 y4 y5 y6 y7 y8 y9 y10, LeO (signalboxref1_Encode.l5 k y0 y1 y2 y3 y4 y5 y6 y7 y8 y9 y10) (signalboxref1_Encode.l5 (k + 1) y0 y1 y2 y3 y4 y5 y6 y7 y8 y9 y10))
  | 0 => ⟨fun _ _ _ _ _ _ _ _ _ _ _ r h => by simp [signalboxref1_Encode.l0] at h, fun _ _ _ _ _ _ _ _ _ _ _ r h => by simp [signalboxref1_Encode.l1] at h, fun _ _ _ _ _ _ _ _ _ _ _ r h => by simp [signalboxref1_Encode.l2] at h, fun _ _ _ _ _ _ _ _ _ _ _ r h => by simp [signalboxref1_Encode.l3] at h, fun _ _ _ _ _ _ _ _ _ _ _ _ r h => by simp [signalboxref1_Encode.l4] at h, fun _ _ _ _ _ _ _ _ _ _ _ r h => by simp [signalboxref1_Encode.l5] at h⟩
  | k + 1 => by
    obtain ⟨ih0, ih1, ih2, ih3, ih4, ih5⟩ := signalboxref1_Encode.mono_l k
    refine ⟨?_, ?_, ?_, ?_, ?_, ?_⟩
    · intro y0 y1 y2 y3 y4 y5 y6 y7 y8 y9 y10
      unfold signalboxref1_Encode.l0
      repeat' first
      | (with_reducible exact ih0 _ _ _ _ _ _ _ _ _ _ _)
      | (with_reducible exact ih1 _ _ _ _ _ _ _ _ _ _ _)
      | (with_reducible exact ih2 _ _ _ _ _ _ _ _ _ _ _)
      | (with_reducible exact ih3 _ _ _ _ _ _ _ _ _ _ _)
      | (with_reducible exact ih4 _ _ _ _ _ _ _ _ _ _ _ _)
      | (with_reducible exact ih5 _ _ _ _ _ _ _ _ _ _ _)
      | (with_reducible exact signalboxref1_May.mono _ _ _ _ _ _ _ _ _ _)
      | (with_reducible exact signalboxref1_put.mono _ _ _ _)
      | (with_reducible exact signalboxref1_puts.mono _ _ _)
      | (with_reducible exact LeO.refl _)
      | (with_reducible exact LeO.none _)
      | (with_reducible refine LeO.ite ?_ ?_)
      | (with_reducible refine LeO.bind ?_ (fun _ => ?_))
      | exact ih0 _ _ _ _ _ _ _ _ _ _ _
      | exact ih1 _ _ _ _ _ _ _ _ _ _ _
      | exact ih2 _ _ _ _ _ _ _ _ _ _ _
      | exact ih3 _ _ _ _ _ _ _ _ _ _ _
      | exact ih4 _ _ _ _ _ _ _ _ _ _ _ _
      | exact ih5 _ _ _ _ _ _ _ _ _ _ _
      | exact signalboxref1_May.mono _ _ _ _ _ _ _ _ _ _
      | exact signalboxref1_put.mono _ _ _ _
      | exact signalboxref1_puts.mono _ _ _
      | exact LeO.none _
      | refine LeO.ite ?_ ?_
      | refine LeO.bind ?_ (fun _ => ?_)
    · intro y0 y1 y2 y3 y4 y5 y6 y7 y8 y9 y10
      unfold signalboxref1_Encode.l1
      repeat' first
      | (with_reducible exact ih0 _ _ _ _ _ _ _ _ _ _ _)
      | (with_reducible exact ih1 _ _ _ _ _ _ _ _ _ _ _)
      | (with_reducible exact ih2 _ _ _ _ _ _ _ _ _ _ _)
      | (with_reducible exact ih3 _ _ _ _ _ _ _ _ _ _ _)
      | (with_reducible exact ih4 _ _ _ _ _ _ _ _ _ _ _ _)
      | (with_reducible exact ih5 _ _ _ _ _ _ _ _ _ _ _)
      | (with_reducible exact signalboxref1_May.mono _ _ _ _ _ _ _ _ _ _)
      | (with_reducible exact signalboxref1_put.mono _ _ _ _)
      | (with_reducible exact signalboxref1_puts.mono _ _ _)
      | (with_reducible exact LeO.refl _)
      | (with_reducible exact LeO.none _)
      | (with_reducible refine LeO.ite ?_ ?_)
      | (with_reducible refine LeO.bind ?_ (fun _ => ?_))
      | exact ih0 _ _ _ _ _ _ _ _ _ _ _
      | exact ih1 _ _ _ _ _ _ _ _ _ _ _
      | exact ih2 _ _ _ _ _ _ _ _ _ _ _
      | exact ih3 _ _ _ _ _ _ _ _ _ _ _
      | exact ih4 _ _ _ _ _ _ _ _ _ _ _ _
      | exact ih5 _ _ _ _ _ _ _ _ _ _ _
      | exact signalboxref1_May.mono _ _ _ _ _ _ _ _ _ _
      | exact signalboxref1_put.mono _ _ _ _
      | exact signalboxref1_puts.mono _ _ _
      | exact LeO.none _
      | refine LeO.ite ?_ ?_
      | refine LeO.bind ?_ (fun _ => ?_)
    · intro y0 y1 y2 y3 y4 y5 y6 y7 y8 y9 y10
      unfold signalboxref1_Encode.l2
      repeat' first
      | (with_reducible exact ih0 _ _ _ _ _ _ _ _ _ _ _)
      | (with_reducible exact ih1 _ _ _ _ _ _ _ _ _ _ _)
      | (with_reducible exact ih2 _ _ _ _ _ _ _ _ _ _ _)
      | (with_reducible exact ih3 _ _ _ _ _ _ _ _ _ _ _)
      | (with_reducible exact ih4 _ _ _ _ _ _ _ _ _ _ _ _)
      | (with_reducible exact ih5 _ _ _ _ _ _ _ _ _ _ _)
      | (with_reducible exact signalboxref1_May.mono _ _ _ _ _ _ _ _ _ _)
      | (with_reducible exact signalboxref1_put.mono _ _ _ _)
      | (with_reducible exact signalboxref1_puts.mono _ _ _)
      | (with_reducible exact LeO.refl _)
      | (with_reducible exact LeO.none _)
      | (with_reducible refine LeO.ite ?_ ?_)
      | (with_reducible refine LeO.bind ?_ (fun _ => ?_))
      | exact ih0 _ _ _ _ _ _ _ _ _ _ _
      | exact ih1 _ _ _ _ _ _ _ _ _ _ _
      | exact ih2 _ _ _ _ _ _ _ _ _ _ _
      | exact ih3 _ _ _ _ _ _ _ _ _ _ _
      | exact ih4 _ _ _ _ _ _ _ _ _ _ _ _
      | exact ih5 _ _ _ _ _ _ _ _ _ _ _
      | exact signalboxref1_May.mono _ _ _ _ _ _ _ _ _ _
      | exact signalboxref1_put.mono _ _ _ _
      | exact signalboxref1_puts.mono _ _ _
      | exact LeO.none _
      | refine LeO.ite ?_ ?_
      | refine LeO.bind ?_ (fun _ => ?_)
    · intro y0 y1 y2 y3 y4 y5 y6 y7 y8 y9 y10
      unfold signalboxref1_Encode.l3
      repeat' first
      | (with_reducible exact ih0 _ _ _ _ _ _ _ _ _ _ _)
      | (with_reducible exact ih1 _ _ _ _ _ _ _ _ _ _ _)
      | (with_reducible exact ih2 _ _ _ _ _ _ _ _ _ _ _)
      | (with_reducible exact ih3 _ _ _ _ _ _ _ _ _ _ _)
      | (with_reducible exact ih4 _ _ _ _ _ _ _ _ _ _ _ _)
      | (with_reducible exact ih5 _ _ _ _ _ _ _ _ _ _ _)
      | (with_reducible exact signalboxref1_May.mono _ _ _ _ _ _ _ _ _ _)
      | (with_reducible exact signalboxref1_put.mono _ _ _ _)
      | (with_reducible exact signalboxref1_puts.mono _ _ _)
      | (with_reducible exact LeO.refl _)
      | (with_reducible exact LeO.none _)
      | (with_reducible refine LeO.ite ?_ ?_)
      | (with_reducible refine LeO.bind ?_ (fun _ => ?_))
      | exact ih0 _ _ _ _ _ _ _ _ _ _ _
      | exact ih1 _ _ _ _ _ _ _ _ _ _ _
      | exact ih2 _ _ _ _ _ _ _ _ _ _ _
      | exact ih3 _ _ _ _ _ _ _ _ _ _ _
      | exact ih4 _ _ _ _ _ _ _ _ _ _ _ _
      | exact ih5 _ _ _ _ _ _ _ _ _ _ _
      | exact signalboxref1_May.mono _ _ _ _ _ _ _ _ _ _
      | exact signalboxref1_put.mono _ _ _ _
      | exact signalboxref1_puts.mono _ _ _
      | exact LeO.none _
      | refine LeO.ite ?_ ?_
      | refine LeO.bind ?_ (fun _ => ?_)
    · intro y0 y1 y2 y3 y4 y5 y6 y7 y8 y9 y10 y11
      unfold signalboxref1_Encode.l4
      repeat' first
      | (with_reducible exact ih0 _ _ _ _ _ _ _ _ _ _ _)
      | (with_reducible exact ih1 _ _ _ _ _ _ _ _ _ _ _)
      | (with_reducible exact ih2 _ _ _ _ _ _ _ _ _ _ _)
      | (with_reducible exact ih3 _ _ _ _ _ _ _ _ _ _ _)
      | (with_reducible exact ih4 _ _ _ _ _ _ _ _ _ _ _ _)
      | (with_reducible exact ih5 _ _ _ _ _ _ _ _ _ _ _)
      | (with_reducible exact signalboxref1_May.mono _ _ _ _ _ _ _ _ _ _)
      | (with_reducible exact signalboxref1_put.mono _ _ _ _)
      | (with_reducible exact signalboxref1_puts.mono _ _ _)
      | (with_reducible exact LeO.refl _)
      | (with_reducible exact LeO.none _)
      | (with_reducible refine LeO.ite ?_ ?_)
      | (with_reducible refine LeO.bind ?_ (fun _ => ?_))
      | exact ih0 _ _ _ _ _ _ _ _ _ _ _
      | exact ih1 _ _ _ _ _ _ _ _ _ _ _
      | exact ih2 _ _ _ _ _ _ _ _ _ _ _
      | exact ih3 _ _ _ _ _ _ _ _ _ _ _
      | exact ih4 _ _ _ _ _ _ _ _ _ _ _ _
      | exact ih5 _ _ _ _ _ _ _ _ _ _ _
      | exact signalboxref1_May.mono _ _ _ _ _ _ _ _ _ _
      | exact signalboxref1_put.mono _ _ _ _
      | exact signalboxref1_puts.mono _ _ _
      | exact LeO.none _
      | refine LeO.ite ?_ ?_
      | refine LeO.bind ?_ (fun _ => ?_)
    · intro y0 y1 y2 y3 y4 y5 y6 y7 y8 y9 y10
      unfold signalboxref1_Encode.l5
      repeat' first
      | (with_reducible exact ih0 _ _ _ _ _ _ _ _ _ _ _)
      | (with_reducible exact ih1 _ _ _ _ _ _ _ _ _ _ _)
      | (with_reducible exact ih2 _ _ _ _ _ _ _ _ _ _ _)
      | (with_reducible exact ih3 _ _ _ _ _ _ _ _ _ _ _)
      | (with_reducible exact ih4 _ _ _ _ _ _ _ _ _ _ _ _)
      | (with_reducible exact ih5 _ _ _ _ _ _ _ _ _ _ _)
      | (with_reducible exact signalboxref1_May.mono _ _ _ _ _ _ _ _ _ _)
      | (with_reducible exact signalboxref1_put.mono _ _ _ _)
      | (with_reducible exact signalboxref1_puts.mono _ _ _)
      | (with_reducible exact LeO.refl _)
      | (with_reducible exact LeO.none _)
      | (with_reducible refine LeO.ite ?_ ?_)
      | (with_reducible refine LeO.bind ?_ (fun _ => ?_))
      | exact ih0 _ _ _ _ _ _ _ _ _ _ _
      | exact ih1 _ _ _ _ _ _ _ _ _ _ _
      | exact ih2 _ _ _ _ _ _ _ _ _ _ _
      | exact ih3 _ _ _ _ _ _ _ _ _ _ _
      | exact ih4 _ _ _ _ _ _ _ _ _ _ _ _
      | exact ih5 _ _ _ _ _ _ _ _ _ _ _
      | exact signalboxref1_May.mono _ _ _ _ _ _ _ _ _ _
      | exact signalboxref1_put.mono _ _ _ _
      | exact signalboxref1_puts.mono _ _ _
      | exact LeO.none _
      | refine LeO.ite ?_ ?_
      | refine LeO.bind ?_ (fun _ => ?_)
theorem signalboxref1_Encode.mono : ∀ a0 a1 a2 a3 a4 a5 a6 a7 a8 k, LeO (signalboxref1_Encode.f k a0 a1 a2 a3 a4 a5 a6 a7 a8) (signalboxref1_Encode.f (k + 1) a0 a1 a2 a3 a4 a5 a6 a7 a8) := by
  intro a0 a1 a2 a3 a4 a5 a6 a7 a8 k
  obtain ⟨ih0, ih1, ih2, ih3, ih4, ih5⟩ := signalboxref1_Encode.mono_l k
  unfold signalboxref1_Encode.f
  repeat' first
      | (with_reducible exact ih0 _ _ _ _ _ _ _ _ _ _ _)
      | (with_reducible exact ih1 _ _ _ _ _ _ _ _ _ _ _)
      | (with_reducible exact ih2 _ _ _ _ _ _ _ _ _ _ _)
      | (with_reducible exact ih3 _ _ _ _ _ _ _ _ _ _ _)
      | (with_reducible exact ih4 _ _ _ _ _ _ _ _ _ _ _ _)
      | (with_reducible exact ih5 _ _ _ _ _ _ _ _ _ _ _)
      | (with_reducible exact signalboxref1_May.mono _ _ _ _ _ _ _ _ _ _)
      | (with_reducible exact signalboxref1_put.mono _ _ _ _)
      | (with_reducible exact signalboxref1_puts.mono _ _ _)
      | (with_reducible exact LeO.refl _)
      | (with_reducible exact LeO.none _)
      | (with_reducible refine LeO.ite ?_ ?_)
      | (with_reducible refine LeO.bind ?_ (fun _ => ?_))
      | exact ih0 _ _ _ _ _ _ _ _ _ _ _
      | exact ih1 _ _ _ _ _ _ _ _ _ _ _
      | exact ih2 _ _ _ _ _ _ _ _ _ _ _
      | exact ih3 _ _ _ _ _ _ _ _ _ _ _
      | exact ih4 _ _ _ _ _ _ _ _ _ _ _ _
      | exact ih5 _ _ _ _ _ _ _ _ _ _ _
      | exact signalboxref1_May.mono _ _ _ _ _ _ _ _ _ _
      | exact signalboxref1_put.mono _ _ _ _
      | exact signalboxref1_puts.mono _ _ _
      | exact LeO.none _
      | refine LeO.ite ?_ ?_
      | refine LeO.bind ?_ (fun _ => ?_)
def signalboxref1_Encode.T8 : Bool × List (List Nat × List Nat) := (true, [([], []), ([], []), ([1], [1]), ([], []), ([2, 3], [2, 3]), ([4], [4]), ([5], [5]), ([0, 6], [0, 6]), ([], []), ([8], [8]), ([], []), ([9, 10], [9, 10]), ([11], [11]), ([12], [12]), ([7, 13, 7], [7, 13]), ([], []), ([15], [15]), ([], []), ([16, 17], [16, 17]), ([18], [18]), ([19], [19]), ([14, 20, 14], [14, 20]), ([21, 21, 0, 1, 2, 3, 4, 5, 6, 7, 8, 9, 10, 11, 12, 13, 14, 15, 16, 17, 18, 19, 20, 21], [0, 21])])
def signalboxref1_Encode.B8 : List Nat := [0, 0, 2, 0, 14, 30, 62, 127, 0, 256, 0, 1792, 3840, 7936, 16383, 0, 32768, 0, 229376, 491520, 1015808, 2097151, 4194303]
theorem signalboxref1_Encode.tab8 : rtab .any (opsOf Try.f11 8) = signalboxref1_Encode.T8 := by kernel_rfl
theorem signalboxref1_Encode.bits8 : waitsOk signalboxref1_Encode.T8.2 signalboxref1_Encode.B8 = true := by kernel_rfl
def signalboxref1_Encode.T13 : Bool × List (List Nat × List Nat) := (true, [([], []), ([], []), ([1], [1]), ([], []), ([2, 3], [2, 3]), ([4], [4]), ([5], [5]), ([0, 6], [0, 6]), ([], []), ([8], [8]), ([], []), ([9, 10], [9, 10]), ([11], [11]), ([12], [12]), ([7, 13, 7], [7, 13]), ([], []), ([15], [15]), ([], []), ([16, 17], [16, 17]), ([18], [18]), ([19], [19]), ([14, 20, 14], [14, 20]), ([21, 21, 0, 1, 2, 3, 4, 5, 6, 7, 8, 9, 10, 11, 12, 13, 14, 15, 16, 17, 18, 19, 20, 21], [0, 21])])
def signalboxref1_Encode.B13 : List Nat := [0, 0, 2, 0, 14, 30, 62, 127, 0, 256, 0, 1792, 3840, 7936, 16383, 0, 32768, 0, 229376, 491520, 1015808, 2097151, 4194303]
theorem signalboxref1_Encode.tab13 : rtab .any (opsOf Try.f11 13) = signalboxref1_Encode.T13 := by kernel_rfl
theorem signalboxref1_Encode.bits13 : waitsOk signalboxref1_Encode.T13.2 signalboxref1_Encode.B13 = true := by kernel_rfl
def signalboxref1_Encode.T18 : Bool × List (List Nat × List Nat) := (true, [([], []), ([], []), ([1], [1]), ([], []), ([2, 3], [2, 3]), ([4], [4]), ([5], [5]), ([0, 6], [0, 6]), ([], []), ([8], [8]), ([], []), ([9, 10], [9, 10]), ([11], [11]), ([12], [12]), ([7, 13, 7], [7, 13]), ([14, 14, 0, 1, 2, 3, 4, 5, 6, 7, 8, 9, 10, 11, 12, 13, 14], [0, 14])])
def signalboxref1_Encode.B18 : List Nat := [0, 0, 2, 0, 14, 30, 62, 127, 0, 256, 0, 1792, 3840, 7936, 16383, 32767]
theorem signalboxref1_Encode.tab18 : rtab .any (opsOf Try.f11 18) = signalboxref1_Encode.T18 := by kernel_rfl
theorem signalboxref1_Encode.bits18 : waitsOk signalboxref1_Encode.T18.2 signalboxref1_Encode.B18 = true := by kernel_rfl
def signalboxref1_Encode.T20 : Bool × List (List Nat × List Nat) := (true, [([], []), ([], []), ([1], [1]), ([0, 2], [0, 2]), ([], []), ([4], [4]), ([3, 5, 3], [3, 5]), ([6, 6, 0, 1, 2, 3, 4, 5, 6], [0, 6])])
def signalboxref1_Encode.B20 : List Nat := [0, 0, 2, 7, 0, 16, 63, 127]
theorem signalboxref1_Encode.tab20 : rtab .any (opsOf Try.f11 20) = signalboxref1_Encode.T20 := by kernel_rfl
theorem signalboxref1_Encode.bits20 : waitsOk signalboxref1_Encode.T20.2 signalboxref1_Encode.B20 = true := by kernel_rfl
def signalboxref1_Encode.T33 : Bool × List (List Nat × List Nat) := (true, [([], []), ([], []), ([1], [1]), ([], []), ([2, 3], [2, 3]), ([4], [4]), ([5], [5]), ([0, 6], [0, 6]), ([], []), ([8], [8]), ([], []), ([9, 10], [9, 10]), ([11], [11]), ([12], [12]), ([7, 13, 7], [7, 13]), ([14, 14, 0, 1, 2, 3, 4, 5, 6, 7, 8, 9, 10, 11, 12, 13, 14], [0, 14])])
def signalboxref1_Encode.B33 : List Nat := [0, 0, 2, 0, 14, 30, 62, 127, 0, 256, 0, 1792, 3840, 7936, 16383, 32767]
theorem signalboxref1_Encode.tab33 : rtab .any (opsOf Try.f11 33) = signalboxref1_Encode.T33 := by kernel_rfl
theorem signalboxref1_Encode.bits33 : waitsOk signalboxref1_Encode.T33.2 signalboxref1_Encode.B33 = true := by kernel_rfl
set_option maxHeartbeats 8000000 in
set_option maxRecDepth 100000 in
theorem signalboxref1_Encode.calls (k : Nat) (A0_0 : Option Addr) (c0_0 : Nat) (l0_0 : List (S44)) (A0_1 : Option Addr) (c0_1 : Nat) (l0_1 : List (S46)) (A0_2 : Option Addr) (c0_2 : Nat) (l0_2 : List (S56)) (a0_3 : Int) (A0_4 : Option Addr) (c0_4 : Nat) (l0_4 : List Int) (A0_5 : Option Addr) (c0_5 : Nat) (l0_5 : List Int) (A0_6 : Option Addr) (c0_6 : Nat) (l0_6 : List (List Int)) (A0_7 : Option Addr) (c0_7 : Nat) (l0_7 : List (S65)) (a0_8 : Int) (r1 : List Int) (r2 : Int) (w : World) (hr0_0 : Kd.C k44 w A0_0 l0_0.length l0_0) (hc0_0 : l0_0.length ≤ c0_0) (hr0_1 : Kd.C k46 w A0_1 l0_1.length l0_1) (hc0_1 : l0_1.length ≤ c0_1) (hr0_2 : Kd.C k56 w A0_2 l0_2.length l0_2) (hc0_2 : l0_2.length ≤ c0_2) (hr0_4 : Kd.C (Kd.int .i64) w A0_4 l0_4.length l0_4) (hc0_4 : l0_4.length ≤ c0_4) (hr0_5 : Kd.C (Kd.int .i64) w A0_5 l0_5.length l0_5) (hc0_5 : l0_5.length ≤ c0_5) (hr0_6 : Kd.C (Kd.slice 3 (Kd.int .i64)) w A0_6 l0_6.length l0_6) (hc0_6 : l0_6.length ≤ c0_6) (hr0_7 : Kd.C k65 w A0_7 l0_7.length l0_7) (hc0_7 : l0_7.length ≤ c0_7) (h : signalboxref1_Encode.f k l0_0 l0_1 l0_2 a0_3 l0_4 l0_5 l0_6 l0_7 a0_8 = some (r1, r2)) :
    Calls Try.prog 11 #[.agg #[.slice A0_0 l0_0.length c0_0, .slice A0_1 l0_1.length c0_1, .slice A0_2 l0_2.length c0_2, .int .i64 a0_3, .slice A0_4 l0_4.length c0_4, .slice A0_5 l0_5.length c0_5, .slice A0_6 l0_6.length c0_6, .slice A0_7 l0_7.length c0_7, .int .i64 a0_8]] w fun e w' => ∃ v0_ : Value, e = .returned (.tuple #[v0_, .int .i64 r2]) ∧ Kd.R (Kd.int .u8) 5 w' w.heap.size (fun _ => True) v0_ r1 ∧ Below w.heap.size w w' := by
  have hu29 := Try.underlying29
  have HR0_0 := Aside0.mk hr0_0
  have HC0_0 := Aside0.mk hc0_0
  clear hr0_0 hc0_0
  have HR0_1 := Aside0.mk hr0_1
  have HC0_1 := Aside0.mk hc0_1
  clear hr0_1 hc0_1
  have HR0_2 := Aside0.mk hr0_2
  have HC0_2 := Aside0.mk hc0_2
  clear hr0_2 hc0_2
  have HR0_4 := Aside0.mk hr0_4
  have HC0_4 := Aside0.mk hc0_4
  clear hr0_4 hc0_4
  have HR0_5 := Aside0.mk hr0_5
  have HC0_5 := Aside0.mk hc0_5
  clear hr0_5 hc0_5
  have HR0_6 := Aside0.mk hr0_6
  have HC0_6 := Aside0.mk hc0_6
  clear hr0_6 hc0_6
  have HR0_7 := Aside0.mk hr0_7
  have HC0_7 := Aside0.mk hc0_7
  clear hr0_7 hc0_7
  have HB := Aside0.mk (Below.refl w.heap.size w)
  have H : ((signalboxref1_May.f k l0_0 l0_1 l0_2 a0_3 l0_4 l0_5 l0_6 l0_7 a0_8).bind fun t154 => (if t154 = true then ((signalboxref1_put.f k (([83, 66] : List Int)) (l0_0.length : Int) 2).bind fun t158 => (signalboxref1_Encode.l0 k t158 0 l0_0 l0_1 l0_2 a0_3 l0_4 l0_5 l0_6 l0_7 a0_8)) else (some (([] : List Int), 1)))) = some (r1, r2) := h
  clear h
  replace H := Option.bind_eq_some_iff.mp H
  obtain ⟨t154, A20, H⟩ := H
  replace H : (if t154 = true then ((signalboxref1_put.f k (([83, 66] : List Int)) (l0_0.length : Int) 2).bind fun t158 => (signalboxref1_Encode.l0 k t158 0 l0_0 l0_1 l0_2 a0_3 l0_4 l0_5 l0_6 l0_7 a0_8)) else (some (([] : List Int), 1))) = some (r1, r2) := H
  have A2 := Aside0.mk A20
  clear A20
  by_cases c3 : t154 = true
  · subst c3
    have H1 : ((signalboxref1_put.f k (([83, 66] : List Int)) (l0_0.length : Int) 2).bind fun t158 => (signalboxref1_Encode.l0 k t158 0 l0_0 l0_1 l0_2 a0_3 l0_4 l0_5 l0_6 l0_7 a0_8)) = some (r1, r2) := by rw [if_pos rfl] at H; exact H
    clear H
    have H := H1
    clear H1
    obtain ⟨y155, hy155⟩ : ∃ y_ : List Int, y_ = (([83, 66] : List Int)) := ⟨_, rfl⟩
    replace H : ((signalboxref1_put.f k y155 (l0_0.length : Int) 2).bind fun t158 => (signalboxref1_Encode.l0 k t158 0 l0_0 l0_1 l0_2 a0_3 l0_4 l0_5 l0_6 l0_7 a0_8)) = some (r1, r2) := by first | (rw [hy155]; with_reducible exact H) | (have H2_ := (Option.bind_some _ _).symm.trans H; rw [hy155]; with_reducible exact H2_) | (have H2_ := (Option.bind_some _ _).symm.trans H; with_reducible exact H2_) | with_reducible exact H | (rw [hy155]; exact H) | exact H
    have Ny155 := Aside0.mk hy155
    clear hy155
    replace H := Option.bind_eq_some_iff.mp H
    obtain ⟨t158, A40, H⟩ := H
    replace H : (signalboxref1_Encode.l0 k t158 0 l0_0 l0_1 l0_2 a0_3 l0_4 l0_5 l0_6 l0_7 a0_8) = some (r1, r2) := H
    have A4 := Aside0.mk A40
    clear A40
    have H' := Aside0.mk H
    clear H
    go_enter Try.func11, Try.ntmps11
    go_wp2_with (first | ((with_reducible refine gate_dst (N := 1) rfl ?_); refine box_event ?hg (N := 1) ?hd (cs := #[.slice A0_0 l0_0.length c0_0, .slice A0_1 l0_1.length c0_1, .slice A0_2 l0_2.length c0_2, .int .i64 a0_3, .slice A0_4 l0_4.length c0_4, .slice A0_5 l0_5.length c0_5, .slice A0_6 l0_6.length c0_6, .slice A0_7 l0_7.length c0_7, .int .i64 a0_8]) (t := 29) ?hr ?_; (case hd => rfl); (case hg => rfl); (case hr => first | (go_simp; done) | (go_simp; rfl)); intro gb153 hg w5 hbox hb; have n0_ := Aside0.mk (below_step (by repeat (first | (with_reducible first | exact HB.out | apply below_alloc | apply pw_below_drewN | apply below_drew1) | exact HB.out)) hb); have n1_ := Aside0.mk (hbox); have n2_ := Aside0.mk ((by rw [hg]; exact (below_size (by repeat (first | (with_reducible first | exact HB.out | apply below_alloc | apply pw_below_drewN | apply below_drew1) | exact HB.out))) : w.heap.size ≤ gb153)); have n3_ := Aside0.mk ((by rw [hg]; exact (below_size (by repeat (first | (with_reducible first | exact HB.out | apply below_alloc | apply pw_below_drewN | apply below_drew1) | exact HB.out))) : w.heap.size ≤ gb153)); clear HB; have HB := n0_; have BK153 := n1_; have GW153 := n2_; have GE153 := n3_; clear n0_ n1_ n2_ n3_; clear hb hbox hg; have hcz6_0 : w5.cell? ⟨gb153, 0, none⟩ = some (.slice A0_0 l0_0.length c0_0) := (blk_cell BK153.out 0).trans rfl; have hcz6_1 : w5.cell? ⟨gb153, 1, none⟩ = some (.slice A0_1 l0_1.length c0_1) := (blk_cell BK153.out 1).trans rfl; have hcz6_2 : w5.cell? ⟨gb153, 2, none⟩ = some (.slice A0_2 l0_2.length c0_2) := (blk_cell BK153.out 2).trans rfl; have hcz6_3 : w5.cell? ⟨gb153, 3, none⟩ = some (.int .i64 a0_3) := (blk_cell BK153.out 3).trans rfl; have hcz6_4 : w5.cell? ⟨gb153, 4, none⟩ = some (.slice A0_4 l0_4.length c0_4) := (blk_cell BK153.out 4).trans rfl; have hcz6_5 : w5.cell? ⟨gb153, 5, none⟩ = some (.slice A0_5 l0_5.length c0_5) := (blk_cell BK153.out 5).trans rfl; have hcz6_6 : w5.cell? ⟨gb153, 6, none⟩ = some (.slice A0_6 l0_6.length c0_6) := (blk_cell BK153.out 6).trans rfl; have hcz6_7 : w5.cell? ⟨gb153, 7, none⟩ = some (.slice A0_7 l0_7.length c0_7) := (blk_cell BK153.out 7).trans rfl; have hcz6_8 : w5.cell? ⟨gb153, 8, none⟩ = some (.int .i64 a0_8) := (blk_cell BK153.out 8).trans rfl; have hfz6_0 := blk_frozen BK153.out 0; have hfz6_1 := blk_frozen BK153.out 1; have hfz6_2 := blk_frozen BK153.out 2; have hfz6_3 := blk_frozen BK153.out 3; have hfz6_4 := blk_frozen BK153.out 4; have hfz6_5 := blk_frozen BK153.out 5; have hfz6_6 := blk_frozen BK153.out 6; have hfz6_7 := blk_frozen BK153.out 7; have hfz6_8 := blk_frozen BK153.out 8) | ((with_reducible refine gate_callee (f := 13) rfl ?_); refine goesL_ (some 12) rfl rfl Try.func13 (by kernel_rfl) rfl #[.agg #[.slice A0_0 l0_0.length c0_0, .slice A0_1 l0_1.length c0_1, .slice A0_2 l0_2.length c0_2, .int .i64 a0_3, .slice A0_4 l0_4.length c0_4, .slice A0_5 l0_5.length c0_5, .slice A0_6 l0_6.length c0_6, .slice A0_7 l0_7.length c0_7, .int .i64 a0_8]] rfl (by (try simp only [List.map_toArray, List.map_cons, List.map_nil]); first | done | rfl | (simp only [List.length_drop, List.length_take]; rfl)) ?_; (with_reducible refine (signalboxref1_May.calls k _ _ l0_0 _ _ l0_1 _ _ l0_2 a0_3 _ _ l0_4 _ _ l0_5 _ _ l0_6 _ _ l0_7 a0_8 true _ ?side1 ?side2 ?side3 ?side4 ?side5 ?side6 ?side7 ?side8 ?side9 ?side10 ?side11 ?side12 ?side13 ?side14 A2.out).mono ?_); (case side1 => repeat (first | exact (Kd.C_below HR0_0.out HB.out) | (with_reducible refine Kd.C_alloc ?_ _) | (with_reducible refine Kd.C_drewN ?_ _) | (with_reducible refine Kd.C_drew ?_))); (case side2 => exact HC0_0.out); (case side3 => repeat (first | exact (Kd.C_below HR0_1.out HB.out) | (with_reducible refine Kd.C_alloc ?_ _) | (with_reducible refine Kd.C_drewN ?_ _) | (with_reducible refine Kd.C_drew ?_))); (case side4 => exact HC0_1.out); (case side5 => repeat (first | exact (Kd.C_below HR0_2.out HB.out) | (with_reducible refine Kd.C_alloc ?_ _) | (with_reducible refine Kd.C_drewN ?_ _) | (with_reducible refine Kd.C_drew ?_))); (case side6 => exact HC0_2.out); (case side7 => repeat (first | exact (Kd.C_below HR0_4.out HB.out) | (with_reducible refine Kd.C_alloc ?_ _) | (with_reducible refine Kd.C_drewN ?_ _) | (with_reducible refine Kd.C_drew ?_))); (case side8 => exact HC0_4.out); (case side9 => repeat (first | exact (Kd.C_below HR0_5.out HB.out) | (with_reducible refine Kd.C_alloc ?_ _) | (with_reducible refine Kd.C_drewN ?_ _) | (with_reducible refine Kd.C_drew ?_))); (case side10 => exact HC0_5.out); (case side11 => repeat (first | exact (Kd.C_below HR0_6.out HB.out) | (with_reducible refine Kd.C_alloc ?_ _) | (with_reducible refine Kd.C_drewN ?_ _) | (with_reducible refine Kd.C_drew ?_))); (case side12 => exact HC0_6.out); (case side13 => repeat (first | exact (Kd.C_below HR0_7.out HB.out) | (with_reducible refine Kd.C_alloc ?_ _) | (with_reducible refine Kd.C_drewN ?_ _) | (with_reducible refine Kd.C_drew ?_))); (case side14 => exact HC0_7.out); rintro e w7 ⟨rfl, hb⟩; refine ⟨_, rfl, ?_⟩; have n0_ := Aside0.mk (blk_below (g := gb153) (o := .cells #[.slice A0_0 l0_0.length c0_0, .slice A0_1 l0_1.length c0_1, .slice A0_2 l0_2.length c0_2, .int .i64 a0_3, .slice A0_4 l0_4.length c0_4, .slice A0_5 l0_5.length c0_5, .slice A0_6 l0_6.length c0_6, .slice A0_7 l0_7.length c0_7, .int .i64 a0_8] 29 (0, 0)) (by (with_reducible repeat (first | refine blk_drewN ?_ _ | refine blk_drew ?_ | refine blk_alloc ?_ _)); exact BK153.out) hb); have n1_ := Aside0.mk (below_step (by repeat (first | (with_reducible first | exact HB.out | apply below_alloc | apply pw_below_drewN | apply below_drew1 | refine below_set ?_ GE153.out) | exact HB.out)) hb); clear BK153; clear HB; have BK153 := n0_; have HB := n1_; clear n0_ n1_; (try clear hb); (try clear hb2); (try clear hk); (try clear hi)) | ((with_reducible refine gate_dst (N := 14) rfl ?_); refine Kd.R_lit (Kd.int .u8) _ 5 ?hg (N := 14) ?hd (xs := ([83, 66] : List Int)) (inner := [.int .u8 83, .int .u8 66]) (ok := fun _ => True) (okp := fun _ => True) ?hr ?hp (fun _ hk => hk) trivial (Below.refl _ _) (Nat.le_refl _) (by simp) ?_; (case hd => rfl); (case hg => rfl); (case hr => first | (go_simp; done) | (go_simp; rfl)); (case hp => exact (Reps.one (show Kd.M (Kd.int .u8) _ _ _ 83 [.int .u8 83] from rfl) (Reps.one (show Kd.M (Kd.int .u8) _ _ _ 66 [.int .u8 66] from rfl) (Reps.none _ _)))); intro v156 w8 ho9 hb hg_ hnew_; clear hg_ hnew_; (first | rw [← Ny155.out] at ho9 | (simp only [Int.reduceToNat] at ho9; rw [← Ny155.out] at ho9)); have n0_ := Aside0.mk (Kd.R_lower ho9 (below_size (by repeat (first | (with_reducible first | exact HB.out | apply below_alloc | apply pw_below_drewN | apply below_drew1 | refine below_set ?_ GE153.out) | exact HB.out)))); have n1_ := Aside0.mk (blk_below (g := gb153) (o := .cells #[.slice A0_0 l0_0.length c0_0, .slice A0_1 l0_1.length c0_1, .slice A0_2 l0_2.length c0_2, .int .i64 a0_3, .slice A0_4 l0_4.length c0_4, .slice A0_5 l0_5.length c0_5, .slice A0_6 l0_6.length c0_6, .slice A0_7 l0_7.length c0_7, .int .i64 a0_8] 29 (0, 0)) (by (with_reducible repeat (first | refine blk_drewN ?_ _ | refine blk_drew ?_ | refine blk_alloc ?_ _)); exact BK153.out) hb); have n2_ := Aside0.mk (below_step (by repeat (first | (with_reducible first | exact HB.out | apply below_alloc | apply pw_below_drewN | apply below_drew1 | refine below_set ?_ GE153.out) | exact HB.out)) hb); clear BK153; clear HB; have HO157 := n0_; have BK153 := n1_; have HB := n2_; clear n0_ n1_ n2_; clear hb ho9; have hcz10_0 : w8.cell? ⟨gb153, 0, none⟩ = some (.slice A0_0 l0_0.length c0_0) := (blk_cell BK153.out 0).trans rfl; have hcz10_1 : w8.cell? ⟨gb153, 1, none⟩ = some (.slice A0_1 l0_1.length c0_1) := (blk_cell BK153.out 1).trans rfl; have hcz10_2 : w8.cell? ⟨gb153, 2, none⟩ = some (.slice A0_2 l0_2.length c0_2) := (blk_cell BK153.out 2).trans rfl; have hcz10_3 : w8.cell? ⟨gb153, 3, none⟩ = some (.int .i64 a0_3) := (blk_cell BK153.out 3).trans rfl; have hcz10_4 : w8.cell? ⟨gb153, 4, none⟩ = some (.slice A0_4 l0_4.length c0_4) := (blk_cell BK153.out 4).trans rfl; have hcz10_5 : w8.cell? ⟨gb153, 5, none⟩ = some (.slice A0_5 l0_5.length c0_5) := (blk_cell BK153.out 5).trans rfl; have hcz10_6 : w8.cell? ⟨gb153, 6, none⟩ = some (.slice A0_6 l0_6.length c0_6) := (blk_cell BK153.out 6).trans rfl; have hcz10_7 : w8.cell? ⟨gb153, 7, none⟩ = some (.slice A0_7 l0_7.length c0_7) := (blk_cell BK153.out 7).trans rfl; have hcz10_8 : w8.cell? ⟨gb153, 8, none⟩ = some (.int .i64 a0_8) := (blk_cell BK153.out 8).trans rfl; have hfz10_0 := blk_frozen BK153.out 0; have hfz10_1 := blk_frozen BK153.out 1; have hfz10_2 := blk_frozen BK153.out 2; have hfz10_3 := blk_frozen BK153.out 3; have hfz10_4 := blk_frozen BK153.out 4; have hfz10_5 := blk_frozen BK153.out 5; have hfz10_6 := blk_frozen BK153.out 6; have hfz10_7 := blk_frozen BK153.out 7; have hfz10_8 := blk_frozen BK153.out 8; obtain ⟨Ao11, co11, eo11⟩ := Kd.R_slice HO157.out; subst eo11) | ((with_reducible refine gate_callee (f := 32) rfl ?_); refine goesL_ (some 19) rfl rfl Try.func32 (by kernel_rfl) rfl #[.slice Ao11 y155.length co11, .int .i64 (l0_0.length : Int), .int .i64 2] rfl (by (try simp only [List.map_toArray, List.map_cons, List.map_nil]); first | done | rfl | (simp only [List.length_drop, List.length_take]; rfl)) ?_; (with_reducible refine (signalboxref1_put.calls k (fun k_ => some k_ = (.slice Ao11 y155.length co11 : Value).ownBlock) (.slice Ao11 y155.length co11) y155 (l0_0.length : Int) 2 t158 w _ ?side1 ?side2 A4.out).mono ?_); (case side1 => repeat (first | (with_reducible first | exact HB.out | apply below_alloc | apply pw_below_drewN | apply below_drew1 | refine below_set ?_ GE153.out) | exact HB.out)); (case side2 => exact Kd.R_tight rfl HO157.out); rintro e w12 ⟨v159, rfl, ho0, hb, hkp⟩; refine ⟨_, rfl, ?_⟩; have n0_ := Aside0.mk (blk_kept (by (with_reducible repeat (first | refine blk_drewN ?_ _ | refine blk_drew ?_ | refine blk_alloc ?_ _)); exact BK153.out) hkp (fun hs_ => (fun e_ => (Kd.R_ne HO157.out BK153.out (by decide)) e_) hs_)); have n1_ := Aside0.mk (Kd.R_mono (ok' := fun k_ => True) ho0 (fun k_ hk_ => trivial)); have n2_ := Aside0.mk (hb); clear BK153; clear HB; clear HO157; have BK153 := n0_; have HO160 := n1_; have HB := n2_; clear n0_ n1_ n2_; (try clear hb); (try clear hkp); (try clear ho0)))
    go_loopg [4, 5] k (fun kq v4 v5 w' => ∃ (x4_1 : List Int) (x5_1 : Int), v5 = .int .i64 x5_1 ∧ Aside0 (signalboxref1_Encode.l0 kq x4_1 x5_1 l0_0 l0_1 l0_2 a0_3 l0_4 l0_5 l0_6 l0_7 a0_8 = some (r1, r2)) ∧ Aside0 (kq ≤ k) ∧ Aside0 (Kd.R (Kd.int .u8) 5 w' w.heap.size (fun _ => True) v4 x4_1) ∧ Aside0 (w'.heap[gb153]? = some (.cells #[(.slice A0_0 l0_0.length c0_0), (.slice A0_1 l0_1.length c0_1), (.slice A0_2 l0_2.length c0_2), .int .i64 a0_3, (.slice A0_4 l0_4.length c0_4), (.slice A0_5 l0_5.length c0_5), (.slice A0_6 l0_6.length c0_6), (.slice A0_7 l0_7.length c0_7), .int .i64 a0_8] 29 (0, 0))) ∧ Aside0 (Below w.heap.size w w'))
    case atStart => exact ⟨(t158), (0), (by first | rfl | (simp; done) | (simp [*]; done)), H', ⟨Nat.le_refl _⟩, ⟨by (with_reducible repeat (first | apply Kd.R_alloc | apply Kd.R_drewN | apply Kd.R_drew)); exact HO160.out⟩, ⟨by (with_reducible repeat (first | refine blk_drewN ?_ _ | refine blk_drew ?_ | refine blk_alloc ?_ _)); exact BK153.out⟩, ⟨by repeat (first | (with_reducible first | exact HB.out | apply below_alloc | apply pw_below_drewN | apply below_drew1 | refine below_set ?_ GE153.out) | exact HB.out)⟩⟩
    case round =>
      clear H'
      try clear c1
      try clear p2
      try clear c3
      try clear c11
      try clear hcz10_0
      try clear hcz10_1
      try clear hcz10_2
      try clear hcz10_3
      try clear hcz10_4
      try clear hcz10_5
      try clear hcz10_6
      try clear hcz10_7
      try clear hcz10_8
      try clear hcz6_0
      try clear hcz6_1
      try clear hcz6_2
      try clear hcz6_3
      try clear hcz6_4
      try clear hcz6_5
      try clear hcz6_6
      try clear hcz6_7
      try clear hcz6_8
      try clear hfz10_0
      try clear hfz10_1
      try clear hfz10_2
      try clear hfz10_3
      try clear hfz10_4
      try clear hfz10_5
      try clear hfz10_6
      try clear hfz10_7
      try clear hfz10_8
      try clear hfz6_0
      try clear hfz6_1
      try clear hfz6_2
      try clear hfz6_3
      try clear hfz6_4
      try clear hfz6_5
      try clear hfz6_6
      try clear hfz6_7
      try clear hfz6_8
      obtain ⟨x4_1, x5_1, rfl, HA, HK1, HO_4, BK153, HB⟩ := hrel
      cases gk with
      | zero => exact absurd HA.out (by simp [signalboxref1_Encode.l0])
      | succ k1 =>
        have H := HA.out
        clear HA
        simp only [signalboxref1_Encode.l0] at H
        by_cases c13 : x5_1 < (l0_0.length : Int)
        · rw [if_pos c13] at H
          have c13b0 : decide (x5_1 < (l0_0.length : Int)) = true := decide_eq_true c13
          clear c13
          by_cases c14 : 0 ≤ x5_1
          · rw [if_pos c14] at H
            have c14b0 : decide (0 ≤ x5_1) = true := decide_eq_true c14
            clear c14
            replace H := Option.bind_eq_some_iff.mp H
            obtain ⟨t162, A150, H⟩ := H
            replace H : ((signalboxref1_put.f k1 t162 ((rd_T44 l0_0 x5_1).f1) 8).bind fun t166 => ((signalboxref1_put.f k1 t166 ((rd_T44 l0_0 x5_1).f2) 8).bind fun t170 => (signalboxref1_Encode.l0 k1 t170 (wrap64 (x5_1 + 1)) l0_0 l0_1 l0_2 a0_3 l0_4 l0_5 l0_6 l0_7 a0_8))) = some (r1, r2) := H
            have A15 := Aside0.mk A150
            clear A150
            replace H := Option.bind_eq_some_iff.mp H
            obtain ⟨t166, A160, H⟩ := H
            replace H : ((signalboxref1_put.f k1 t166 ((rd_T44 l0_0 x5_1).f2) 8).bind fun t170 => (signalboxref1_Encode.l0 k1 t170 (wrap64 (x5_1 + 1)) l0_0 l0_1 l0_2 a0_3 l0_4 l0_5 l0_6 l0_7 a0_8)) = some (r1, r2) := H
            have A16 := Aside0.mk A160
            clear A160
            replace H := Option.bind_eq_some_iff.mp H
            obtain ⟨t170, A170, H⟩ := H
            replace H : (signalboxref1_Encode.l0 k1 t170 (wrap64 (x5_1 + 1)) l0_0 l0_1 l0_2 a0_3 l0_4 l0_5 l0_6 l0_7 a0_8) = some (r1, r2) := H
            have A17 := Aside0.mk A170
            clear A170
            have H' := Aside0.mk H
            clear H
            have hcz18_0 : wr.cell? ⟨gb153, 0, none⟩ = some (.slice A0_0 l0_0.length c0_0) := (blk_cell BK153.out 0).trans rfl
            have hcz18_1 : wr.cell? ⟨gb153, 1, none⟩ = some (.slice A0_1 l0_1.length c0_1) := (blk_cell BK153.out 1).trans rfl
            have hcz18_2 : wr.cell? ⟨gb153, 2, none⟩ = some (.slice A0_2 l0_2.length c0_2) := (blk_cell BK153.out 2).trans rfl
            have hcz18_3 : wr.cell? ⟨gb153, 3, none⟩ = some (.int .i64 a0_3) := (blk_cell BK153.out 3).trans rfl
            have hcz18_4 : wr.cell? ⟨gb153, 4, none⟩ = some (.slice A0_4 l0_4.length c0_4) := (blk_cell BK153.out 4).trans rfl
            have hcz18_5 : wr.cell? ⟨gb153, 5, none⟩ = some (.slice A0_5 l0_5.length c0_5) := (blk_cell BK153.out 5).trans rfl
            have hcz18_6 : wr.cell? ⟨gb153, 6, none⟩ = some (.slice A0_6 l0_6.length c0_6) := (blk_cell BK153.out 6).trans rfl
            have hcz18_7 : wr.cell? ⟨gb153, 7, none⟩ = some (.slice A0_7 l0_7.length c0_7) := (blk_cell BK153.out 7).trans rfl
            have hcz18_8 : wr.cell? ⟨gb153, 8, none⟩ = some (.int .i64 a0_8) := (blk_cell BK153.out 8).trans rfl
            have hfz18_0 := blk_frozen BK153.out 0
            have hfz18_1 := blk_frozen BK153.out 1
            have hfz18_2 := blk_frozen BK153.out 2
            have hfz18_3 := blk_frozen BK153.out 3
            have hfz18_4 := blk_frozen BK153.out 4
            have hfz18_5 := blk_frozen BK153.out 5
            have hfz18_6 := blk_frozen BK153.out 6
            have hfz18_7 := blk_frozen BK153.out 7
            have hfz18_8 := blk_frozen BK153.out 8
            try go_wp2
            have n0_ := Aside0.mk (Kd.R_drew HO_4.out)
            have n1_ := Aside0.mk (blk_drew BK153.out)
            have n2_ := Aside0.mk (below_drew1 HB.out)
            clear HO_4
            clear BK153
            clear HB
            have HO_4 := n0_
            have BK153 := n1_
            have HB := n2_
            clear n0_ n1_ n2_
            have p161 : 0 ≤ (x5_1 : Int) := of_decide_eq_true (by first | (with_reducible assumption) | assumption)
            have q161 : x5_1 < (l0_0.length : Int) := of_decide_eq_true (by first | (with_reducible assumption) | assumption)
            obtain ⟨ad161, e161, hx161_0, hx161_1, hx161_2⟩ := at_T44 HR0_0.out x5_1 p161 q161
            have hw161_2 := hx161_2
            have hw161_1 := hx161_1
            have hw161_0 := hx161_0
            cases e161
            replace hx161_0 := (HB.out.cell (World.block_lt_of_cell? w _ hx161_0)).trans hx161_0
            replace hx161_1 := (HB.out.cell (World.block_lt_of_cell? w _ hx161_1)).trans hx161_1
            replace hx161_2 := (HB.out.cell (World.block_lt_of_cell? w _ hx161_2)).trans hx161_2
            replace p161 := eq_true p161
            replace q161 := eq_true q161
            have p165 : 0 ≤ (x5_1 : Int) := of_decide_eq_true (by first | (with_reducible assumption) | assumption)
            have q165 : x5_1 < (l0_0.length : Int) := of_decide_eq_true (by first | (with_reducible assumption) | assumption)
            obtain ⟨ad165, e165, hx165_0, hx165_1, hx165_2⟩ := at_T44 HR0_0.out x5_1 p165 q165
            have hw165_2 := hx165_2
            have hw165_1 := hx165_1
            have hw165_0 := hx165_0
            obtain rfl : ad161 = ad165 := (by injection e165)
            replace hx165_0 := (HB.out.cell (World.block_lt_of_cell? w _ hx165_0)).trans hx165_0
            replace hx165_1 := (HB.out.cell (World.block_lt_of_cell? w _ hx165_1)).trans hx165_1
            replace hx165_2 := (HB.out.cell (World.block_lt_of_cell? w _ hx165_2)).trans hx165_2
            replace p165 := eq_true p165
            replace q165 := eq_true q165
            have p169 : 0 ≤ (x5_1 : Int) := of_decide_eq_true (by first | (with_reducible assumption) | assumption)
            have q169 : x5_1 < (l0_0.length : Int) := of_decide_eq_true (by first | (with_reducible assumption) | assumption)
            obtain ⟨ad169, e169, hx169_0, hx169_1, hx169_2⟩ := at_T44 HR0_0.out x5_1 p169 q169
            have hw169_2 := hx169_2
            have hw169_1 := hx169_1
            have hw169_0 := hx169_0
            obtain rfl : ad161 = ad169 := (by injection e169)
            replace hx169_0 := (HB.out.cell (World.block_lt_of_cell? w _ hx169_0)).trans hx169_0
            replace hx169_1 := (HB.out.cell (World.block_lt_of_cell? w _ hx169_1)).trans hx169_1
            replace hx169_2 := (HB.out.cell (World.block_lt_of_cell? w _ hx169_2)).trans hx169_2
            replace p169 := eq_true p169
            replace q169 := eq_true q169
            obtain ⟨Ao20, co20, eo20⟩ := Kd.R_slice HO_4.out
            (first | subst eo20 | (injection eo20 with f1_ f2_ f3_; have f4_ := f1_.symm; have f5_ := f3_.symm; clear f1_ f2_ f3_; subst f4_; subst f5_))
            refine start_ (n := 23) (S := fun w' => w'.cell? ⟨gb153, 0, none⟩ = some (.slice (some ad161) l0_0.length c0_0) ∧ w'.cell? ⟨gb153, 1, none⟩ = some (.slice A0_1 l0_1.length c0_1) ∧ w'.cell? ⟨gb153, 2, none⟩ = some (.slice A0_2 l0_2.length c0_2) ∧ w'.cell? ⟨gb153, 3, none⟩ = some (.int .i64 a0_3) ∧ w'.cell? ⟨gb153, 4, none⟩ = some (.slice A0_4 l0_4.length c0_4) ∧ w'.cell? ⟨gb153, 5, none⟩ = some (.slice A0_5 l0_5.length c0_5) ∧ w'.cell? ⟨gb153, 6, none⟩ = some (.slice A0_6 l0_6.length c0_6) ∧ w'.cell? ⟨gb153, 7, none⟩ = some (.slice A0_7 l0_7.length c0_7) ∧ w'.cell? ⟨gb153, 8, none⟩ = some (.int .i64 a0_8) ∧ w'.cell? (ad161.add ((x5_1).toNat * 3)) = some (.int .i64 ((rd_T44 l0_0 x5_1).f0)) ∧ w'.cell? ⟨(ad161.add ((x5_1).toNat * 3)).block, (ad161.add ((x5_1).toNat * 3)).off + 1, none⟩ = some (.int .i64 ((rd_T44 l0_0 x5_1).f1)) ∧ w'.cell? ⟨(ad161.add ((x5_1).toNat * 3)).block, (ad161.add ((x5_1).toNat * 3)).off + 2, none⟩ = some (.int .i64 ((rd_T44 l0_0 x5_1).f2)) ∧ w'.cell? (ad161.add ((x5_1).toNat * 3)) = some (.int .i64 ((rd_T44 l0_0 x5_1).f0)) ∧ w'.cell? ⟨(ad161.add ((x5_1).toNat * 3)).block, (ad161.add ((x5_1).toNat * 3)).off + 1, none⟩ = some (.int .i64 ((rd_T44 l0_0 x5_1).f1)) ∧ w'.cell? ⟨(ad161.add ((x5_1).toNat * 3)).block, (ad161.add ((x5_1).toNat * 3)).off + 2, none⟩ = some (.int .i64 ((rd_T44 l0_0 x5_1).f2)) ∧ w'.cell? (ad161.add ((x5_1).toNat * 3)) = some (.int .i64 ((rd_T44 l0_0 x5_1).f0)) ∧ w'.cell? ⟨(ad161.add ((x5_1).toNat * 3)).block, (ad161.add ((x5_1).toNat * 3)).off + 1, none⟩ = some (.int .i64 ((rd_T44 l0_0 x5_1).f1)) ∧ w'.cell? ⟨(ad161.add ((x5_1).toNat * 3)).block, (ad161.add ((x5_1).toNat * 3)).off + 2, none⟩ = some (.int .i64 ((rd_T44 l0_0 x5_1).f2))) (ds := []) #[false, false, false, false, false, false, false, false, false, false, false, false, false, false, false, false, false, false, false, false, false, false, false] (by kernel_rfl) rfl rfl ⟨(blk_cell BK153.out 0).trans rfl, (blk_cell BK153.out 1).trans rfl, (blk_cell BK153.out 2).trans rfl, (blk_cell BK153.out 3).trans rfl, (blk_cell BK153.out 4).trans rfl, (blk_cell BK153.out 5).trans rfl, (blk_cell BK153.out 6).trans rfl, (blk_cell BK153.out 7).trans rfl, (blk_cell BK153.out 8).trans rfl, ((HB.out.cell (World.block_lt_of_cell? w _ hw161_0)).trans hw161_0), ((HB.out.cell (World.block_lt_of_cell? w _ hw161_1)).trans hw161_1), ((HB.out.cell (World.block_lt_of_cell? w _ hw161_2)).trans hw161_2), ((HB.out.cell (World.block_lt_of_cell? w _ hw165_0)).trans hw165_0), ((HB.out.cell (World.block_lt_of_cell? w _ hw165_1)).trans hw165_1), ((HB.out.cell (World.block_lt_of_cell? w _ hw165_2)).trans hw165_2), ((HB.out.cell (World.block_lt_of_cell? w _ hw169_0)).trans hw169_0), ((HB.out.cell (World.block_lt_of_cell? w _ hw169_1)).trans hw169_1), ((HB.out.cell (World.block_lt_of_cell? w _ hw169_2)).trans hw169_2)⟩ (fun hHeld => ?_); refine with_tabW signalboxref1_Encode.tab8 signalboxref1_Encode.bits8 (fun HT_ HW_ => ?_)
            generalize wr.drew = w19 at HO_4 BK153 HB hx161_0 hx161_1 hx161_2 hx165_0 hx165_1 hx165_2 hx169_0 hx169_1 hx169_2 hHeld ⊢
            refine pure_ (i := 0) (N := some 27) (v := ?_) (a' := ?_) #[true, false, false, false, false, false, false, false, false, false, false, false, false, false, false, false, false, false, false, false, false, false, false] rfl rfl (any_of HT_.out (by kernel_rfl)) (fun _ _ _ h => h) (Or.inl ⟨by rfl, ?_⟩) ?_ ?_
            rotate_left
            · intro w'
              go_simp
              with_reducible rfl
            rotate_left
            · simp only [Act.put, List.setIfInBounds_toArray, List.set_cons_zero, List.set_cons_succ, i64_w, i32_w]
              rfl
            refine pure_ (i := 1) (N := some 28) (v := ?_) (a' := ?_) #[true, true, false, false, false, false, false, false, false, false, false, false, false, false, false, false, false, false, false, false, false, false, false] rfl rfl (any_of HT_.out (by kernel_rfl)) (fun _ _ _ h => h) (Or.inl ⟨by rfl, ?_⟩) ?_ ?_
            rotate_left
            · intro w'
              go_simp
              with_reducible rfl
            rotate_left
            · simp only [Act.put, List.setIfInBounds_toArray, List.set_cons_zero, List.set_cons_succ, i64_w, i32_w]
              rfl
            refine pure_ (i := 3) (N := some 30) (v := ?_) (a' := ?_) #[true, true, false, true, false, false, false, false, false, false, false, false, false, false, false, false, false, false, false, false, false, false, false] rfl rfl (any_of HT_.out (by kernel_rfl)) (fun _ _ _ h => h) (Or.inl ⟨by rfl, ?_⟩) ?_ ?_
            rotate_left
            · intro w'
              go_simp
              with_reducible rfl
            rotate_left
            · simp only [Act.put, List.setIfInBounds_toArray, List.set_cons_zero, List.set_cons_succ, i64_w, i32_w]
              rfl
            refine pure_ (i := 8) (N := some 35) (v := ?_) (a' := ?_) #[true, true, false, true, false, false, false, false, true, false, false, false, false, false, false, false, false, false, false, false, false, false, false] rfl rfl (any_of HT_.out (by kernel_rfl)) (fun _ _ _ h => h) (Or.inl ⟨by rfl, ?_⟩) ?_ ?_
            rotate_left
            · intro w'
              go_simp
              with_reducible rfl
            rotate_left
            · simp only [Act.put, List.setIfInBounds_toArray, List.set_cons_zero, List.set_cons_succ, i64_w, i32_w]
              rfl
            refine pure_ (i := 10) (N := some 37) (v := ?_) (a' := ?_) #[true, true, false, true, false, false, false, false, true, false, true, false, false, false, false, false, false, false, false, false, false, false, false] rfl rfl (any_of HT_.out (by kernel_rfl)) (fun _ _ _ h => h) (Or.inl ⟨by rfl, ?_⟩) ?_ ?_
            rotate_left
            · intro w'
              go_simp
              with_reducible rfl
            rotate_left
            · simp only [Act.put, List.setIfInBounds_toArray, List.set_cons_zero, List.set_cons_succ, i64_w, i32_w]
              rfl
            refine pure_ (i := 15) (N := some 42) (v := ?_) (a' := ?_) #[true, true, false, true, false, false, false, false, true, false, true, false, false, false, false, true, false, false, false, false, false, false, false] rfl rfl (any_of HT_.out (by kernel_rfl)) (fun _ _ _ h => h) (Or.inl ⟨by rfl, ?_⟩) ?_ ?_
            rotate_left
            · intro w'
              go_simp
              with_reducible rfl
            rotate_left
            · simp only [Act.put, List.setIfInBounds_toArray, List.set_cons_zero, List.set_cons_succ, i64_w, i32_w]
              rfl
            refine pure_ (i := 17) (N := some 44) (v := ?_) (a' := ?_) #[true, true, false, true, false, false, false, false, true, false, true, false, false, false, false, true, false, true, false, false, false, false, false] rfl rfl (any_of HT_.out (by kernel_rfl)) (fun _ _ _ h => h) (Or.inl ⟨by rfl, ?_⟩) ?_ ?_
            rotate_left
            · intro w'
              go_simp
              with_reducible rfl
            rotate_left
            · simp only [Act.put, List.setIfInBounds_toArray, List.set_cons_zero, List.set_cons_succ, i64_w, i32_w]
              rfl
            refine take_ (i := 2) (N := some 29) (v := ?_) (a' := ?_) #[true, true, true, true, false, false, false, false, true, false, true, false, false, false, false, true, false, true, false, false, false, false, false] rfl rfl (take_ofW HT_.out HW_.out (by kernel_rfl)) (fun _ _ _ h => h) (Or.inl ⟨by rfl, ?_⟩) hHeld ?_ ?_
            rotate_left
            · rintro w' ⟨s0, s1, s2, s3, s4, s5, s6, s7, s8, s9, s10, s11, s12, s13, s14, s15, s16, s17⟩
              go_simp
              with_reducible rfl
            rotate_left
            · simp only [Act.put, List.setIfInBounds_toArray, List.set_cons_zero, List.set_cons_succ, i64_w, i32_w]
              rfl
            refine pure_ (i := 4) (N := some 31) (v := ?_) (a' := ?_) #[true, true, true, true, true, false, false, false, true, false, true, false, false, false, false, true, false, true, false, false, false, false, false] rfl rfl (any_of HT_.out (by kernel_rfl)) (fun _ _ _ h => h) (Or.inl ⟨by rfl, ?_⟩) ?_ ?_
            rotate_left
            · intro w'
              go_simp
              with_reducible rfl
            rotate_left
            · simp only [Act.put, List.setIfInBounds_toArray, List.set_cons_zero, List.set_cons_succ, i64_w, i32_w]
              rfl
            refine pure_ (i := 5) (N := some 32) (v := ?_) (a' := ?_) #[true, true, true, true, true, true, false, false, true, false, true, false, false, false, false, true, false, true, false, false, false, false, false] rfl rfl (any_of HT_.out (by kernel_rfl)) (fun _ _ _ h => h) (Or.inl ⟨by rfl, ?_⟩) ?_ ?_
            rotate_left
            · intro w'
              go_simp
              with_reducible rfl
            rotate_left
            · simp only [Act.put, List.setIfInBounds_toArray, List.set_cons_zero, List.set_cons_succ, i64_w, i32_w]
              rfl
            refine take_ (i := 6) (N := some 33) (v := ?_) (a' := ?_) #[true, true, true, true, true, true, true, false, true, false, true, false, false, false, false, true, false, true, false, false, false, false, false] rfl rfl (take_ofW HT_.out HW_.out (by kernel_rfl)) (fun _ _ _ h => h) (Or.inl ⟨by rfl, ?_⟩) hHeld ?_ ?_
            rotate_left
            · rintro w' ⟨s0, s1, s2, s3, s4, s5, s6, s7, s8, s9, s10, s11, s12, s13, s14, s15, s16, s17⟩
              go_simp
              with_reducible rfl
            rotate_left
            · simp only [Act.put, List.setIfInBounds_toArray, List.set_cons_zero, List.set_cons_succ, i64_w, i32_w]
              rfl
            refine take_ (i := 9) (N := some 36) (v := ?_) (a' := ?_) #[true, true, true, true, true, true, true, false, true, true, true, false, false, false, false, true, false, true, false, false, false, false, false] rfl rfl (take_ofW HT_.out HW_.out (by kernel_rfl)) (fun _ _ _ h => h) (Or.inl ⟨by rfl, ?_⟩) hHeld ?_ ?_
            rotate_left
            · rintro w' ⟨s0, s1, s2, s3, s4, s5, s6, s7, s8, s9, s10, s11, s12, s13, s14, s15, s16, s17⟩
              go_simp
              with_reducible rfl
            rotate_left
            · simp only [Act.put, List.setIfInBounds_toArray, List.set_cons_zero, List.set_cons_succ, i64_w, i32_w]
              rfl
            refine pure_ (i := 11) (N := some 38) (v := ?_) (a' := ?_) #[true, true, true, true, true, true, true, false, true, true, true, true, false, false, false, true, false, true, false, false, false, false, false] rfl rfl (any_of HT_.out (by kernel_rfl)) (fun _ _ _ h => h) (Or.inl ⟨by rfl, ?_⟩) ?_ ?_
            rotate_left
            · intro w'
              go_simp
              with_reducible rfl
            rotate_left
            · simp only [Act.put, List.setIfInBounds_toArray, List.set_cons_zero, List.set_cons_succ, i64_w, i32_w]
              rfl
            refine pure_ (i := 12) (N := some 39) (v := ?_) (a' := ?_) #[true, true, true, true, true, true, true, false, true, true, true, true, true, false, false, true, false, true, false, false, false, false, false] rfl rfl (any_of HT_.out (by kernel_rfl)) (fun _ _ _ h => h) (Or.inl ⟨by rfl, ?_⟩) ?_ ?_
            rotate_left
            · intro w'
              go_simp
              with_reducible rfl
            rotate_left
            · simp only [Act.put, List.setIfInBounds_toArray, List.set_cons_zero, List.set_cons_succ, i64_w, i32_w]
              rfl
            refine take_ (i := 13) (N := some 40) (v := ?_) (a' := ?_) #[true, true, true, true, true, true, true, false, true, true, true, true, true, true, false, true, false, true, false, false, false, false, false] rfl rfl (take_ofW HT_.out HW_.out (by kernel_rfl)) (fun _ _ _ h => h) (Or.inl ⟨by rfl, ?_⟩) hHeld ?_ ?_
            rotate_left
            · rintro w' ⟨s0, s1, s2, s3, s4, s5, s6, s7, s8, s9, s10, s11, s12, s13, s14, s15, s16, s17⟩
              go_simp
              with_reducible rfl
            rotate_left
            · simp only [Act.put, List.setIfInBounds_toArray, List.set_cons_zero, List.set_cons_succ, i64_w, i32_w]
              rfl
            refine take_ (i := 16) (N := some 43) (v := ?_) (a' := ?_) #[true, true, true, true, true, true, true, false, true, true, true, true, true, true, false, true, true, true, false, false, false, false, false] rfl rfl (take_ofW HT_.out HW_.out (by kernel_rfl)) (fun _ _ _ h => h) (Or.inl ⟨by rfl, ?_⟩) hHeld ?_ ?_
            rotate_left
            · rintro w' ⟨s0, s1, s2, s3, s4, s5, s6, s7, s8, s9, s10, s11, s12, s13, s14, s15, s16, s17⟩
              go_simp
              with_reducible rfl
            rotate_left
            · simp only [Act.put, List.setIfInBounds_toArray, List.set_cons_zero, List.set_cons_succ, i64_w, i32_w]
              rfl
            refine pure_ (i := 18) (N := some 45) (v := ?_) (a' := ?_) #[true, true, true, true, true, true, true, false, true, true, true, true, true, true, false, true, true, true, true, false, false, false, false] rfl rfl (any_of HT_.out (by kernel_rfl)) (fun _ _ _ h => h) (Or.inl ⟨by rfl, ?_⟩) ?_ ?_
            rotate_left
            · intro w'
              go_simp
              with_reducible rfl
            rotate_left
            · simp only [Act.put, List.setIfInBounds_toArray, List.set_cons_zero, List.set_cons_succ, i64_w, i32_w]
              rfl
            refine pure_ (i := 19) (N := some 46) (v := ?_) (a' := ?_) #[true, true, true, true, true, true, true, false, true, true, true, true, true, true, false, true, true, true, true, true, false, false, false] rfl rfl (any_of HT_.out (by kernel_rfl)) (fun _ _ _ h => h) (Or.inl ⟨by rfl, ?_⟩) ?_ ?_
            rotate_left
            · intro w'
              go_simp
              with_reducible rfl
            rotate_left
            · simp only [Act.put, List.setIfInBounds_toArray, List.set_cons_zero, List.set_cons_succ, i64_w, i32_w]
              rfl
            refine take_ (i := 20) (N := some 47) (v := ?_) (a' := ?_) #[true, true, true, true, true, true, true, false, true, true, true, true, true, true, false, true, true, true, true, true, true, false, false] rfl rfl (take_ofW HT_.out HW_.out (by kernel_rfl)) (fun _ _ _ h => h) (Or.inl ⟨by rfl, ?_⟩) hHeld ?_ ?_
            rotate_left
            · rintro w' ⟨s0, s1, s2, s3, s4, s5, s6, s7, s8, s9, s10, s11, s12, s13, s14, s15, s16, s17⟩
              go_simp
              with_reducible rfl
            rotate_left
            · simp only [Act.put, List.setIfInBounds_toArray, List.set_cons_zero, List.set_cons_succ, i64_w, i32_w]
              rfl
            refine one_ (i := 7) (N := some 34) #[true, true, true, true, true, true, true, true, true, true, true, true, true, true, false, true, true, true, true, true, true, false, false] rfl rfl (one_of HT_.out (by kernel_rfl)) (by decide) (fun K hK => ?_)
            refine goes_ Try.func32 (by kernel_rfl) rfl #[.slice Ao20 x4_1.length co20, .int .i64 ((rd_T44 l0_0 x5_1).f0), .int .i64 8] (by rfl) rfl rfl (by (try simp only [List.map_toArray, List.map_cons, List.map_nil]); first | done | rfl | (simp only [List.length_drop, List.length_take]; rfl)) ?_
            with_reducible refine (signalboxref1_put.calls k1 (fun k_ => some k_ = (.slice Ao20 x4_1.length co20 : Value).ownBlock) (.slice Ao20 x4_1.length co20) x4_1 ((rd_T44 l0_0 x5_1).f0) 8 t162 w _ ?side1 ?side2 A15.out).mono ?_
            (case side1 => repeat (first | (with_reducible first | exact HB.out | apply below_alloc | apply pw_below_drewN | apply below_drew1 | refine below_set ?_ GE153.out) | exact HB.out))
            (case side2 => exact Kd.R_tight rfl HO_4.out)
            rintro e w21 ⟨v163, rfl, ho0, hb, hkp⟩
            refine ⟨_, rfl, ?_⟩
            have n0_ := Aside0.mk (blk_kept (by (with_reducible repeat (first | refine blk_drewN ?_ _ | refine blk_drew ?_ | refine blk_alloc ?_ _)); exact BK153.out) hkp (fun hs_ => (fun e_ => (Kd.R_ne HO_4.out BK153.out (by decide)) e_) hs_))
            have n1_ := Aside0.mk (Kd.R_mono (ok' := fun k_ => True) ho0 (fun k_ hk_ => trivial))
            have n2_ := Aside0.mk (hb)
            clear BK153
            clear HB
            clear HO_4
            have BK153 := n0_
            have HO164 := n1_
            have HB := n2_
            clear n0_ n1_ n2_
            (try clear hb)
            (try clear hkp)
            (try clear ho0)
            obtain ⟨Ao22, co22, eo22⟩ := Kd.R_slice HO164.out
            (first | subst eo22 | (injection eo22 with f1_ f2_ f3_; have f4_ := f1_.symm; have f5_ := f3_.symm; clear f1_ f2_ f3_; subst f4_; subst f5_))
            refine hK.out _ _ ⟨(blk_cell BK153.out 0).trans rfl, (blk_cell BK153.out 1).trans rfl, (blk_cell BK153.out 2).trans rfl, (blk_cell BK153.out 3).trans rfl, (blk_cell BK153.out 4).trans rfl, (blk_cell BK153.out 5).trans rfl, (blk_cell BK153.out 6).trans rfl, (blk_cell BK153.out 7).trans rfl, (blk_cell BK153.out 8).trans rfl, ((HB.out.cell (World.block_lt_of_cell? w _ hw161_0)).trans hw161_0), ((HB.out.cell (World.block_lt_of_cell? w _ hw161_1)).trans hw161_1), ((HB.out.cell (World.block_lt_of_cell? w _ hw161_2)).trans hw161_2), ((HB.out.cell (World.block_lt_of_cell? w _ hw165_0)).trans hw165_0), ((HB.out.cell (World.block_lt_of_cell? w _ hw165_1)).trans hw165_1), ((HB.out.cell (World.block_lt_of_cell? w _ hw165_2)).trans hw165_2), ((HB.out.cell (World.block_lt_of_cell? w _ hw169_0)).trans hw169_0), ((HB.out.cell (World.block_lt_of_cell? w _ hw169_1)).trans hw169_1), ((HB.out.cell (World.block_lt_of_cell? w _ hw169_2)).trans hw169_2)⟩ (fun hHeld => ?_)
            clear hK K
            refine norm_ (a' := ?_) ?_ ?_
            rotate_left
            · show Act.put _ (some 34) _ = _
              simp only [Act.put, List.setIfInBounds_toArray, List.set_cons_zero, List.set_cons_succ, i64_w, i32_w]
              rfl
            refine one_ (i := 14) (N := some 41) #[true, true, true, true, true, true, true, true, true, true, true, true, true, true, true, true, true, true, true, true, true, false, false] rfl rfl (one_of HT_.out (by kernel_rfl)) (by decide) (fun K hK => ?_)
            refine goes_ Try.func32 (by kernel_rfl) rfl #[.slice Ao22 t162.length co22, .int .i64 ((rd_T44 l0_0 x5_1).f1), .int .i64 8] (by rfl) rfl rfl (by (try simp only [List.map_toArray, List.map_cons, List.map_nil]); first | done | rfl | (simp only [List.length_drop, List.length_take]; rfl)) ?_
            with_reducible refine (signalboxref1_put.calls k1 (fun k_ => some k_ = (.slice Ao22 t162.length co22 : Value).ownBlock) (.slice Ao22 t162.length co22) t162 ((rd_T44 l0_0 x5_1).f1) 8 t166 w _ ?side1 ?side2 A16.out).mono ?_
            (case side1 => repeat (first | (with_reducible first | exact HB.out | apply below_alloc | apply pw_below_drewN | apply below_drew1 | refine below_set ?_ GE153.out) | exact HB.out))
            (case side2 => exact Kd.R_tight rfl HO164.out)
            rintro e w23 ⟨v167, rfl, ho0, hb, hkp⟩
            refine ⟨_, rfl, ?_⟩
            have n0_ := Aside0.mk (blk_kept (by (with_reducible repeat (first | refine blk_drewN ?_ _ | refine blk_drew ?_ | refine blk_alloc ?_ _)); exact BK153.out) hkp (fun hs_ => (fun e_ => (Kd.R_ne HO164.out BK153.out (by decide)) e_) hs_))
            have n1_ := Aside0.mk (Kd.R_mono (ok' := fun k_ => True) ho0 (fun k_ hk_ => trivial))
            have n2_ := Aside0.mk (hb)
            clear BK153
            clear HB
            clear HO164
            have BK153 := n0_
            have HO168 := n1_
            have HB := n2_
            clear n0_ n1_ n2_
            (try clear hb)
            (try clear hkp)
            (try clear ho0)
            obtain ⟨Ao24, co24, eo24⟩ := Kd.R_slice HO168.out
            (first | subst eo24 | (injection eo24 with f1_ f2_ f3_; have f4_ := f1_.symm; have f5_ := f3_.symm; clear f1_ f2_ f3_; subst f4_; subst f5_))
            refine hK.out _ _ ⟨(blk_cell BK153.out 0).trans rfl, (blk_cell BK153.out 1).trans rfl, (blk_cell BK153.out 2).trans rfl, (blk_cell BK153.out 3).trans rfl, (blk_cell BK153.out 4).trans rfl, (blk_cell BK153.out 5).trans rfl, (blk_cell BK153.out 6).trans rfl, (blk_cell BK153.out 7).trans rfl, (blk_cell BK153.out 8).trans rfl, ((HB.out.cell (World.block_lt_of_cell? w _ hw161_0)).trans hw161_0), ((HB.out.cell (World.block_lt_of_cell? w _ hw161_1)).trans hw161_1), ((HB.out.cell (World.block_lt_of_cell? w _ hw161_2)).trans hw161_2), ((HB.out.cell (World.block_lt_of_cell? w _ hw165_0)).trans hw165_0), ((HB.out.cell (World.block_lt_of_cell? w _ hw165_1)).trans hw165_1), ((HB.out.cell (World.block_lt_of_cell? w _ hw165_2)).trans hw165_2), ((HB.out.cell (World.block_lt_of_cell? w _ hw169_0)).trans hw169_0), ((HB.out.cell (World.block_lt_of_cell? w _ hw169_1)).trans hw169_1), ((HB.out.cell (World.block_lt_of_cell? w _ hw169_2)).trans hw169_2)⟩ (fun hHeld => ?_)
            clear hK K
            refine norm_ (a' := ?_) ?_ ?_
            rotate_left
            · show Act.put _ (some 41) _ = _
              simp only [Act.put, List.setIfInBounds_toArray, List.set_cons_zero, List.set_cons_succ, i64_w, i32_w]
              rfl
            refine one_ (i := 21) (N := some 48) #[true, true, true, true, true, true, true, true, true, true, true, true, true, true, true, true, true, true, true, true, true, true, false] rfl rfl (one_of HT_.out (by kernel_rfl)) (by decide) (fun K hK => ?_)
            refine goes_ Try.func32 (by kernel_rfl) rfl #[.slice Ao24 t166.length co24, .int .i64 ((rd_T44 l0_0 x5_1).f2), .int .i64 8] (by rfl) rfl rfl (by (try simp only [List.map_toArray, List.map_cons, List.map_nil]); first | done | rfl | (simp only [List.length_drop, List.length_take]; rfl)) ?_
            with_reducible refine (signalboxref1_put.calls k1 (fun k_ => some k_ = (.slice Ao24 t166.length co24 : Value).ownBlock) (.slice Ao24 t166.length co24) t166 ((rd_T44 l0_0 x5_1).f2) 8 t170 w _ ?side1 ?side2 A17.out).mono ?_
            (case side1 => repeat (first | (with_reducible first | exact HB.out | apply below_alloc | apply pw_below_drewN | apply below_drew1 | refine below_set ?_ GE153.out) | exact HB.out))
            (case side2 => exact Kd.R_tight rfl HO168.out)
            rintro e w25 ⟨v171, rfl, ho0, hb, hkp⟩
            refine ⟨_, rfl, ?_⟩
            have n0_ := Aside0.mk (blk_kept (by (with_reducible repeat (first | refine blk_drewN ?_ _ | refine blk_drew ?_ | refine blk_alloc ?_ _)); exact BK153.out) hkp (fun hs_ => (fun e_ => (Kd.R_ne HO168.out BK153.out (by decide)) e_) hs_))
            have n1_ := Aside0.mk (Kd.R_mono (ok' := fun k_ => True) ho0 (fun k_ hk_ => trivial))
            have n2_ := Aside0.mk (hb)
            clear BK153
            clear HB
            clear HO168
            have BK153 := n0_
            have HO172 := n1_
            have HB := n2_
            clear n0_ n1_ n2_
            (try clear hb)
            (try clear hkp)
            (try clear ho0)
            refine hK.out _ _ ⟨(blk_cell BK153.out 0).trans rfl, (blk_cell BK153.out 1).trans rfl, (blk_cell BK153.out 2).trans rfl, (blk_cell BK153.out 3).trans rfl, (blk_cell BK153.out 4).trans rfl, (blk_cell BK153.out 5).trans rfl, (blk_cell BK153.out 6).trans rfl, (blk_cell BK153.out 7).trans rfl, (blk_cell BK153.out 8).trans rfl, ((HB.out.cell (World.block_lt_of_cell? w _ hw161_0)).trans hw161_0), ((HB.out.cell (World.block_lt_of_cell? w _ hw161_1)).trans hw161_1), ((HB.out.cell (World.block_lt_of_cell? w _ hw161_2)).trans hw161_2), ((HB.out.cell (World.block_lt_of_cell? w _ hw165_0)).trans hw165_0), ((HB.out.cell (World.block_lt_of_cell? w _ hw165_1)).trans hw165_1), ((HB.out.cell (World.block_lt_of_cell? w _ hw165_2)).trans hw165_2), ((HB.out.cell (World.block_lt_of_cell? w _ hw169_0)).trans hw169_0), ((HB.out.cell (World.block_lt_of_cell? w _ hw169_1)).trans hw169_1), ((HB.out.cell (World.block_lt_of_cell? w _ hw169_2)).trans hw169_2)⟩ (fun hHeld => ?_)
            clear hK K
            refine norm_ (a' := ?_) ?_ ?_
            rotate_left
            · show Act.put _ (some 48) _ = _
              simp only [Act.put, List.setIfInBounds_toArray, List.set_cons_zero, List.set_cons_succ, i64_w, i32_w]
              rfl
            refine pure_ (i := 22) (N := some 4) (v := ?_) (a' := ?_) #[true, true, true, true, true, true, true, true, true, true, true, true, true, true, true, true, true, true, true, true, true, true, true] rfl rfl (any_of HT_.out (by kernel_rfl)) (fun _ _ _ h => h) (Or.inl ⟨by rfl, ?_⟩) ?_ ?_
            rotate_left
            · intro w'
              go_simp
              with_reducible rfl
            rotate_left
            · simp only [Act.put, List.setIfInBounds_toArray, List.set_cons_zero, List.set_cons_succ, i64_w, i32_w]
              rfl
            refine done_ (done_of HT_.out (by kernel_rfl)) ?_
            try go_wp2
            go_roundg k1
            case measure => have := HK1.out; omega
            case rel => exact ⟨(t170), (wrap64 (x5_1 + 1)), (by first | rfl | (simp; done) | (simp [*]; done)), H', ⟨by have := HK1.out; omega⟩, ⟨by (with_reducible repeat (first | apply Kd.R_alloc | apply Kd.R_drewN | apply Kd.R_drew)); exact HO172.out⟩, ⟨by (with_reducible repeat (first | refine blk_drewN ?_ _ | refine blk_drew ?_ | refine blk_alloc ?_ _)); exact BK153.out⟩, ⟨by repeat (first | (with_reducible first | exact HB.out | apply below_alloc | apply pw_below_drewN | apply below_drew1 | refine below_set ?_ GE153.out) | exact HB.out)⟩⟩
          · rw [if_neg c14] at H
            exact absurd H (by simp)
        · rw [if_neg c13] at H
          have c13b0 : decide (x5_1 < (l0_0.length : Int)) = false := decide_eq_false c13
          clear c13
          replace H := Option.bind_eq_some_iff.mp H
          obtain ⟨t173, A260, H⟩ := H
          replace H : (signalboxref1_Encode.l1 k1 t173 0 l0_0 l0_1 l0_2 a0_3 l0_4 l0_5 l0_6 l0_7 a0_8) = some (r1, r2) := H
          have A26 := Aside0.mk A260
          clear A260
          have H' := Aside0.mk H
          clear H
          have hcz27_0 : wr.cell? ⟨gb153, 0, none⟩ = some (.slice A0_0 l0_0.length c0_0) := (blk_cell BK153.out 0).trans rfl
          have hcz27_1 : wr.cell? ⟨gb153, 1, none⟩ = some (.slice A0_1 l0_1.length c0_1) := (blk_cell BK153.out 1).trans rfl
          have hcz27_2 : wr.cell? ⟨gb153, 2, none⟩ = some (.slice A0_2 l0_2.length c0_2) := (blk_cell BK153.out 2).trans rfl
          have hcz27_3 : wr.cell? ⟨gb153, 3, none⟩ = some (.int .i64 a0_3) := (blk_cell BK153.out 3).trans rfl
          have hcz27_4 : wr.cell? ⟨gb153, 4, none⟩ = some (.slice A0_4 l0_4.length c0_4) := (blk_cell BK153.out 4).trans rfl
          have hcz27_5 : wr.cell? ⟨gb153, 5, none⟩ = some (.slice A0_5 l0_5.length c0_5) := (blk_cell BK153.out 5).trans rfl
          have hcz27_6 : wr.cell? ⟨gb153, 6, none⟩ = some (.slice A0_6 l0_6.length c0_6) := (blk_cell BK153.out 6).trans rfl
          have hcz27_7 : wr.cell? ⟨gb153, 7, none⟩ = some (.slice A0_7 l0_7.length c0_7) := (blk_cell BK153.out 7).trans rfl
          have hcz27_8 : wr.cell? ⟨gb153, 8, none⟩ = some (.int .i64 a0_8) := (blk_cell BK153.out 8).trans rfl
          have hfz27_0 := blk_frozen BK153.out 0
          have hfz27_1 := blk_frozen BK153.out 1
          have hfz27_2 := blk_frozen BK153.out 2
          have hfz27_3 := blk_frozen BK153.out 3
          have hfz27_4 := blk_frozen BK153.out 4
          have hfz27_5 := blk_frozen BK153.out 5
          have hfz27_6 := blk_frozen BK153.out 6
          have hfz27_7 := blk_frozen BK153.out 7
          have hfz27_8 := blk_frozen BK153.out 8
          obtain ⟨Ao28, co28, eo28⟩ := Kd.R_slice HO_4.out
          subst eo28
          go_wp2_with (first | ((with_reducible refine gate_callee (f := 32) rfl ?_); refine goesL_ (some 53) rfl rfl Try.func32 (by kernel_rfl) rfl #[.slice Ao28 x4_1.length co28, .int .i64 (l0_1.length : Int), .int .i64 2] rfl (by (try simp only [List.map_toArray, List.map_cons, List.map_nil]); first | done | rfl | (simp only [List.length_drop, List.length_take]; rfl)) ?_; (with_reducible refine (signalboxref1_put.calls k1 (fun k_ => some k_ = (.slice Ao28 x4_1.length co28 : Value).ownBlock) (.slice Ao28 x4_1.length co28) x4_1 (l0_1.length : Int) 2 t173 w _ ?side1 ?side2 A26.out).mono ?_); (case side1 => repeat (first | (with_reducible first | exact HB.out | apply below_alloc | apply pw_below_drewN | apply below_drew1 | refine below_set ?_ GE153.out) | exact HB.out)); (case side2 => exact Kd.R_tight rfl HO_4.out); rintro e w29 ⟨v174, rfl, ho0, hb, hkp⟩; refine ⟨_, rfl, ?_⟩; have n0_ := Aside0.mk (blk_kept (by (with_reducible repeat (first | refine blk_drewN ?_ _ | refine blk_drew ?_ | refine blk_alloc ?_ _)); exact BK153.out) hkp (fun hs_ => (fun e_ => (Kd.R_ne HO_4.out BK153.out (by decide)) e_) hs_)); have n1_ := Aside0.mk (Kd.R_mono (ok' := fun k_ => True) ho0 (fun k_ hk_ => trivial)); have n2_ := Aside0.mk (hb); clear BK153; clear HB; clear HO_4; have BK153 := n0_; have HO175 := n1_; have HB := n2_; clear n0_ n1_ n2_; (try clear hb); (try clear hkp); (try clear ho0)))
          go_loopg [4, 6] k1 (fun kq v4 v6 w' => ∃ (x4_2 : List Int) (x6_2 : Int), v6 = .int .i64 x6_2 ∧ Aside0 (signalboxref1_Encode.l1 kq x4_2 x6_2 l0_0 l0_1 l0_2 a0_3 l0_4 l0_5 l0_6 l0_7 a0_8 = some (r1, r2)) ∧ Aside0 (kq ≤ k1) ∧ Aside0 (Kd.R (Kd.int .u8) 5 w' w.heap.size (fun _ => True) v4 x4_2) ∧ Aside0 (w'.heap[gb153]? = some (.cells #[(.slice A0_0 l0_0.length c0_0), (.slice A0_1 l0_1.length c0_1), (.slice A0_2 l0_2.length c0_2), .int .i64 a0_3, (.slice A0_4 l0_4.length c0_4), (.slice A0_5 l0_5.length c0_5), (.slice A0_6 l0_6.length c0_6), (.slice A0_7 l0_7.length c0_7), .int .i64 a0_8] 29 (0, 0))) ∧ Aside0 (Below w.heap.size w w'))
          case atStart => exact ⟨(t173), (0), (by first | rfl | (simp; done) | (simp [*]; done)), H', ⟨Nat.le_refl _⟩, ⟨by (with_reducible repeat (first | apply Kd.R_alloc | apply Kd.R_drewN | apply Kd.R_drew)); exact HO175.out⟩, ⟨by (with_reducible repeat (first | refine blk_drewN ?_ _ | refine blk_drew ?_ | refine blk_alloc ?_ _)); exact BK153.out⟩, ⟨by repeat (first | (with_reducible first | exact HB.out | apply below_alloc | apply pw_below_drewN | apply below_drew1 | refine below_set ?_ GE153.out) | exact HB.out)⟩⟩
          case round =>
            clear H'
            try clear c1
            try clear p1
            try clear q1
            try clear hx1
            try clear p2
            try clear c3
            try clear p6
            try clear c11
            try clear c13
            try clear c13b0
            try clear c14
            try clear c14b0
            try clear p16
            try clear q16
            try clear hx16
            try clear hcz10_0
            try clear hcz10_1
            try clear hcz10_2
            try clear hcz10_3
            try clear hcz10_4
            try clear hcz10_5
            try clear hcz10_6
            try clear hcz10_7
            try clear hcz10_8
            try clear hcz18_0
            try clear hcz18_1
            try clear hcz18_2
            try clear hcz18_3
            try clear hcz18_4
            try clear hcz18_5
            try clear hcz18_6
            try clear hcz18_7
            try clear hcz18_8
            try clear hcz27_0
            try clear hcz27_1
            try clear hcz27_2
            try clear hcz27_3
            try clear hcz27_4
            try clear hcz27_5
            try clear hcz27_6
            try clear hcz27_7
            try clear hcz27_8
            try clear hcz6_0
            try clear hcz6_1
            try clear hcz6_2
            try clear hcz6_3
            try clear hcz6_4
            try clear hcz6_5
            try clear hcz6_6
            try clear hcz6_7
            try clear hcz6_8
            try clear hfz10_0
            try clear hfz10_1
            try clear hfz10_2
            try clear hfz10_3
            try clear hfz10_4
            try clear hfz10_5
            try clear hfz10_6
            try clear hfz10_7
            try clear hfz10_8
            try clear hfz18_0
            try clear hfz18_1
            try clear hfz18_2
            try clear hfz18_3
            try clear hfz18_4
            try clear hfz18_5
            try clear hfz18_6
            try clear hfz18_7
            try clear hfz18_8
            try clear hfz27_0
            try clear hfz27_1
            try clear hfz27_2
            try clear hfz27_3
            try clear hfz27_4
            try clear hfz27_5
            try clear hfz27_6
            try clear hfz27_7
            try clear hfz27_8
            try clear hfz6_0
            try clear hfz6_1
            try clear hfz6_2
            try clear hfz6_3
            try clear hfz6_4
            try clear hfz6_5
            try clear hfz6_6
            try clear hfz6_7
            try clear hfz6_8
            try clear hx161_0
            try clear hx161_1
            try clear hx161_2
            try clear hx165_0
            try clear hx165_1
            try clear hx165_2
            try clear hx169_0
            try clear hx169_1
            try clear hx169_2
            try clear p161
            try clear p165
            try clear p169
            try clear p2
            try clear q161
            try clear q165
            try clear q169
            obtain ⟨x4_2, x6_2, rfl, HA, HK2, HO_4, BK153, HB⟩ := hrel
            cases gk with
            | zero => exact absurd HA.out (by simp [signalboxref1_Encode.l1])
            | succ k2 =>
              have H := HA.out
              clear HA
              simp only [signalboxref1_Encode.l1] at H
              by_cases c30 : x6_2 < (l0_1.length : Int)
              · rw [if_pos c30] at H
                have c30b0 : decide (x6_2 < (l0_1.length : Int)) = true := decide_eq_true c30
                clear c30
                by_cases c31 : 0 ≤ x6_2
                · rw [if_pos c31] at H
                  have c31b0 : decide (0 ≤ x6_2) = true := decide_eq_true c31
                  clear c31
                  replace H := Option.bind_eq_some_iff.mp H
                  obtain ⟨t177, A320, H⟩ := H
                  replace H : ((signalboxref1_put.f k2 t177 ((rd_T46 l0_1 x6_2).f1) 8).bind fun t181 => ((signalboxref1_put.f k2 t181 ((rd_T46 l0_1 x6_2).f2) 8).bind fun t185 => (signalboxref1_Encode.l1 k2 t185 (wrap64 (x6_2 + 1)) l0_0 l0_1 l0_2 a0_3 l0_4 l0_5 l0_6 l0_7 a0_8))) = some (r1, r2) := H
                  have A32 := Aside0.mk A320
                  clear A320
                  replace H := Option.bind_eq_some_iff.mp H
                  obtain ⟨t181, A330, H⟩ := H
                  replace H : ((signalboxref1_put.f k2 t181 ((rd_T46 l0_1 x6_2).f2) 8).bind fun t185 => (signalboxref1_Encode.l1 k2 t185 (wrap64 (x6_2 + 1)) l0_0 l0_1 l0_2 a0_3 l0_4 l0_5 l0_6 l0_7 a0_8)) = some (r1, r2) := H
                  have A33 := Aside0.mk A330
                  clear A330
                  replace H := Option.bind_eq_some_iff.mp H
                  obtain ⟨t185, A340, H⟩ := H
                  replace H : (signalboxref1_Encode.l1 k2 t185 (wrap64 (x6_2 + 1)) l0_0 l0_1 l0_2 a0_3 l0_4 l0_5 l0_6 l0_7 a0_8) = some (r1, r2) := H
                  have A34 := Aside0.mk A340
                  clear A340
                  have H' := Aside0.mk H
                  clear H
                  have hcz35_0 : wr.cell? ⟨gb153, 0, none⟩ = some (.slice A0_0 l0_0.length c0_0) := (blk_cell BK153.out 0).trans rfl
                  have hcz35_1 : wr.cell? ⟨gb153, 1, none⟩ = some (.slice A0_1 l0_1.length c0_1) := (blk_cell BK153.out 1).trans rfl
                  have hcz35_2 : wr.cell? ⟨gb153, 2, none⟩ = some (.slice A0_2 l0_2.length c0_2) := (blk_cell BK153.out 2).trans rfl
                  have hcz35_3 : wr.cell? ⟨gb153, 3, none⟩ = some (.int .i64 a0_3) := (blk_cell BK153.out 3).trans rfl
                  have hcz35_4 : wr.cell? ⟨gb153, 4, none⟩ = some (.slice A0_4 l0_4.length c0_4) := (blk_cell BK153.out 4).trans rfl
                  have hcz35_5 : wr.cell? ⟨gb153, 5, none⟩ = some (.slice A0_5 l0_5.length c0_5) := (blk_cell BK153.out 5).trans rfl
                  have hcz35_6 : wr.cell? ⟨gb153, 6, none⟩ = some (.slice A0_6 l0_6.length c0_6) := (blk_cell BK153.out 6).trans rfl
                  have hcz35_7 : wr.cell? ⟨gb153, 7, none⟩ = some (.slice A0_7 l0_7.length c0_7) := (blk_cell BK153.out 7).trans rfl
                  have hcz35_8 : wr.cell? ⟨gb153, 8, none⟩ = some (.int .i64 a0_8) := (blk_cell BK153.out 8).trans rfl
                  have hfz35_0 := blk_frozen BK153.out 0
                  have hfz35_1 := blk_frozen BK153.out 1
                  have hfz35_2 := blk_frozen BK153.out 2
                  have hfz35_3 := blk_frozen BK153.out 3
                  have hfz35_4 := blk_frozen BK153.out 4
                  have hfz35_5 := blk_frozen BK153.out 5
                  have hfz35_6 := blk_frozen BK153.out 6
                  have hfz35_7 := blk_frozen BK153.out 7
                  have hfz35_8 := blk_frozen BK153.out 8
                  try go_wp2
                  have n0_ := Aside0.mk (Kd.R_drew HO_4.out)
                  have n1_ := Aside0.mk (blk_drew BK153.out)
                  have n2_ := Aside0.mk (below_drew1 HB.out)
                  clear HO_4
                  clear BK153
                  clear HB
                  have HO_4 := n0_
                  have BK153 := n1_
                  have HB := n2_
                  clear n0_ n1_ n2_
                  have p176 : 0 ≤ (x6_2 : Int) := of_decide_eq_true (by first | (with_reducible assumption) | assumption)
                  have q176 : x6_2 < (l0_1.length : Int) := of_decide_eq_true (by first | (with_reducible assumption) | assumption)
                  obtain ⟨ad176, e176, hx176_0, hx176_1, hx176_2⟩ := at_T46 HR0_1.out x6_2 p176 q176
                  have hw176_2 := hx176_2
                  have hw176_1 := hx176_1
                  have hw176_0 := hx176_0
                  cases e176
                  replace hx176_0 := (HB.out.cell (World.block_lt_of_cell? w _ hx176_0)).trans hx176_0
                  replace hx176_1 := (HB.out.cell (World.block_lt_of_cell? w _ hx176_1)).trans hx176_1
                  replace hx176_2 := (HB.out.cell (World.block_lt_of_cell? w _ hx176_2)).trans hx176_2
                  replace p176 := eq_true p176
                  replace q176 := eq_true q176
                  have p180 : 0 ≤ (x6_2 : Int) := of_decide_eq_true (by first | (with_reducible assumption) | assumption)
                  have q180 : x6_2 < (l0_1.length : Int) := of_decide_eq_true (by first | (with_reducible assumption) | assumption)
                  obtain ⟨ad180, e180, hx180_0, hx180_1, hx180_2⟩ := at_T46 HR0_1.out x6_2 p180 q180
                  have hw180_2 := hx180_2
                  have hw180_1 := hx180_1
                  have hw180_0 := hx180_0
                  obtain rfl : ad176 = ad180 := (by injection e180)
                  replace hx180_0 := (HB.out.cell (World.block_lt_of_cell? w _ hx180_0)).trans hx180_0
                  replace hx180_1 := (HB.out.cell (World.block_lt_of_cell? w _ hx180_1)).trans hx180_1
                  replace hx180_2 := (HB.out.cell (World.block_lt_of_cell? w _ hx180_2)).trans hx180_2
                  replace p180 := eq_true p180
                  replace q180 := eq_true q180
                  have p184 : 0 ≤ (x6_2 : Int) := of_decide_eq_true (by first | (with_reducible assumption) | assumption)
                  have q184 : x6_2 < (l0_1.length : Int) := of_decide_eq_true (by first | (with_reducible assumption) | assumption)
                  obtain ⟨ad184, e184, hx184_0, hx184_1, hx184_2⟩ := at_T46 HR0_1.out x6_2 p184 q184
                  have hw184_2 := hx184_2
                  have hw184_1 := hx184_1
                  have hw184_0 := hx184_0
                  obtain rfl : ad176 = ad184 := (by injection e184)
                  replace hx184_0 := (HB.out.cell (World.block_lt_of_cell? w _ hx184_0)).trans hx184_0
                  replace hx184_1 := (HB.out.cell (World.block_lt_of_cell? w _ hx184_1)).trans hx184_1
                  replace hx184_2 := (HB.out.cell (World.block_lt_of_cell? w _ hx184_2)).trans hx184_2
                  replace p184 := eq_true p184
                  replace q184 := eq_true q184
                  obtain ⟨Ao37, co37, eo37⟩ := Kd.R_slice HO_4.out
                  (first | subst eo37 | (injection eo37 with f1_ f2_ f3_; have f4_ := f1_.symm; have f5_ := f3_.symm; clear f1_ f2_ f3_; subst f4_; subst f5_))
                  refine start_ (n := 23) (S := fun w' => w'.cell? ⟨gb153, 0, none⟩ = some (.slice A0_0 l0_0.length c0_0) ∧ w'.cell? ⟨gb153, 1, none⟩ = some (.slice (some ad176) l0_1.length c0_1) ∧ w'.cell? ⟨gb153, 2, none⟩ = some (.slice A0_2 l0_2.length c0_2) ∧ w'.cell? ⟨gb153, 3, none⟩ = some (.int .i64 a0_3) ∧ w'.cell? ⟨gb153, 4, none⟩ = some (.slice A0_4 l0_4.length c0_4) ∧ w'.cell? ⟨gb153, 5, none⟩ = some (.slice A0_5 l0_5.length c0_5) ∧ w'.cell? ⟨gb153, 6, none⟩ = some (.slice A0_6 l0_6.length c0_6) ∧ w'.cell? ⟨gb153, 7, none⟩ = some (.slice A0_7 l0_7.length c0_7) ∧ w'.cell? ⟨gb153, 8, none⟩ = some (.int .i64 a0_8) ∧ w'.cell? (ad176.add ((x6_2).toNat * 3)) = some (.int .i64 ((rd_T46 l0_1 x6_2).f0)) ∧ w'.cell? ⟨(ad176.add ((x6_2).toNat * 3)).block, (ad176.add ((x6_2).toNat * 3)).off + 1, none⟩ = some (.int .i64 ((rd_T46 l0_1 x6_2).f1)) ∧ w'.cell? ⟨(ad176.add ((x6_2).toNat * 3)).block, (ad176.add ((x6_2).toNat * 3)).off + 2, none⟩ = some (.int .i64 ((rd_T46 l0_1 x6_2).f2)) ∧ w'.cell? (ad176.add ((x6_2).toNat * 3)) = some (.int .i64 ((rd_T46 l0_1 x6_2).f0)) ∧ w'.cell? ⟨(ad176.add ((x6_2).toNat * 3)).block, (ad176.add ((x6_2).toNat * 3)).off + 1, none⟩ = some (.int .i64 ((rd_T46 l0_1 x6_2).f1)) ∧ w'.cell? ⟨(ad176.add ((x6_2).toNat * 3)).block, (ad176.add ((x6_2).toNat * 3)).off + 2, none⟩ = some (.int .i64 ((rd_T46 l0_1 x6_2).f2)) ∧ w'.cell? (ad176.add ((x6_2).toNat * 3)) = some (.int .i64 ((rd_T46 l0_1 x6_2).f0)) ∧ w'.cell? ⟨(ad176.add ((x6_2).toNat * 3)).block, (ad176.add ((x6_2).toNat * 3)).off + 1, none⟩ = some (.int .i64 ((rd_T46 l0_1 x6_2).f1)) ∧ w'.cell? ⟨(ad176.add ((x6_2).toNat * 3)).block, (ad176.add ((x6_2).toNat * 3)).off + 2, none⟩ = some (.int .i64 ((rd_T46 l0_1 x6_2).f2))) (ds := []) #[false, false, false, false, false, false, false, false, false, false, false, false, false, false, false, false, false, false, false, false, false, false, false] (by kernel_rfl) rfl rfl ⟨(blk_cell BK153.out 0).trans rfl, (blk_cell BK153.out 1).trans rfl, (blk_cell BK153.out 2).trans rfl, (blk_cell BK153.out 3).trans rfl, (blk_cell BK153.out 4).trans rfl, (blk_cell BK153.out 5).trans rfl, (blk_cell BK153.out 6).trans rfl, (blk_cell BK153.out 7).trans rfl, (blk_cell BK153.out 8).trans rfl, ((HB.out.cell (World.block_lt_of_cell? w _ hw176_0)).trans hw176_0), ((HB.out.cell (World.block_lt_of_cell? w _ hw176_1)).trans hw176_1), ((HB.out.cell (World.block_lt_of_cell? w _ hw176_2)).trans hw176_2), ((HB.out.cell (World.block_lt_of_cell? w _ hw180_0)).trans hw180_0), ((HB.out.cell (World.block_lt_of_cell? w _ hw180_1)).trans hw180_1), ((HB.out.cell (World.block_lt_of_cell? w _ hw180_2)).trans hw180_2), ((HB.out.cell (World.block_lt_of_cell? w _ hw184_0)).trans hw184_0), ((HB.out.cell (World.block_lt_of_cell? w _ hw184_1)).trans hw184_1), ((HB.out.cell (World.block_lt_of_cell? w _ hw184_2)).trans hw184_2)⟩ (fun hHeld => ?_); refine with_tabW signalboxref1_Encode.tab13 signalboxref1_Encode.bits13 (fun HT_ HW_ => ?_)
                  generalize wr.drew = w36 at HO_4 BK153 HB hx176_0 hx176_1 hx176_2 hx180_0 hx180_1 hx180_2 hx184_0 hx184_1 hx184_2 hHeld ⊢
                  refine pure_ (i := 0) (N := some 61) (v := ?_) (a' := ?_) #[true, false, false, false, false, false, false, false, false, false, false, false, false, false, false, false, false, false, false, false, false, false, false] rfl rfl (any_of HT_.out (by kernel_rfl)) (fun _ _ _ h => h) (Or.inl ⟨by rfl, ?_⟩) ?_ ?_
                  rotate_left
                  · intro w'
                    go_simp
                    with_reducible rfl
                  rotate_left
                  · simp only [Act.put, List.setIfInBounds_toArray, List.set_cons_zero, List.set_cons_succ, i64_w, i32_w]
                    rfl
                  refine pure_ (i := 1) (N := some 62) (v := ?_) (a' := ?_) #[true, true, false, false, false, false, false, false, false, false, false, false, false, false, false, false, false, false, false, false, false, false, false] rfl rfl (any_of HT_.out (by kernel_rfl)) (fun _ _ _ h => h) (Or.inl ⟨by rfl, ?_⟩) ?_ ?_
                  rotate_left
                  · intro w'
                    go_simp
                    with_reducible rfl
                  rotate_left
                  · simp only [Act.put, List.setIfInBounds_toArray, List.set_cons_zero, List.set_cons_succ, i64_w, i32_w]
                    rfl
                  refine pure_ (i := 3) (N := some 64) (v := ?_) (a' := ?_) #[true, true, false, true, false, false, false, false, false, false, false, false, false, false, false, false, false, false, false, false, false, false, false] rfl rfl (any_of HT_.out (by kernel_rfl)) (fun _ _ _ h => h) (Or.inl ⟨by rfl, ?_⟩) ?_ ?_
                  rotate_left
                  · intro w'
                    go_simp
                    with_reducible rfl
                  rotate_left
                  · simp only [Act.put, List.setIfInBounds_toArray, List.set_cons_zero, List.set_cons_succ, i64_w, i32_w]
                    rfl
                  refine pure_ (i := 8) (N := some 69) (v := ?_) (a' := ?_) #[true, true, false, true, false, false, false, false, true, false, false, false, false, false, false, false, false, false, false, false, false, false, false] rfl rfl (any_of HT_.out (by kernel_rfl)) (fun _ _ _ h => h) (Or.inl ⟨by rfl, ?_⟩) ?_ ?_
                  rotate_left
                  · intro w'
                    go_simp
                    with_reducible rfl
                  rotate_left
                  · simp only [Act.put, List.setIfInBounds_toArray, List.set_cons_zero, List.set_cons_succ, i64_w, i32_w]
                    rfl
                  refine pure_ (i := 10) (N := some 71) (v := ?_) (a' := ?_) #[true, true, false, true, false, false, false, false, true, false, true, false, false, false, false, false, false, false, false, false, false, false, false] rfl rfl (any_of HT_.out (by kernel_rfl)) (fun _ _ _ h => h) (Or.inl ⟨by rfl, ?_⟩) ?_ ?_
                  rotate_left
                  · intro w'
                    go_simp
                    with_reducible rfl
                  rotate_left
                  · simp only [Act.put, List.setIfInBounds_toArray, List.set_cons_zero, List.set_cons_succ, i64_w, i32_w]
                    rfl
                  refine pure_ (i := 15) (N := some 76) (v := ?_) (a' := ?_) #[true, true, false, true, false, false, false, false, true, false, true, false, false, false, false, true, false, false, false, false, false, false, false] rfl rfl (any_of HT_.out (by kernel_rfl)) (fun _ _ _ h => h) (Or.inl ⟨by rfl, ?_⟩) ?_ ?_
                  rotate_left
                  · intro w'
                    go_simp
                    with_reducible rfl
                  rotate_left
                  · simp only [Act.put, List.setIfInBounds_toArray, List.set_cons_zero, List.set_cons_succ, i64_w, i32_w]
                    rfl
                  refine pure_ (i := 17) (N := some 78) (v := ?_) (a' := ?_) #[true, true, false, true, false, false, false, false, true, false, true, false, false, false, false, true, false, true, false, false, false, false, false] rfl rfl (any_of HT_.out (by kernel_rfl)) (fun _ _ _ h => h) (Or.inl ⟨by rfl, ?_⟩) ?_ ?_
                  rotate_left
                  · intro w'
                    go_simp
                    with_reducible rfl
                  rotate_left
                  · simp only [Act.put, List.setIfInBounds_toArray, List.set_cons_zero, List.set_cons_succ, i64_w, i32_w]
                    rfl
                  refine take_ (i := 2) (N := some 63) (v := ?_) (a' := ?_) #[true, true, true, true, false, false, false, false, true, false, true, false, false, false, false, true, false, true, false, false, false, false, false] rfl rfl (take_ofW HT_.out HW_.out (by kernel_rfl)) (fun _ _ _ h => h) (Or.inl ⟨by rfl, ?_⟩) hHeld ?_ ?_
                  rotate_left
                  · rintro w' ⟨s0, s1, s2, s3, s4, s5, s6, s7, s8, s9, s10, s11, s12, s13, s14, s15, s16, s17⟩
                    go_simp
                    with_reducible rfl
                  rotate_left
                  · simp only [Act.put, List.setIfInBounds_toArray, List.set_cons_zero, List.set_cons_succ, i64_w, i32_w]
                    rfl
                  refine pure_ (i := 4) (N := some 65) (v := ?_) (a' := ?_) #[true, true, true, true, true, false, false, false, true, false, true, false, false, false, false, true, false, true, false, false, false, false, false] rfl rfl (any_of HT_.out (by kernel_rfl)) (fun _ _ _ h => h) (Or.inl ⟨by rfl, ?_⟩) ?_ ?_
                  rotate_left
                  · intro w'
                    go_simp
                    with_reducible rfl
                  rotate_left
                  · simp only [Act.put, List.setIfInBounds_toArray, List.set_cons_zero, List.set_cons_succ, i64_w, i32_w]
                    rfl
                  refine pure_ (i := 5) (N := some 66) (v := ?_) (a' := ?_) #[true, true, true, true, true, true, false, false, true, false, true, false, false, false, false, true, false, true, false, false, false, false, false] rfl rfl (any_of HT_.out (by kernel_rfl)) (fun _ _ _ h => h) (Or.inl ⟨by rfl, ?_⟩) ?_ ?_
                  rotate_left
                  · intro w'
                    go_simp
                    with_reducible rfl
                  rotate_left
                  · simp only [Act.put, List.setIfInBounds_toArray, List.set_cons_zero, List.set_cons_succ, i64_w, i32_w]
                    rfl
                  refine take_ (i := 6) (N := some 67) (v := ?_) (a' := ?_) #[true, true, true, true, true, true, true, false, true, false, true, false, false, false, false, true, false, true, false, false, false, false, false] rfl rfl (take_ofW HT_.out HW_.out (by kernel_rfl)) (fun _ _ _ h => h) (Or.inl ⟨by rfl, ?_⟩) hHeld ?_ ?_
                  rotate_left
                  · rintro w' ⟨s0, s1, s2, s3, s4, s5, s6, s7, s8, s9, s10, s11, s12, s13, s14, s15, s16, s17⟩
                    go_simp
                    with_reducible rfl
                  rotate_left
                  · simp only [Act.put, List.setIfInBounds_toArray, List.set_cons_zero, List.set_cons_succ, i64_w, i32_w]
                    rfl
                  refine take_ (i := 9) (N := some 70) (v := ?_) (a' := ?_) #[true, true, true, true, true, true, true, false, true, true, true, false, false, false, false, true, false, true, false, false, false, false, false] rfl rfl (take_ofW HT_.out HW_.out (by kernel_rfl)) (fun _ _ _ h => h) (Or.inl ⟨by rfl, ?_⟩) hHeld ?_ ?_
                  rotate_left
                  · rintro w' ⟨s0, s1, s2, s3, s4, s5, s6, s7, s8, s9, s10, s11, s12, s13, s14, s15, s16, s17⟩
                    go_simp
                    with_reducible rfl
                  rotate_left
                  · simp only [Act.put, List.setIfInBounds_toArray, List.set_cons_zero, List.set_cons_succ, i64_w, i32_w]
                    rfl
                  refine pure_ (i := 11) (N := some 72) (v := ?_) (a' := ?_) #[true, true, true, true, true, true, true, false, true, true, true, true, false, false, false, true, false, true, false, false, false, false, false] rfl rfl (any_of HT_.out (by kernel_rfl)) (fun _ _ _ h => h) (Or.inl ⟨by rfl, ?_⟩) ?_ ?_
                  rotate_left
                  · intro w'
                    go_simp
                    with_reducible rfl
                  rotate_left
                  · simp only [Act.put, List.setIfInBounds_toArray, List.set_cons_zero, List.set_cons_succ, i64_w, i32_w]
                    rfl
                  refine pure_ (i := 12) (N := some 73) (v := ?_) (a' := ?_) #[true, true, true, true, true, true, true, false, true, true, true, true, true, false, false, true, false, true, false, false, false, false, false] rfl rfl (any_of HT_.out (by kernel_rfl)) (fun _ _ _ h => h) (Or.inl ⟨by rfl, ?_⟩) ?_ ?_
                  rotate_left
                  · intro w'
                    go_simp
                    with_reducible rfl
                  rotate_left
                  · simp only [Act.put, List.setIfInBounds_toArray, List.set_cons_zero, List.set_cons_succ, i64_w, i32_w]
                    rfl
                  refine take_ (i := 13) (N := some 74) (v := ?_) (a' := ?_) #[true, true, true, true, true, true, true, false, true, true, true, true, true, true, false, true, false, true, false, false, false, false, false] rfl rfl (take_ofW HT_.out HW_.out (by kernel_rfl)) (fun _ _ _ h => h) (Or.inl ⟨by rfl, ?_⟩) hHeld ?_ ?_
                  rotate_left
                  · rintro w' ⟨s0, s1, s2, s3, s4, s5, s6, s7, s8, s9, s10, s11, s12, s13, s14, s15, s16, s17⟩
                    go_simp
                    with_reducible rfl
                  rotate_left
                  · simp only [Act.put, List.setIfInBounds_toArray, List.set_cons_zero, List.set_cons_succ, i64_w, i32_w]
                    rfl
                  refine take_ (i := 16) (N := some 77) (v := ?_) (a' := ?_) #[true, true, true, true, true, true, true, false, true, true, true, true, true, true, false, true, true, true, false, false, false, false, false] rfl rfl (take_ofW HT_.out HW_.out (by kernel_rfl)) (fun _ _ _ h => h) (Or.inl ⟨by rfl, ?_⟩) hHeld ?_ ?_
                  rotate_left
                  · rintro w' ⟨s0, s1, s2, s3, s4, s5, s6, s7, s8, s9, s10, s11, s12, s13, s14, s15, s16, s17⟩
                    go_simp
                    with_reducible rfl
                  rotate_left
                  · simp only [Act.put, List.setIfInBounds_toArray, List.set_cons_zero, List.set_cons_succ, i64_w, i32_w]
                    rfl
                  refine pure_ (i := 18) (N := some 79) (v := ?_) (a' := ?_) #[true, true, true, true, true, true, true, false, true, true, true, true, true, true, false, true, true, true, true, false, false, false, false] rfl rfl (any_of HT_.out (by kernel_rfl)) (fun _ _ _ h => h) (Or.inl ⟨by rfl, ?_⟩) ?_ ?_
                  rotate_left
                  · intro w'
                    go_simp
                    with_reducible rfl
                  rotate_left
                  · simp only [Act.put, List.setIfInBounds_toArray, List.set_cons_zero, List.set_cons_succ, i64_w, i32_w]
                    rfl
                  refine pure_ (i := 19) (N := some 80) (v := ?_) (a' := ?_) #[true, true, true, true, true, true, true, false, true, true, true, true, true, true, false, true, true, true, true, true, false, false, false] rfl rfl (any_of HT_.out (by kernel_rfl)) (fun _ _ _ h => h) (Or.inl ⟨by rfl, ?_⟩) ?_ ?_
                  rotate_left
                  · intro w'
                    go_simp
                    with_reducible rfl
                  rotate_left
                  · simp only [Act.put, List.setIfInBounds_toArray, List.set_cons_zero, List.set_cons_succ, i64_w, i32_w]
                    rfl
                  refine take_ (i := 20) (N := some 81) (v := ?_) (a' := ?_) #[true, true, true, true, true, true, true, false, true, true, true, true, true, true, false, true, true, true, true, true, true, false, false] rfl rfl (take_ofW HT_.out HW_.out (by kernel_rfl)) (fun _ _ _ h => h) (Or.inl ⟨by rfl, ?_⟩) hHeld ?_ ?_
                  rotate_left
                  · rintro w' ⟨s0, s1, s2, s3, s4, s5, s6, s7, s8, s9, s10, s11, s12, s13, s14, s15, s16, s17⟩
                    go_simp
                    with_reducible rfl
                  rotate_left
                  · simp only [Act.put, List.setIfInBounds_toArray, List.set_cons_zero, List.set_cons_succ, i64_w, i32_w]
                    rfl
                  refine one_ (i := 7) (N := some 68) #[true, true, true, true, true, true, true, true, true, true, true, true, true, true, false, true, true, true, true, true, true, false, false] rfl rfl (one_of HT_.out (by kernel_rfl)) (by decide) (fun K hK => ?_)
                  refine goes_ Try.func32 (by kernel_rfl) rfl #[.slice Ao37 x4_2.length co37, .int .i64 ((rd_T46 l0_1 x6_2).f0), .int .i64 8] (by rfl) rfl rfl (by (try simp only [List.map_toArray, List.map_cons, List.map_nil]); first | done | rfl | (simp only [List.length_drop, List.length_take]; rfl)) ?_
                  with_reducible refine (signalboxref1_put.calls k2 (fun k_ => some k_ = (.slice Ao37 x4_2.length co37 : Value).ownBlock) (.slice Ao37 x4_2.length co37) x4_2 ((rd_T46 l0_1 x6_2).f0) 8 t177 w _ ?side1 ?side2 A32.out).mono ?_
                  (case side1 => repeat (first | (with_reducible first | exact HB.out | apply below_alloc | apply pw_below_drewN | apply below_drew1 | refine below_set ?_ GE153.out) | exact HB.out))
                  (case side2 => exact Kd.R_tight rfl HO_4.out)
                  rintro e w38 ⟨v178, rfl, ho0, hb, hkp⟩
                  refine ⟨_, rfl, ?_⟩
                  have n0_ := Aside0.mk (blk_kept (by (with_reducible repeat (first | refine blk_drewN ?_ _ | refine blk_drew ?_ | refine blk_alloc ?_ _)); exact BK153.out) hkp (fun hs_ => (fun e_ => (Kd.R_ne HO_4.out BK153.out (by decide)) e_) hs_))
                  have n1_ := Aside0.mk (Kd.R_mono (ok' := fun k_ => True) ho0 (fun k_ hk_ => trivial))
                  have n2_ := Aside0.mk (hb)
                  clear BK153
                  clear HB
                  clear HO_4
                  have BK153 := n0_
                  have HO179 := n1_
                  have HB := n2_
                  clear n0_ n1_ n2_
                  (try clear hb)
                  (try clear hkp)
                  (try clear ho0)
                  obtain ⟨Ao39, co39, eo39⟩ := Kd.R_slice HO179.out
                  (first | subst eo39 | (injection eo39 with f1_ f2_ f3_; have f4_ := f1_.symm; have f5_ := f3_.symm; clear f1_ f2_ f3_; subst f4_; subst f5_))
                  refine hK.out _ _ ⟨(blk_cell BK153.out 0).trans rfl, (blk_cell BK153.out 1).trans rfl, (blk_cell BK153.out 2).trans rfl, (blk_cell BK153.out 3).trans rfl, (blk_cell BK153.out 4).trans rfl, (blk_cell BK153.out 5).trans rfl, (blk_cell BK153.out 6).trans rfl, (blk_cell BK153.out 7).trans rfl, (blk_cell BK153.out 8).trans rfl, ((HB.out.cell (World.block_lt_of_cell? w _ hw176_0)).trans hw176_0), ((HB.out.cell (World.block_lt_of_cell? w _ hw176_1)).trans hw176_1), ((HB.out.cell (World.block_lt_of_cell? w _ hw176_2)).trans hw176_2), ((HB.out.cell (World.block_lt_of_cell? w _ hw180_0)).trans hw180_0), ((HB.out.cell (World.block_lt_of_cell? w _ hw180_1)).trans hw180_1), ((HB.out.cell (World.block_lt_of_cell? w _ hw180_2)).trans hw180_2), ((HB.out.cell (World.block_lt_of_cell? w _ hw184_0)).trans hw184_0), ((HB.out.cell (World.block_lt_of_cell? w _ hw184_1)).trans hw184_1), ((HB.out.cell (World.block_lt_of_cell? w _ hw184_2)).trans hw184_2)⟩ (fun hHeld => ?_)
                  clear hK K
                  refine norm_ (a' := ?_) ?_ ?_
                  rotate_left
                  · show Act.put _ (some 68) _ = _
                    simp only [Act.put, List.setIfInBounds_toArray, List.set_cons_zero, List.set_cons_succ, i64_w, i32_w]
                    rfl
                  refine one_ (i := 14) (N := some 75) #[true, true, true, true, true, true, true, true, true, true, true, true, true, true, true, true, true, true, true, true, true, false, false] rfl rfl (one_of HT_.out (by kernel_rfl)) (by decide) (fun K hK => ?_)
                  refine goes_ Try.func32 (by kernel_rfl) rfl #[.slice Ao39 t177.length co39, .int .i64 ((rd_T46 l0_1 x6_2).f1), .int .i64 8] (by rfl) rfl rfl (by (try simp only [List.map_toArray, List.map_cons, List.map_nil]); first | done | rfl | (simp only [List.length_drop, List.length_take]; rfl)) ?_
                  with_reducible refine (signalboxref1_put.calls k2 (fun k_ => some k_ = (.slice Ao39 t177.length co39 : Value).ownBlock) (.slice Ao39 t177.length co39) t177 ((rd_T46 l0_1 x6_2).f1) 8 t181 w _ ?side1 ?side2 A33.out).mono ?_
                  (case side1 => repeat (first | (with_reducible first | exact HB.out | apply below_alloc | apply pw_below_drewN | apply below_drew1 | refine below_set ?_ GE153.out) | exact HB.out))
                  (case side2 => exact Kd.R_tight rfl HO179.out)
                  rintro e w40 ⟨v182, rfl, ho0, hb, hkp⟩
                  refine ⟨_, rfl, ?_⟩
                  have n0_ := Aside0.mk (blk_kept (by (with_reducible repeat (first | refine blk_drewN ?_ _ | refine blk_drew ?_ | refine blk_alloc ?_ _)); exact BK153.out) hkp (fun hs_ => (fun e_ => (Kd.R_ne HO179.out BK153.out (by decide)) e_) hs_))
                  have n1_ := Aside0.mk (Kd.R_mono (ok' := fun k_ => True) ho0 (fun k_ hk_ => trivial))
                  have n2_ := Aside0.mk (hb)
                  clear BK153
                  clear HB
                  clear HO179
                  have BK153 := n0_
                  have HO183 := n1_
                  have HB := n2_
                  clear n0_ n1_ n2_
                  (try clear hb)
                  (try clear hkp)
                  (try clear ho0)
                  obtain ⟨Ao41, co41, eo41⟩ := Kd.R_slice HO183.out
                  (first | subst eo41 | (injection eo41 with f1_ f2_ f3_; have f4_ := f1_.symm; have f5_ := f3_.symm; clear f1_ f2_ f3_; subst f4_; subst f5_))
                  refine hK.out _ _ ⟨(blk_cell BK153.out 0).trans rfl, (blk_cell BK153.out 1).trans rfl, (blk_cell BK153.out 2).trans rfl, (blk_cell BK153.out 3).trans rfl, (blk_cell BK153.out 4).trans rfl, (blk_cell BK153.out 5).trans rfl, (blk_cell BK153.out 6).trans rfl, (blk_cell BK153.out 7).trans rfl, (blk_cell BK153.out 8).trans rfl, ((HB.out.cell (World.block_lt_of_cell? w _ hw176_0)).trans hw176_0), ((HB.out.cell (World.block_lt_of_cell? w _ hw176_1)).trans hw176_1), ((HB.out.cell (World.block_lt_of_cell? w _ hw176_2)).trans hw176_2), ((HB.out.cell (World.block_lt_of_cell? w _ hw180_0)).trans hw180_0), ((HB.out.cell (World.block_lt_of_cell? w _ hw180_1)).trans hw180_1), ((HB.out.cell (World.block_lt_of_cell? w _ hw180_2)).trans hw180_2), ((HB.out.cell (World.block_lt_of_cell? w _ hw184_0)).trans hw184_0), ((HB.out.cell (World.block_lt_of_cell? w _ hw184_1)).trans hw184_1), ((HB.out.cell (World.block_lt_of_cell? w _ hw184_2)).trans hw184_2)⟩ (fun hHeld => ?_)
                  clear hK K
                  refine norm_ (a' := ?_) ?_ ?_
                  rotate_left
                  · show Act.put _ (some 75) _ = _
                    simp only [Act.put, List.setIfInBounds_toArray, List.set_cons_zero, List.set_cons_succ, i64_w, i32_w]
                    rfl
                  refine one_ (i := 21) (N := some 82) #[true, true, true, true, true, true, true, true, true, true, true, true, true, true, true, true, true, true, true, true, true, true, false] rfl rfl (one_of HT_.out (by kernel_rfl)) (by decide) (fun K hK => ?_)
                  refine goes_ Try.func32 (by kernel_rfl) rfl #[.slice Ao41 t181.length co41, .int .i64 ((rd_T46 l0_1 x6_2).f2), .int .i64 8] (by rfl) rfl rfl (by (try simp only [List.map_toArray, List.map_cons, List.map_nil]); first | done | rfl | (simp only [List.length_drop, List.length_take]; rfl)) ?_
                  with_reducible refine (signalboxref1_put.calls k2 (fun k_ => some k_ = (.slice Ao41 t181.length co41 : Value).ownBlock) (.slice Ao41 t181.length co41) t181 ((rd_T46 l0_1 x6_2).f2) 8 t185 w _ ?side1 ?side2 A34.out).mono ?_
                  (case side1 => repeat (first | (with_reducible first | exact HB.out | apply below_alloc | apply pw_below_drewN | apply below_drew1 | refine below_set ?_ GE153.out) | exact HB.out))
                  (case side2 => exact Kd.R_tight rfl HO183.out)
                  rintro e w42 ⟨v186, rfl, ho0, hb, hkp⟩
                  refine ⟨_, rfl, ?_⟩
                  have n0_ := Aside0.mk (blk_kept (by (with_reducible repeat (first | refine blk_drewN ?_ _ | refine blk_drew ?_ | refine blk_alloc ?_ _)); exact BK153.out) hkp (fun hs_ => (fun e_ => (Kd.R_ne HO183.out BK153.out (by decide)) e_) hs_))
                  have n1_ := Aside0.mk (Kd.R_mono (ok' := fun k_ => True) ho0 (fun k_ hk_ => trivial))
                  have n2_ := Aside0.mk (hb)
                  clear BK153
                  clear HB
                  clear HO183
                  have BK153 := n0_
                  have HO187 := n1_
                  have HB := n2_
                  clear n0_ n1_ n2_
                  (try clear hb)
                  (try clear hkp)
                  (try clear ho0)
                  refine hK.out _ _ ⟨(blk_cell BK153.out 0).trans rfl, (blk_cell BK153.out 1).trans rfl, (blk_cell BK153.out 2).trans rfl, (blk_cell BK153.out 3).trans rfl, (blk_cell BK153.out 4).trans rfl, (blk_cell BK153.out 5).trans rfl, (blk_cell BK153.out 6).trans rfl, (blk_cell BK153.out 7).trans rfl, (blk_cell BK153.out 8).trans rfl, ((HB.out.cell (World.block_lt_of_cell? w _ hw176_0)).trans hw176_0), ((HB.out.cell (World.block_lt_of_cell? w _ hw176_1)).trans hw176_1), ((HB.out.cell (World.block_lt_of_cell? w _ hw176_2)).trans hw176_2), ((HB.out.cell (World.block_lt_of_cell? w _ hw180_0)).trans hw180_0), ((HB.out.cell (World.block_lt_of_cell? w _ hw180_1)).trans hw180_1), ((HB.out.cell (World.block_lt_of_cell? w _ hw180_2)).trans hw180_2), ((HB.out.cell (World.block_lt_of_cell? w _ hw184_0)).trans hw184_0), ((HB.out.cell (World.block_lt_of_cell? w _ hw184_1)).trans hw184_1), ((HB.out.cell (World.block_lt_of_cell? w _ hw184_2)).trans hw184_2)⟩ (fun hHeld => ?_)
                  clear hK K
                  refine norm_ (a' := ?_) ?_ ?_
                  rotate_left
                  · show Act.put _ (some 82) _ = _
                    simp only [Act.put, List.setIfInBounds_toArray, List.set_cons_zero, List.set_cons_succ, i64_w, i32_w]
                    rfl
                  refine pure_ (i := 22) (N := some 4) (v := ?_) (a' := ?_) #[true, true, true, true, true, true, true, true, true, true, true, true, true, true, true, true, true, true, true, true, true, true, true] rfl rfl (any_of HT_.out (by kernel_rfl)) (fun _ _ _ h => h) (Or.inl ⟨by rfl, ?_⟩) ?_ ?_
                  rotate_left
                  · intro w'
                    go_simp
                    with_reducible rfl
                  rotate_left
                  · simp only [Act.put, List.setIfInBounds_toArray, List.set_cons_zero, List.set_cons_succ, i64_w, i32_w]
                    rfl
                  refine done_ (done_of HT_.out (by kernel_rfl)) ?_
                  try go_wp2
                  go_roundg k2
                  case measure => have := HK1.out; have := HK2.out; omega
                  case rel => exact ⟨(t185), (wrap64 (x6_2 + 1)), (by first | rfl | (simp; done) | (simp [*]; done)), H', ⟨by have := HK1.out; have := HK2.out; omega⟩, ⟨by (with_reducible repeat (first | apply Kd.R_alloc | apply Kd.R_drewN | apply Kd.R_drew)); exact HO187.out⟩, ⟨by (with_reducible repeat (first | refine blk_drewN ?_ _ | refine blk_drew ?_ | refine blk_alloc ?_ _)); exact BK153.out⟩, ⟨by repeat (first | (with_reducible first | exact HB.out | apply below_alloc | apply pw_below_drewN | apply below_drew1 | refine below_set ?_ GE153.out) | exact HB.out)⟩⟩
                · rw [if_neg c31] at H
                  exact absurd H (by simp)
              · rw [if_neg c30] at H
                have c30b0 : decide (x6_2 < (l0_1.length : Int)) = false := decide_eq_false c30
                clear c30
                replace H := Option.bind_eq_some_iff.mp H
                obtain ⟨t188, A430, H⟩ := H
                replace H : (signalboxref1_Encode.l2 k2 t188 0 l0_0 l0_1 l0_2 a0_3 l0_4 l0_5 l0_6 l0_7 a0_8) = some (r1, r2) := H
                have A43 := Aside0.mk A430
                clear A430
                have H' := Aside0.mk H
                clear H
                have hcz44_0 : wr.cell? ⟨gb153, 0, none⟩ = some (.slice A0_0 l0_0.length c0_0) := (blk_cell BK153.out 0).trans rfl
                have hcz44_1 : wr.cell? ⟨gb153, 1, none⟩ = some (.slice A0_1 l0_1.length c0_1) := (blk_cell BK153.out 1).trans rfl
                have hcz44_2 : wr.cell? ⟨gb153, 2, none⟩ = some (.slice A0_2 l0_2.length c0_2) := (blk_cell BK153.out 2).trans rfl
                have hcz44_3 : wr.cell? ⟨gb153, 3, none⟩ = some (.int .i64 a0_3) := (blk_cell BK153.out 3).trans rfl
                have hcz44_4 : wr.cell? ⟨gb153, 4, none⟩ = some (.slice A0_4 l0_4.length c0_4) := (blk_cell BK153.out 4).trans rfl
                have hcz44_5 : wr.cell? ⟨gb153, 5, none⟩ = some (.slice A0_5 l0_5.length c0_5) := (blk_cell BK153.out 5).trans rfl
                have hcz44_6 : wr.cell? ⟨gb153, 6, none⟩ = some (.slice A0_6 l0_6.length c0_6) := (blk_cell BK153.out 6).trans rfl
                have hcz44_7 : wr.cell? ⟨gb153, 7, none⟩ = some (.slice A0_7 l0_7.length c0_7) := (blk_cell BK153.out 7).trans rfl
                have hcz44_8 : wr.cell? ⟨gb153, 8, none⟩ = some (.int .i64 a0_8) := (blk_cell BK153.out 8).trans rfl
                have hfz44_0 := blk_frozen BK153.out 0
                have hfz44_1 := blk_frozen BK153.out 1
                have hfz44_2 := blk_frozen BK153.out 2
                have hfz44_3 := blk_frozen BK153.out 3
                have hfz44_4 := blk_frozen BK153.out 4
                have hfz44_5 := blk_frozen BK153.out 5
                have hfz44_6 := blk_frozen BK153.out 6
                have hfz44_7 := blk_frozen BK153.out 7
                have hfz44_8 := blk_frozen BK153.out 8
                obtain ⟨Ao45, co45, eo45⟩ := Kd.R_slice HO_4.out
                subst eo45
                go_wp2_with (first | ((with_reducible refine gate_callee (f := 32) rfl ?_); refine goesL_ (some 87) rfl rfl Try.func32 (by kernel_rfl) rfl #[.slice Ao45 x4_2.length co45, .int .i64 (l0_2.length : Int), .int .i64 2] rfl (by (try simp only [List.map_toArray, List.map_cons, List.map_nil]); first | done | rfl | (simp only [List.length_drop, List.length_take]; rfl)) ?_; (with_reducible refine (signalboxref1_put.calls k2 (fun k_ => some k_ = (.slice Ao45 x4_2.length co45 : Value).ownBlock) (.slice Ao45 x4_2.length co45) x4_2 (l0_2.length : Int) 2 t188 w _ ?side1 ?side2 A43.out).mono ?_); (case side1 => repeat (first | (with_reducible first | exact HB.out | apply below_alloc | apply pw_below_drewN | apply below_drew1 | refine below_set ?_ GE153.out) | exact HB.out)); (case side2 => exact Kd.R_tight rfl HO_4.out); rintro e w46 ⟨v189, rfl, ho0, hb, hkp⟩; refine ⟨_, rfl, ?_⟩; have n0_ := Aside0.mk (blk_kept (by (with_reducible repeat (first | refine blk_drewN ?_ _ | refine blk_drew ?_ | refine blk_alloc ?_ _)); exact BK153.out) hkp (fun hs_ => (fun e_ => (Kd.R_ne HO_4.out BK153.out (by decide)) e_) hs_)); have n1_ := Aside0.mk (Kd.R_mono (ok' := fun k_ => True) ho0 (fun k_ hk_ => trivial)); have n2_ := Aside0.mk (hb); clear BK153; clear HB; clear HO_4; have BK153 := n0_; have HO190 := n1_; have HB := n2_; clear n0_ n1_ n2_; (try clear hb); (try clear hkp); (try clear ho0)))
                go_loopg [4, 7] k2 (fun kq v4 v7 w' => ∃ (x4_3 : List Int) (x7_3 : Int), v7 = .int .i64 x7_3 ∧ Aside0 (signalboxref1_Encode.l2 kq x4_3 x7_3 l0_0 l0_1 l0_2 a0_3 l0_4 l0_5 l0_6 l0_7 a0_8 = some (r1, r2)) ∧ Aside0 (kq ≤ k2) ∧ Aside0 (Kd.R (Kd.int .u8) 5 w' w.heap.size (fun _ => True) v4 x4_3) ∧ Aside0 (w'.heap[gb153]? = some (.cells #[(.slice A0_0 l0_0.length c0_0), (.slice A0_1 l0_1.length c0_1), (.slice A0_2 l0_2.length c0_2), .int .i64 a0_3, (.slice A0_4 l0_4.length c0_4), (.slice A0_5 l0_5.length c0_5), (.slice A0_6 l0_6.length c0_6), (.slice A0_7 l0_7.length c0_7), .int .i64 a0_8] 29 (0, 0))) ∧ Aside0 (Below w.heap.size w w'))
                case atStart => exact ⟨(t188), (0), (by first | rfl | (simp; done) | (simp [*]; done)), H', ⟨Nat.le_refl _⟩, ⟨by (with_reducible repeat (first | apply Kd.R_alloc | apply Kd.R_drewN | apply Kd.R_drew)); exact HO190.out⟩, ⟨by (with_reducible repeat (first | refine blk_drewN ?_ _ | refine blk_drew ?_ | refine blk_alloc ?_ _)); exact BK153.out⟩, ⟨by repeat (first | (with_reducible first | exact HB.out | apply below_alloc | apply pw_below_drewN | apply below_drew1 | refine below_set ?_ GE153.out) | exact HB.out)⟩⟩
                case round =>
                  clear H'
                  try clear c1
                  try clear p1
                  try clear q1
                  try clear hx1
                  try clear p2
                  try clear c3
                  try clear p6
                  try clear c11
                  try clear c13
                  try clear c13b0
                  try clear c14
                  try clear c14b0
                  try clear p16
                  try clear q16
                  try clear hx16
                  try clear p17
                  try clear q17
                  try clear hx17
                  try clear p18
                  try clear q18
                  try clear hx18
                  try clear c30
                  try clear c30b0
                  try clear c31
                  try clear c31b0
                  try clear c32
                  try clear hcz10_0
                  try clear hcz10_1
                  try clear hcz10_2
                  try clear hcz10_3
                  try clear hcz10_4
                  try clear hcz10_5
                  try clear hcz10_6
                  try clear hcz10_7
                  try clear hcz10_8
                  try clear hcz18_0
                  try clear hcz18_1
                  try clear hcz18_2
                  try clear hcz18_3
                  try clear hcz18_4
                  try clear hcz18_5
                  try clear hcz18_6
                  try clear hcz18_7
                  try clear hcz18_8
                  try clear hcz27_0
                  try clear hcz27_1
                  try clear hcz27_2
                  try clear hcz27_3
                  try clear hcz27_4
                  try clear hcz27_5
                  try clear hcz27_6
                  try clear hcz27_7
                  try clear hcz27_8
                  try clear hcz35_0
                  try clear hcz35_1
                  try clear hcz35_2
                  try clear hcz35_3
                  try clear hcz35_4
                  try clear hcz35_5
                  try clear hcz35_6
                  try clear hcz35_7
                  try clear hcz35_8
                  try clear hcz44_0
                  try clear hcz44_1
                  try clear hcz44_2
                  try clear hcz44_3
                  try clear hcz44_4
                  try clear hcz44_5
                  try clear hcz44_6
                  try clear hcz44_7
                  try clear hcz44_8
                  try clear hcz6_0
                  try clear hcz6_1
                  try clear hcz6_2
                  try clear hcz6_3
                  try clear hcz6_4
                  try clear hcz6_5
                  try clear hcz6_6
                  try clear hcz6_7
                  try clear hcz6_8
                  try clear hfz10_0
                  try clear hfz10_1
                  try clear hfz10_2
                  try clear hfz10_3
                  try clear hfz10_4
                  try clear hfz10_5
                  try clear hfz10_6
                  try clear hfz10_7
                  try clear hfz10_8
                  try clear hfz18_0
                  try clear hfz18_1
                  try clear hfz18_2
                  try clear hfz18_3
                  try clear hfz18_4
                  try clear hfz18_5
                  try clear hfz18_6
                  try clear hfz18_7
                  try clear hfz18_8
                  try clear hfz27_0
                  try clear hfz27_1
                  try clear hfz27_2
                  try clear hfz27_3
                  try clear hfz27_4
                  try clear hfz27_5
                  try clear hfz27_6
                  try clear hfz27_7
                  try clear hfz27_8
                  try clear hfz35_0
                  try clear hfz35_1
                  try clear hfz35_2
                  try clear hfz35_3
                  try clear hfz35_4
                  try clear hfz35_5
                  try clear hfz35_6
                  try clear hfz35_7
                  try clear hfz35_8
                  try clear hfz44_0
                  try clear hfz44_1
                  try clear hfz44_2
                  try clear hfz44_3
                  try clear hfz44_4
                  try clear hfz44_5
                  try clear hfz44_6
                  try clear hfz44_7
                  try clear hfz44_8
                  try clear hfz6_0
                  try clear hfz6_1
                  try clear hfz6_2
                  try clear hfz6_3
                  try clear hfz6_4
                  try clear hfz6_5
                  try clear hfz6_6
                  try clear hfz6_7
                  try clear hfz6_8
                  try clear hx161_0
                  try clear hx161_1
                  try clear hx161_2
                  try clear hx165_0
                  try clear hx165_1
                  try clear hx165_2
                  try clear hx169_0
                  try clear hx169_1
                  try clear hx169_2
                  try clear hx176_0
                  try clear hx176_1
                  try clear hx176_2
                  try clear hx180_0
                  try clear hx180_1
                  try clear hx180_2
                  try clear hx184_0
                  try clear hx184_1
                  try clear hx184_2
                  try clear p1
                  try clear p16
                  try clear p161
                  try clear p165
                  try clear p169
                  try clear p176
                  try clear p180
                  try clear p184
                  try clear p2
                  try clear p6
                  try clear q1
                  try clear q16
                  try clear q161
                  try clear q165
                  try clear q169
                  try clear q176
                  try clear q180
                  try clear q184
                  obtain ⟨x4_3, x7_3, rfl, HA, HK3, HO_4, BK153, HB⟩ := hrel
                  cases gk with
                  | zero => exact absurd HA.out (by simp [signalboxref1_Encode.l2])
                  | succ k3 =>
                    have H := HA.out
                    clear HA
                    simp only [signalboxref1_Encode.l2] at H
                    by_cases c47 : x7_3 < (l0_2.length : Int)
                    · rw [if_pos c47] at H
                      have c47b0 : decide (x7_3 < (l0_2.length : Int)) = true := decide_eq_true c47
                      clear c47
                      by_cases c48 : 0 ≤ x7_3
                      · rw [if_pos c48] at H
                        have c48b0 : decide (0 ≤ x7_3) = true := decide_eq_true c48
                        clear c48
                        replace H := Option.bind_eq_some_iff.mp H
                        obtain ⟨t192, A490, H⟩ := H
                        replace H : ((signalboxref1_put.f k3 t192 ((rd_T56 l0_2 x7_3).f1) 8).bind fun t196 => (signalboxref1_Encode.l2 k3 t196 (wrap64 (x7_3 + 1)) l0_0 l0_1 l0_2 a0_3 l0_4 l0_5 l0_6 l0_7 a0_8)) = some (r1, r2) := H
                        have A49 := Aside0.mk A490
                        clear A490
                        replace H := Option.bind_eq_some_iff.mp H
                        obtain ⟨t196, A500, H⟩ := H
                        replace H : (signalboxref1_Encode.l2 k3 t196 (wrap64 (x7_3 + 1)) l0_0 l0_1 l0_2 a0_3 l0_4 l0_5 l0_6 l0_7 a0_8) = some (r1, r2) := H
                        have A50 := Aside0.mk A500
                        clear A500
                        have H' := Aside0.mk H
                        clear H
                        have hcz51_0 : wr.cell? ⟨gb153, 0, none⟩ = some (.slice A0_0 l0_0.length c0_0) := (blk_cell BK153.out 0).trans rfl
                        have hcz51_1 : wr.cell? ⟨gb153, 1, none⟩ = some (.slice A0_1 l0_1.length c0_1) := (blk_cell BK153.out 1).trans rfl
                        have hcz51_2 : wr.cell? ⟨gb153, 2, none⟩ = some (.slice A0_2 l0_2.length c0_2) := (blk_cell BK153.out 2).trans rfl
                        have hcz51_3 : wr.cell? ⟨gb153, 3, none⟩ = some (.int .i64 a0_3) := (blk_cell BK153.out 3).trans rfl
                        have hcz51_4 : wr.cell? ⟨gb153, 4, none⟩ = some (.slice A0_4 l0_4.length c0_4) := (blk_cell BK153.out 4).trans rfl
                        have hcz51_5 : wr.cell? ⟨gb153, 5, none⟩ = some (.slice A0_5 l0_5.length c0_5) := (blk_cell BK153.out 5).trans rfl
                        have hcz51_6 : wr.cell? ⟨gb153, 6, none⟩ = some (.slice A0_6 l0_6.length c0_6) := (blk_cell BK153.out 6).trans rfl
                        have hcz51_7 : wr.cell? ⟨gb153, 7, none⟩ = some (.slice A0_7 l0_7.length c0_7) := (blk_cell BK153.out 7).trans rfl
                        have hcz51_8 : wr.cell? ⟨gb153, 8, none⟩ = some (.int .i64 a0_8) := (blk_cell BK153.out 8).trans rfl
                        have hfz51_0 := blk_frozen BK153.out 0
                        have hfz51_1 := blk_frozen BK153.out 1
                        have hfz51_2 := blk_frozen BK153.out 2
                        have hfz51_3 := blk_frozen BK153.out 3
                        have hfz51_4 := blk_frozen BK153.out 4
                        have hfz51_5 := blk_frozen BK153.out 5
                        have hfz51_6 := blk_frozen BK153.out 6
                        have hfz51_7 := blk_frozen BK153.out 7
                        have hfz51_8 := blk_frozen BK153.out 8
                        try go_wp2
                        have n0_ := Aside0.mk (Kd.R_drew HO_4.out)
                        have n1_ := Aside0.mk (blk_drew BK153.out)
                        have n2_ := Aside0.mk (below_drew1 HB.out)
                        clear HO_4
                        clear BK153
                        clear HB
                        have HO_4 := n0_
                        have BK153 := n1_
                        have HB := n2_
                        clear n0_ n1_ n2_
                        have p191 : 0 ≤ (x7_3 : Int) := of_decide_eq_true (by first | (with_reducible assumption) | assumption)
                        have q191 : x7_3 < (l0_2.length : Int) := of_decide_eq_true (by first | (with_reducible assumption) | assumption)
                        obtain ⟨ad191, e191, hx191_0, hx191_1⟩ := at_T56 HR0_2.out x7_3 p191 q191
                        have hw191_1 := hx191_1
                        have hw191_0 := hx191_0
                        cases e191
                        replace hx191_0 := (HB.out.cell (World.block_lt_of_cell? w _ hx191_0)).trans hx191_0
                        replace hx191_1 := (HB.out.cell (World.block_lt_of_cell? w _ hx191_1)).trans hx191_1
                        replace p191 := eq_true p191
                        replace q191 := eq_true q191
                        have p195 : 0 ≤ (x7_3 : Int) := of_decide_eq_true (by first | (with_reducible assumption) | assumption)
                        have q195 : x7_3 < (l0_2.length : Int) := of_decide_eq_true (by first | (with_reducible assumption) | assumption)
                        obtain ⟨ad195, e195, hx195_0, hx195_1⟩ := at_T56 HR0_2.out x7_3 p195 q195
                        have hw195_1 := hx195_1
                        have hw195_0 := hx195_0
                        obtain rfl : ad191 = ad195 := (by injection e195)
                        replace hx195_0 := (HB.out.cell (World.block_lt_of_cell? w _ hx195_0)).trans hx195_0
                        replace hx195_1 := (HB.out.cell (World.block_lt_of_cell? w _ hx195_1)).trans hx195_1
                        replace p195 := eq_true p195
                        replace q195 := eq_true q195
                        obtain ⟨Ao53, co53, eo53⟩ := Kd.R_slice HO_4.out
                        (first | subst eo53 | (injection eo53 with f1_ f2_ f3_; have f4_ := f1_.symm; have f5_ := f3_.symm; clear f1_ f2_ f3_; subst f4_; subst f5_))
                        refine start_ (n := 16) (S := fun w' => w'.cell? ⟨gb153, 0, none⟩ = some (.slice A0_0 l0_0.length c0_0) ∧ w'.cell? ⟨gb153, 1, none⟩ = some (.slice A0_1 l0_1.length c0_1) ∧ w'.cell? ⟨gb153, 2, none⟩ = some (.slice (some ad191) l0_2.length c0_2) ∧ w'.cell? ⟨gb153, 3, none⟩ = some (.int .i64 a0_3) ∧ w'.cell? ⟨gb153, 4, none⟩ = some (.slice A0_4 l0_4.length c0_4) ∧ w'.cell? ⟨gb153, 5, none⟩ = some (.slice A0_5 l0_5.length c0_5) ∧ w'.cell? ⟨gb153, 6, none⟩ = some (.slice A0_6 l0_6.length c0_6) ∧ w'.cell? ⟨gb153, 7, none⟩ = some (.slice A0_7 l0_7.length c0_7) ∧ w'.cell? ⟨gb153, 8, none⟩ = some (.int .i64 a0_8) ∧ w'.cell? (ad191.add ((x7_3).toNat * 2)) = some (.int .i64 ((rd_T56 l0_2 x7_3).f0)) ∧ w'.cell? ⟨(ad191.add ((x7_3).toNat * 2)).block, (ad191.add ((x7_3).toNat * 2)).off + 1, none⟩ = some (.int .i64 ((rd_T56 l0_2 x7_3).f1)) ∧ w'.cell? (ad191.add ((x7_3).toNat * 2)) = some (.int .i64 ((rd_T56 l0_2 x7_3).f0)) ∧ w'.cell? ⟨(ad191.add ((x7_3).toNat * 2)).block, (ad191.add ((x7_3).toNat * 2)).off + 1, none⟩ = some (.int .i64 ((rd_T56 l0_2 x7_3).f1))) (ds := []) #[false, false, false, false, false, false, false, false, false, false, false, false, false, false, false, false] (by kernel_rfl) rfl rfl ⟨(blk_cell BK153.out 0).trans rfl, (blk_cell BK153.out 1).trans rfl, (blk_cell BK153.out 2).trans rfl, (blk_cell BK153.out 3).trans rfl, (blk_cell BK153.out 4).trans rfl, (blk_cell BK153.out 5).trans rfl, (blk_cell BK153.out 6).trans rfl, (blk_cell BK153.out 7).trans rfl, (blk_cell BK153.out 8).trans rfl, ((HB.out.cell (World.block_lt_of_cell? w _ hw191_0)).trans hw191_0), ((HB.out.cell (World.block_lt_of_cell? w _ hw191_1)).trans hw191_1), ((HB.out.cell (World.block_lt_of_cell? w _ hw195_0)).trans hw195_0), ((HB.out.cell (World.block_lt_of_cell? w _ hw195_1)).trans hw195_1)⟩ (fun hHeld => ?_); refine with_tabW signalboxref1_Encode.tab18 signalboxref1_Encode.bits18 (fun HT_ HW_ => ?_)
                        generalize wr.drew = w52 at HO_4 BK153 HB hx191_0 hx191_1 hx195_0 hx195_1 hHeld ⊢
                        refine pure_ (i := 0) (N := some 95) (v := ?_) (a' := ?_) #[true, false, false, false, false, false, false, false, false, false, false, false, false, false, false, false] rfl rfl (any_of HT_.out (by kernel_rfl)) (fun _ _ _ h => h) (Or.inl ⟨by rfl, ?_⟩) ?_ ?_
                        rotate_left
                        · intro w'
                          go_simp
                          with_reducible rfl
                        rotate_left
                        · simp only [Act.put, List.setIfInBounds_toArray, List.set_cons_zero, List.set_cons_succ, i64_w, i32_w]
                          rfl
                        refine pure_ (i := 1) (N := some 96) (v := ?_) (a' := ?_) #[true, true, false, false, false, false, false, false, false, false, false, false, false, false, false, false] rfl rfl (any_of HT_.out (by kernel_rfl)) (fun _ _ _ h => h) (Or.inl ⟨by rfl, ?_⟩) ?_ ?_
                        rotate_left
                        · intro w'
                          go_simp
                          with_reducible rfl
                        rotate_left
                        · simp only [Act.put, List.setIfInBounds_toArray, List.set_cons_zero, List.set_cons_succ, i64_w, i32_w]
                          rfl
                        refine pure_ (i := 3) (N := some 98) (v := ?_) (a' := ?_) #[true, true, false, true, false, false, false, false, false, false, false, false, false, false, false, false] rfl rfl (any_of HT_.out (by kernel_rfl)) (fun _ _ _ h => h) (Or.inl ⟨by rfl, ?_⟩) ?_ ?_
                        rotate_left
                        · intro w'
                          go_simp
                          with_reducible rfl
                        rotate_left
                        · simp only [Act.put, List.setIfInBounds_toArray, List.set_cons_zero, List.set_cons_succ, i64_w, i32_w]
                          rfl
                        refine pure_ (i := 8) (N := some 103) (v := ?_) (a' := ?_) #[true, true, false, true, false, false, false, false, true, false, false, false, false, false, false, false] rfl rfl (any_of HT_.out (by kernel_rfl)) (fun _ _ _ h => h) (Or.inl ⟨by rfl, ?_⟩) ?_ ?_
                        rotate_left
                        · intro w'
                          go_simp
                          with_reducible rfl
                        rotate_left
                        · simp only [Act.put, List.setIfInBounds_toArray, List.set_cons_zero, List.set_cons_succ, i64_w, i32_w]
                          rfl
                        refine pure_ (i := 10) (N := some 105) (v := ?_) (a' := ?_) #[true, true, false, true, false, false, false, false, true, false, true, false, false, false, false, false] rfl rfl (any_of HT_.out (by kernel_rfl)) (fun _ _ _ h => h) (Or.inl ⟨by rfl, ?_⟩) ?_ ?_
                        rotate_left
                        · intro w'
                          go_simp
                          with_reducible rfl
                        rotate_left
                        · simp only [Act.put, List.setIfInBounds_toArray, List.set_cons_zero, List.set_cons_succ, i64_w, i32_w]
                          rfl
                        refine take_ (i := 2) (N := some 97) (v := ?_) (a' := ?_) #[true, true, true, true, false, false, false, false, true, false, true, false, false, false, false, false] rfl rfl (take_ofW HT_.out HW_.out (by kernel_rfl)) (fun _ _ _ h => h) (Or.inl ⟨by rfl, ?_⟩) hHeld ?_ ?_
                        rotate_left
                        · rintro w' ⟨s0, s1, s2, s3, s4, s5, s6, s7, s8, s9, s10, s11, s12⟩
                          go_simp
                          with_reducible rfl
                        rotate_left
                        · simp only [Act.put, List.setIfInBounds_toArray, List.set_cons_zero, List.set_cons_succ, i64_w, i32_w]
                          rfl
                        refine pure_ (i := 4) (N := some 99) (v := ?_) (a' := ?_) #[true, true, true, true, true, false, false, false, true, false, true, false, false, false, false, false] rfl rfl (any_of HT_.out (by kernel_rfl)) (fun _ _ _ h => h) (Or.inl ⟨by rfl, ?_⟩) ?_ ?_
                        rotate_left
                        · intro w'
                          go_simp
                          with_reducible rfl
                        rotate_left
                        · simp only [Act.put, List.setIfInBounds_toArray, List.set_cons_zero, List.set_cons_succ, i64_w, i32_w]
                          rfl
                        refine pure_ (i := 5) (N := some 100) (v := ?_) (a' := ?_) #[true, true, true, true, true, true, false, false, true, false, true, false, false, false, false, false] rfl rfl (any_of HT_.out (by kernel_rfl)) (fun _ _ _ h => h) (Or.inl ⟨by rfl, ?_⟩) ?_ ?_
                        rotate_left
                        · intro w'
                          go_simp
                          with_reducible rfl
                        rotate_left
                        · simp only [Act.put, List.setIfInBounds_toArray, List.set_cons_zero, List.set_cons_succ, i64_w, i32_w]
                          rfl
                        refine take_ (i := 6) (N := some 101) (v := ?_) (a' := ?_) #[true, true, true, true, true, true, true, false, true, false, true, false, false, false, false, false] rfl rfl (take_ofW HT_.out HW_.out (by kernel_rfl)) (fun _ _ _ h => h) (Or.inl ⟨by rfl, ?_⟩) hHeld ?_ ?_
                        rotate_left
                        · rintro w' ⟨s0, s1, s2, s3, s4, s5, s6, s7, s8, s9, s10, s11, s12⟩
                          go_simp
                          with_reducible rfl
                        rotate_left
                        · simp only [Act.put, List.setIfInBounds_toArray, List.set_cons_zero, List.set_cons_succ, i64_w, i32_w]
                          rfl
                        refine take_ (i := 9) (N := some 104) (v := ?_) (a' := ?_) #[true, true, true, true, true, true, true, false, true, true, true, false, false, false, false, false] rfl rfl (take_ofW HT_.out HW_.out (by kernel_rfl)) (fun _ _ _ h => h) (Or.inl ⟨by rfl, ?_⟩) hHeld ?_ ?_
                        rotate_left
                        · rintro w' ⟨s0, s1, s2, s3, s4, s5, s6, s7, s8, s9, s10, s11, s12⟩
                          go_simp
                          with_reducible rfl
                        rotate_left
                        · simp only [Act.put, List.setIfInBounds_toArray, List.set_cons_zero, List.set_cons_succ, i64_w, i32_w]
                          rfl
                        refine pure_ (i := 11) (N := some 106) (v := ?_) (a' := ?_) #[true, true, true, true, true, true, true, false, true, true, true, true, false, false, false, false] rfl rfl (any_of HT_.out (by kernel_rfl)) (fun _ _ _ h => h) (Or.inl ⟨by rfl, ?_⟩) ?_ ?_
                        rotate_left
                        · intro w'
                          go_simp
                          with_reducible rfl
                        rotate_left
                        · simp only [Act.put, List.setIfInBounds_toArray, List.set_cons_zero, List.set_cons_succ, i64_w, i32_w]
                          rfl
                        refine pure_ (i := 12) (N := some 107) (v := ?_) (a' := ?_) #[true, true, true, true, true, true, true, false, true, true, true, true, true, false, false, false] rfl rfl (any_of HT_.out (by kernel_rfl)) (fun _ _ _ h => h) (Or.inl ⟨by rfl, ?_⟩) ?_ ?_
                        rotate_left
                        · intro w'
                          go_simp
                          with_reducible rfl
                        rotate_left
                        · simp only [Act.put, List.setIfInBounds_toArray, List.set_cons_zero, List.set_cons_succ, i64_w, i32_w]
                          rfl
                        refine take_ (i := 13) (N := some 108) (v := ?_) (a' := ?_) #[true, true, true, true, true, true, true, false, true, true, true, true, true, true, false, false] rfl rfl (take_ofW HT_.out HW_.out (by kernel_rfl)) (fun _ _ _ h => h) (Or.inl ⟨by rfl, ?_⟩) hHeld ?_ ?_
                        rotate_left
                        · rintro w' ⟨s0, s1, s2, s3, s4, s5, s6, s7, s8, s9, s10, s11, s12⟩
                          go_simp
                          with_reducible rfl
                        rotate_left
                        · simp only [Act.put, List.setIfInBounds_toArray, List.set_cons_zero, List.set_cons_succ, i64_w, i32_w]
                          rfl
                        refine one_ (i := 7) (N := some 102) #[true, true, true, true, true, true, true, true, true, true, true, true, true, true, false, false] rfl rfl (one_of HT_.out (by kernel_rfl)) (by decide) (fun K hK => ?_)
                        refine goes_ Try.func32 (by kernel_rfl) rfl #[.slice Ao53 x4_3.length co53, .int .i64 ((rd_T56 l0_2 x7_3).f0), .int .i64 8] (by rfl) rfl rfl (by (try simp only [List.map_toArray, List.map_cons, List.map_nil]); first | done | rfl | (simp only [List.length_drop, List.length_take]; rfl)) ?_
                        with_reducible refine (signalboxref1_put.calls k3 (fun k_ => some k_ = (.slice Ao53 x4_3.length co53 : Value).ownBlock) (.slice Ao53 x4_3.length co53) x4_3 ((rd_T56 l0_2 x7_3).f0) 8 t192 w _ ?side1 ?side2 A49.out).mono ?_
                        (case side1 => repeat (first | (with_reducible first | exact HB.out | apply below_alloc | apply pw_below_drewN | apply below_drew1 | refine below_set ?_ GE153.out) | exact HB.out))
                        (case side2 => exact Kd.R_tight rfl HO_4.out)
                        rintro e w54 ⟨v193, rfl, ho0, hb, hkp⟩
                        refine ⟨_, rfl, ?_⟩
                        have n0_ := Aside0.mk (blk_kept (by (with_reducible repeat (first | refine blk_drewN ?_ _ | refine blk_drew ?_ | refine blk_alloc ?_ _)); exact BK153.out) hkp (fun hs_ => (fun e_ => (Kd.R_ne HO_4.out BK153.out (by decide)) e_) hs_))
                        have n1_ := Aside0.mk (Kd.R_mono (ok' := fun k_ => True) ho0 (fun k_ hk_ => trivial))
                        have n2_ := Aside0.mk (hb)
                        clear BK153
                        clear HB
                        clear HO_4
                        have BK153 := n0_
                        have HO194 := n1_
                        have HB := n2_
                        clear n0_ n1_ n2_
                        (try clear hb)
                        (try clear hkp)
                        (try clear ho0)
                        obtain ⟨Ao55, co55, eo55⟩ := Kd.R_slice HO194.out
                        (first | subst eo55 | (injection eo55 with f1_ f2_ f3_; have f4_ := f1_.symm; have f5_ := f3_.symm; clear f1_ f2_ f3_; subst f4_; subst f5_))
                        refine hK.out _ _ ⟨(blk_cell BK153.out 0).trans rfl, (blk_cell BK153.out 1).trans rfl, (blk_cell BK153.out 2).trans rfl, (blk_cell BK153.out 3).trans rfl, (blk_cell BK153.out 4).trans rfl, (blk_cell BK153.out 5).trans rfl, (blk_cell BK153.out 6).trans rfl, (blk_cell BK153.out 7).trans rfl, (blk_cell BK153.out 8).trans rfl, ((HB.out.cell (World.block_lt_of_cell? w _ hw191_0)).trans hw191_0), ((HB.out.cell (World.block_lt_of_cell? w _ hw191_1)).trans hw191_1), ((HB.out.cell (World.block_lt_of_cell? w _ hw195_0)).trans hw195_0), ((HB.out.cell (World.block_lt_of_cell? w _ hw195_1)).trans hw195_1)⟩ (fun hHeld => ?_)
                        clear hK K
                        refine norm_ (a' := ?_) ?_ ?_
                        rotate_left
                        · show Act.put _ (some 102) _ = _
                          simp only [Act.put, List.setIfInBounds_toArray, List.set_cons_zero, List.set_cons_succ, i64_w, i32_w]
                          rfl
                        refine one_ (i := 14) (N := some 109) #[true, true, true, true, true, true, true, true, true, true, true, true, true, true, true, false] rfl rfl (one_of HT_.out (by kernel_rfl)) (by decide) (fun K hK => ?_)
                        refine goes_ Try.func32 (by kernel_rfl) rfl #[.slice Ao55 t192.length co55, .int .i64 ((rd_T56 l0_2 x7_3).f1), .int .i64 8] (by rfl) rfl rfl (by (try simp only [List.map_toArray, List.map_cons, List.map_nil]); first | done | rfl | (simp only [List.length_drop, List.length_take]; rfl)) ?_
                        with_reducible refine (signalboxref1_put.calls k3 (fun k_ => some k_ = (.slice Ao55 t192.length co55 : Value).ownBlock) (.slice Ao55 t192.length co55) t192 ((rd_T56 l0_2 x7_3).f1) 8 t196 w _ ?side1 ?side2 A50.out).mono ?_
                        (case side1 => repeat (first | (with_reducible first | exact HB.out | apply below_alloc | apply pw_below_drewN | apply below_drew1 | refine below_set ?_ GE153.out) | exact HB.out))
                        (case side2 => exact Kd.R_tight rfl HO194.out)
                        rintro e w56 ⟨v197, rfl, ho0, hb, hkp⟩
                        refine ⟨_, rfl, ?_⟩
                        have n0_ := Aside0.mk (blk_kept (by (with_reducible repeat (first | refine blk_drewN ?_ _ | refine blk_drew ?_ | refine blk_alloc ?_ _)); exact BK153.out) hkp (fun hs_ => (fun e_ => (Kd.R_ne HO194.out BK153.out (by decide)) e_) hs_))
                        have n1_ := Aside0.mk (Kd.R_mono (ok' := fun k_ => True) ho0 (fun k_ hk_ => trivial))
                        have n2_ := Aside0.mk (hb)
                        clear BK153
                        clear HB
                        clear HO194
                        have BK153 := n0_
                        have HO198 := n1_
                        have HB := n2_
                        clear n0_ n1_ n2_
                        (try clear hb)
                        (try clear hkp)
                        (try clear ho0)
                        refine hK.out _ _ ⟨(blk_cell BK153.out 0).trans rfl, (blk_cell BK153.out 1).trans rfl, (blk_cell BK153.out 2).trans rfl, (blk_cell BK153.out 3).trans rfl, (blk_cell BK153.out 4).trans rfl, (blk_cell BK153.out 5).trans rfl, (blk_cell BK153.out 6).trans rfl, (blk_cell BK153.out 7).trans rfl, (blk_cell BK153.out 8).trans rfl, ((HB.out.cell (World.block_lt_of_cell? w _ hw191_0)).trans hw191_0), ((HB.out.cell (World.block_lt_of_cell? w _ hw191_1)).trans hw191_1), ((HB.out.cell (World.block_lt_of_cell? w _ hw195_0)).trans hw195_0), ((HB.out.cell (World.block_lt_of_cell? w _ hw195_1)).trans hw195_1)⟩ (fun hHeld => ?_)
                        clear hK K
                        refine norm_ (a' := ?_) ?_ ?_
                        rotate_left
                        · show Act.put _ (some 109) _ = _
                          simp only [Act.put, List.setIfInBounds_toArray, List.set_cons_zero, List.set_cons_succ, i64_w, i32_w]
                          rfl
                        refine pure_ (i := 15) (N := some 4) (v := ?_) (a' := ?_) #[true, true, true, true, true, true, true, true, true, true, true, true, true, true, true, true] rfl rfl (any_of HT_.out (by kernel_rfl)) (fun _ _ _ h => h) (Or.inl ⟨by rfl, ?_⟩) ?_ ?_
                        rotate_left
                        · intro w'
                          go_simp
                          with_reducible rfl
                        rotate_left
                        · simp only [Act.put, List.setIfInBounds_toArray, List.set_cons_zero, List.set_cons_succ, i64_w, i32_w]
                          rfl
                        refine done_ (done_of HT_.out (by kernel_rfl)) ?_
                        try go_wp2
                        go_roundg k3
                        case measure => have := HK1.out; have := HK2.out; have := HK3.out; omega
                        case rel => exact ⟨(t196), (wrap64 (x7_3 + 1)), (by first | rfl | (simp; done) | (simp [*]; done)), H', ⟨by have := HK1.out; have := HK2.out; have := HK3.out; omega⟩, ⟨by (with_reducible repeat (first | apply Kd.R_alloc | apply Kd.R_drewN | apply Kd.R_drew)); exact HO198.out⟩, ⟨by (with_reducible repeat (first | refine blk_drewN ?_ _ | refine blk_drew ?_ | refine blk_alloc ?_ _)); exact BK153.out⟩, ⟨by repeat (first | (with_reducible first | exact HB.out | apply below_alloc | apply pw_below_drewN | apply below_drew1 | refine below_set ?_ GE153.out) | exact HB.out)⟩⟩
                      · rw [if_neg c48] at H
                        exact absurd H (by simp)
                    · rw [if_neg c47] at H
                      have c47b0 : decide (x7_3 < (l0_2.length : Int)) = false := decide_eq_false c47
                      clear c47
                      replace H := Option.bind_eq_some_iff.mp H
                      obtain ⟨t199, A570, H⟩ := H
                      replace H : ((signalboxref1_puts.f k3 t199 l0_4).bind fun t202 => ((signalboxref1_puts.f k3 t202 l0_5).bind fun t205 => ((signalboxref1_put.f k3 t205 (l0_6.length : Int) 2).bind fun t208 => (signalboxref1_Encode.l3 k3 t208 0 l0_0 l0_1 l0_2 a0_3 l0_4 l0_5 l0_6 l0_7 a0_8)))) = some (r1, r2) := H
                      have A57 := Aside0.mk A570
                      clear A570
                      replace H := Option.bind_eq_some_iff.mp H
                      obtain ⟨t202, A580, H⟩ := H
                      replace H : ((signalboxref1_puts.f k3 t202 l0_5).bind fun t205 => ((signalboxref1_put.f k3 t205 (l0_6.length : Int) 2).bind fun t208 => (signalboxref1_Encode.l3 k3 t208 0 l0_0 l0_1 l0_2 a0_3 l0_4 l0_5 l0_6 l0_7 a0_8))) = some (r1, r2) := H
                      have A58 := Aside0.mk A580
                      clear A580
                      replace H := Option.bind_eq_some_iff.mp H
                      obtain ⟨t205, A590, H⟩ := H
                      replace H : ((signalboxref1_put.f k3 t205 (l0_6.length : Int) 2).bind fun t208 => (signalboxref1_Encode.l3 k3 t208 0 l0_0 l0_1 l0_2 a0_3 l0_4 l0_5 l0_6 l0_7 a0_8)) = some (r1, r2) := H
                      have A59 := Aside0.mk A590
                      clear A590
                      replace H := Option.bind_eq_some_iff.mp H
                      obtain ⟨t208, A600, H⟩ := H
                      replace H : (signalboxref1_Encode.l3 k3 t208 0 l0_0 l0_1 l0_2 a0_3 l0_4 l0_5 l0_6 l0_7 a0_8) = some (r1, r2) := H
                      have A60 := Aside0.mk A600
                      clear A600
                      have H' := Aside0.mk H
                      clear H
                      have hcz61_0 : wr.cell? ⟨gb153, 0, none⟩ = some (.slice A0_0 l0_0.length c0_0) := (blk_cell BK153.out 0).trans rfl
                      have hcz61_1 : wr.cell? ⟨gb153, 1, none⟩ = some (.slice A0_1 l0_1.length c0_1) := (blk_cell BK153.out 1).trans rfl
                      have hcz61_2 : wr.cell? ⟨gb153, 2, none⟩ = some (.slice A0_2 l0_2.length c0_2) := (blk_cell BK153.out 2).trans rfl
                      have hcz61_3 : wr.cell? ⟨gb153, 3, none⟩ = some (.int .i64 a0_3) := (blk_cell BK153.out 3).trans rfl
                      have hcz61_4 : wr.cell? ⟨gb153, 4, none⟩ = some (.slice A0_4 l0_4.length c0_4) := (blk_cell BK153.out 4).trans rfl
                      have hcz61_5 : wr.cell? ⟨gb153, 5, none⟩ = some (.slice A0_5 l0_5.length c0_5) := (blk_cell BK153.out 5).trans rfl
                      have hcz61_6 : wr.cell? ⟨gb153, 6, none⟩ = some (.slice A0_6 l0_6.length c0_6) := (blk_cell BK153.out 6).trans rfl
                      have hcz61_7 : wr.cell? ⟨gb153, 7, none⟩ = some (.slice A0_7 l0_7.length c0_7) := (blk_cell BK153.out 7).trans rfl
                      have hcz61_8 : wr.cell? ⟨gb153, 8, none⟩ = some (.int .i64 a0_8) := (blk_cell BK153.out 8).trans rfl
                      have hfz61_0 := blk_frozen BK153.out 0
                      have hfz61_1 := blk_frozen BK153.out 1
                      have hfz61_2 := blk_frozen BK153.out 2
                      have hfz61_3 := blk_frozen BK153.out 3
                      have hfz61_4 := blk_frozen BK153.out 4
                      have hfz61_5 := blk_frozen BK153.out 5
                      have hfz61_6 := blk_frozen BK153.out 6
                      have hfz61_7 := blk_frozen BK153.out 7
                      have hfz61_8 := blk_frozen BK153.out 8
                      obtain ⟨Ao62, co62, eo62⟩ := Kd.R_slice HO_4.out
                      subst eo62
                      try go_wp2_with (first | ((with_reducible refine gate_callee (f := 32) rfl ?_); refine goesL_ (some 113) rfl rfl Try.func32 (by kernel_rfl) rfl #[.slice Ao62 x4_3.length co62, .int .i64 a0_3, .int .i64 8] rfl (by (try simp only [List.map_toArray, List.map_cons, List.map_nil]); first | done | rfl | (simp only [List.length_drop, List.length_take]; rfl)) ?_; (with_reducible refine (signalboxref1_put.calls k3 (fun k_ => some k_ = (.slice Ao62 x4_3.length co62 : Value).ownBlock) (.slice Ao62 x4_3.length co62) x4_3 a0_3 8 t199 w _ ?side1 ?side2 A57.out).mono ?_); (case side1 => repeat (first | (with_reducible first | exact HB.out | apply below_alloc | apply pw_below_drewN | apply below_drew1 | refine below_set ?_ GE153.out) | exact HB.out)); (case side2 => exact Kd.R_tight rfl HO_4.out); rintro e w63 ⟨v200, rfl, ho0, hb, hkp⟩; refine ⟨_, rfl, ?_⟩; have n0_ := Aside0.mk (blk_kept (by (with_reducible repeat (first | refine blk_drewN ?_ _ | refine blk_drew ?_ | refine blk_alloc ?_ _)); exact BK153.out) hkp (fun hs_ => (fun e_ => (Kd.R_ne HO_4.out BK153.out (by decide)) e_) hs_)); have n1_ := Aside0.mk (Kd.R_mono (ok' := fun k_ => True) ho0 (fun k_ hk_ => trivial)); have n2_ := Aside0.mk (hb); clear BK153; clear HB; clear HO_4; have BK153 := n0_; have HO201 := n1_; have HB := n2_; clear n0_ n1_ n2_; (try clear hb); (try clear hkp); (try clear ho0)))
                      have n0_ := Aside0.mk (Kd.R_drew HO201.out)
                      have n1_ := Aside0.mk (blk_drew BK153.out)
                      have n2_ := Aside0.mk (below_drew1 HB.out)
                      clear HO201
                      clear BK153
                      clear HB
                      have HO201 := n0_
                      have BK153 := n1_
                      have HB := n2_
                      clear n0_ n1_ n2_
                      obtain ⟨Ao65, co65, eo65⟩ := Kd.R_slice HO201.out
                      (first | subst eo65 | (injection eo65 with f1_ f2_ f3_; have f4_ := f1_.symm; have f5_ := f3_.symm; clear f1_ f2_ f3_; subst f4_; subst f5_))
                      refine start_ (n := 8) (S := fun w' => w'.cell? ⟨gb153, 0, none⟩ = some (.slice A0_0 l0_0.length c0_0) ∧ w'.cell? ⟨gb153, 1, none⟩ = some (.slice A0_1 l0_1.length c0_1) ∧ w'.cell? ⟨gb153, 2, none⟩ = some (.slice A0_2 l0_2.length c0_2) ∧ w'.cell? ⟨gb153, 3, none⟩ = some (.int .i64 a0_3) ∧ w'.cell? ⟨gb153, 4, none⟩ = some (.slice A0_4 l0_4.length c0_4) ∧ w'.cell? ⟨gb153, 5, none⟩ = some (.slice A0_5 l0_5.length c0_5) ∧ w'.cell? ⟨gb153, 6, none⟩ = some (.slice A0_6 l0_6.length c0_6) ∧ w'.cell? ⟨gb153, 7, none⟩ = some (.slice A0_7 l0_7.length c0_7) ∧ w'.cell? ⟨gb153, 8, none⟩ = some (.int .i64 a0_8)) (ds := []) #[false, false, false, false, false, false, false, false] (by kernel_rfl) rfl rfl ⟨(blk_cell BK153.out 0).trans rfl, (blk_cell BK153.out 1).trans rfl, (blk_cell BK153.out 2).trans rfl, (blk_cell BK153.out 3).trans rfl, (blk_cell BK153.out 4).trans rfl, (blk_cell BK153.out 5).trans rfl, (blk_cell BK153.out 6).trans rfl, (blk_cell BK153.out 7).trans rfl, (blk_cell BK153.out 8).trans rfl⟩ (fun hHeld => ?_); refine with_tabW signalboxref1_Encode.tab20 signalboxref1_Encode.bits20 (fun HT_ HW_ => ?_)
                      generalize w63.drew = w64 at HO201 BK153 HB hHeld ⊢
                      refine pure_ (i := 0) (N := some 114) (v := ?_) (a' := ?_) #[true, false, false, false, false, false, false, false] rfl rfl (any_of HT_.out (by kernel_rfl)) (fun _ _ _ h => h) (Or.inl ⟨by rfl, ?_⟩) ?_ ?_
                      rotate_left
                      · intro w'
                        go_simp
                        with_reducible rfl
                      rotate_left
                      · simp only [Act.put, List.setIfInBounds_toArray, List.set_cons_zero, List.set_cons_succ, i64_w, i32_w]
                        rfl
                      refine pure_ (i := 1) (N := some 115) (v := ?_) (a' := ?_) #[true, true, false, false, false, false, false, false] rfl rfl (any_of HT_.out (by kernel_rfl)) (fun _ _ _ h => h) (Or.inl ⟨by rfl, ?_⟩) ?_ ?_
                      rotate_left
                      · intro w'
                        go_simp
                        with_reducible rfl
                      rotate_left
                      · simp only [Act.put, List.setIfInBounds_toArray, List.set_cons_zero, List.set_cons_succ, i64_w, i32_w]
                        rfl
                      refine pure_ (i := 4) (N := some 118) (v := ?_) (a' := ?_) #[true, true, false, false, true, false, false, false] rfl rfl (any_of HT_.out (by kernel_rfl)) (fun _ _ _ h => h) (Or.inl ⟨by rfl, ?_⟩) ?_ ?_
                      rotate_left
                      · intro w'
                        go_simp
                        with_reducible rfl
                      rotate_left
                      · simp only [Act.put, List.setIfInBounds_toArray, List.set_cons_zero, List.set_cons_succ, i64_w, i32_w]
                        rfl
                      refine take_ (i := 2) (N := some 116) (v := ?_) (a' := ?_) #[true, true, true, false, true, false, false, false] rfl rfl (take_ofW HT_.out HW_.out (by kernel_rfl)) (fun _ _ _ h => h) (Or.inl ⟨by rfl, ?_⟩) hHeld ?_ ?_
                      rotate_left
                      · rintro w' ⟨s0, s1, s2, s3, s4, s5, s6, s7, s8⟩
                        go_simp
                        with_reducible rfl
                      rotate_left
                      · simp only [Act.put, List.setIfInBounds_toArray, List.set_cons_zero, List.set_cons_succ, i64_w, i32_w]
                        rfl
                      refine take_ (i := 5) (N := some 119) (v := ?_) (a' := ?_) #[true, true, true, false, true, true, false, false] rfl rfl (take_ofW HT_.out HW_.out (by kernel_rfl)) (fun _ _ _ h => h) (Or.inl ⟨by rfl, ?_⟩) hHeld ?_ ?_
                      rotate_left
                      · rintro w' ⟨s0, s1, s2, s3, s4, s5, s6, s7, s8⟩
                        go_simp
                        with_reducible rfl
                      rotate_left
                      · simp only [Act.put, List.setIfInBounds_toArray, List.set_cons_zero, List.set_cons_succ, i64_w, i32_w]
                        rfl
                      refine one_ (i := 3) (N := some 117) #[true, true, true, true, true, true, false, false] rfl rfl (one_of HT_.out (by kernel_rfl)) (by decide) (fun K hK => ?_)
                      refine goes_ Try.func33 (by kernel_rfl) rfl #[.slice Ao65 t199.length co65, .slice A0_4 l0_4.length c0_4] (by rfl) rfl rfl (by (try simp only [List.map_toArray, List.map_cons, List.map_nil]); first | done | rfl | (simp only [List.length_drop, List.length_take]; rfl)) ?_
                      with_reducible refine (signalboxref1_puts.calls k3 (fun k_ => some k_ = (.slice Ao65 t199.length co65 : Value).ownBlock) (.slice Ao65 t199.length co65) t199 _ _ l0_4 t202 w _ ?side1 ?side2 ?side3 ?side4 A58.out).mono ?_
                      (case side1 => repeat (first | (with_reducible first | exact HB.out | apply below_alloc | apply pw_below_drewN | apply below_drew1 | refine below_set ?_ GE153.out) | exact HB.out))
                      (case side2 => exact Kd.R_tight rfl HO201.out)
                      (case side3 => exact Kd.C_kept_came (Kd.heap_int .i64) HR0_4.out (by repeat (first | (with_reducible first | exact HB.out | apply below_alloc | apply pw_below_drewN | apply below_drew1 | refine below_set ?_ GE153.out) | exact HB.out)) (fun k_ hs_ => (fun e_ => Kd.R_base HO201.out k_ e_.symm) hs_))
                      (case side4 => exact HC0_4.out)
                      rintro e w66 ⟨v203, rfl, ho0, hb, hkp⟩
                      refine ⟨_, rfl, ?_⟩
                      have n0_ := Aside0.mk (blk_kept (by (with_reducible repeat (first | refine blk_drewN ?_ _ | refine blk_drew ?_ | refine blk_alloc ?_ _)); exact BK153.out) hkp (fun hs_ => (fun e_ => (Kd.R_ne HO201.out BK153.out (by decide)) e_) hs_))
                      have n1_ := Aside0.mk (Kd.R_mono (ok' := fun k_ => True) ho0 (fun k_ hk_ => trivial))
                      have n2_ := Aside0.mk (hb)
                      clear BK153
                      clear HB
                      clear HO201
                      have BK153 := n0_
                      have HO204 := n1_
                      have HB := n2_
                      clear n0_ n1_ n2_
                      (try clear hb)
                      (try clear hkp)
                      (try clear ho0)
                      obtain ⟨Ao67, co67, eo67⟩ := Kd.R_slice HO204.out
                      (first | subst eo67 | (injection eo67 with f1_ f2_ f3_; have f4_ := f1_.symm; have f5_ := f3_.symm; clear f1_ f2_ f3_; subst f4_; subst f5_))
                      refine hK.out _ _ ⟨(blk_cell BK153.out 0).trans rfl, (blk_cell BK153.out 1).trans rfl, (blk_cell BK153.out 2).trans rfl, (blk_cell BK153.out 3).trans rfl, (blk_cell BK153.out 4).trans rfl, (blk_cell BK153.out 5).trans rfl, (blk_cell BK153.out 6).trans rfl, (blk_cell BK153.out 7).trans rfl, (blk_cell BK153.out 8).trans rfl⟩ (fun hHeld => ?_)
                      clear hK K
                      refine norm_ (a' := ?_) ?_ ?_
                      rotate_left
                      · show Act.put _ (some 117) _ = _
                        simp only [Act.put, List.setIfInBounds_toArray, List.set_cons_zero, List.set_cons_succ, i64_w, i32_w]
                        rfl
                      refine one_ (i := 6) (N := some 120) #[true, true, true, true, true, true, true, false] rfl rfl (one_of HT_.out (by kernel_rfl)) (by decide) (fun K hK => ?_)
                      refine goes_ Try.func33 (by kernel_rfl) rfl #[.slice Ao67 t202.length co67, .slice A0_5 l0_5.length c0_5] (by rfl) rfl rfl (by (try simp only [List.map_toArray, List.map_cons, List.map_nil]); first | done | rfl | (simp only [List.length_drop, List.length_take]; rfl)) ?_
                      with_reducible refine (signalboxref1_puts.calls k3 (fun k_ => some k_ = (.slice Ao67 t202.length co67 : Value).ownBlock) (.slice Ao67 t202.length co67) t202 _ _ l0_5 t205 w _ ?side1 ?side2 ?side3 ?side4 A59.out).mono ?_
                      (case side1 => repeat (first | (with_reducible first | exact HB.out | apply below_alloc | apply pw_below_drewN | apply below_drew1 | refine below_set ?_ GE153.out) | exact HB.out))
                      (case side2 => exact Kd.R_tight rfl HO204.out)
                      (case side3 => exact Kd.C_kept_came (Kd.heap_int .i64) HR0_5.out (by repeat (first | (with_reducible first | exact HB.out | apply below_alloc | apply pw_below_drewN | apply below_drew1 | refine below_set ?_ GE153.out) | exact HB.out)) (fun k_ hs_ => (fun e_ => Kd.R_base HO204.out k_ e_.symm) hs_))
                      (case side4 => exact HC0_5.out)
                      rintro e w68 ⟨v206, rfl, ho0, hb, hkp⟩
                      refine ⟨_, rfl, ?_⟩
                      have n0_ := Aside0.mk (blk_kept (by (with_reducible repeat (first | refine blk_drewN ?_ _ | refine blk_drew ?_ | refine blk_alloc ?_ _)); exact BK153.out) hkp (fun hs_ => (fun e_ => (Kd.R_ne HO204.out BK153.out (by decide)) e_) hs_))
                      have n1_ := Aside0.mk (Kd.R_mono (ok' := fun k_ => True) ho0 (fun k_ hk_ => trivial))
                      have n2_ := Aside0.mk (hb)
                      clear BK153
                      clear HB
                      clear HO204
                      have BK153 := n0_
                      have HO207 := n1_
                      have HB := n2_
                      clear n0_ n1_ n2_
                      (try clear hb)
                      (try clear hkp)
                      (try clear ho0)
                      refine hK.out _ _ ⟨(blk_cell BK153.out 0).trans rfl, (blk_cell BK153.out 1).trans rfl, (blk_cell BK153.out 2).trans rfl, (blk_cell BK153.out 3).trans rfl, (blk_cell BK153.out 4).trans rfl, (blk_cell BK153.out 5).trans rfl, (blk_cell BK153.out 6).trans rfl, (blk_cell BK153.out 7).trans rfl, (blk_cell BK153.out 8).trans rfl⟩ (fun hHeld => ?_)
                      clear hK K
                      refine norm_ (a' := ?_) ?_ ?_
                      rotate_left
                      · show Act.put _ (some 120) _ = _
                        simp only [Act.put, List.setIfInBounds_toArray, List.set_cons_zero, List.set_cons_succ, i64_w, i32_w]
                        rfl
                      refine pure_ (i := 7) (N := some 4) (v := ?_) (a' := ?_) #[true, true, true, true, true, true, true, true] rfl rfl (any_of HT_.out (by kernel_rfl)) (fun _ _ _ h => h) (Or.inl ⟨by rfl, ?_⟩) ?_ ?_
                      rotate_left
                      · intro w'
                        go_simp
                        with_reducible rfl
                      rotate_left
                      · simp only [Act.put, List.setIfInBounds_toArray, List.set_cons_zero, List.set_cons_succ, i64_w, i32_w]
                        rfl
                      refine done_ (done_of HT_.out (by kernel_rfl)) ?_
                      have hcz69_0 : w68.cell? ⟨gb153, 0, none⟩ = some (.slice A0_0 l0_0.length c0_0) := (blk_cell BK153.out 0).trans rfl
                      have hcz69_1 : w68.cell? ⟨gb153, 1, none⟩ = some (.slice A0_1 l0_1.length c0_1) := (blk_cell BK153.out 1).trans rfl
                      have hcz69_2 : w68.cell? ⟨gb153, 2, none⟩ = some (.slice A0_2 l0_2.length c0_2) := (blk_cell BK153.out 2).trans rfl
                      have hcz69_3 : w68.cell? ⟨gb153, 3, none⟩ = some (.int .i64 a0_3) := (blk_cell BK153.out 3).trans rfl
                      have hcz69_4 : w68.cell? ⟨gb153, 4, none⟩ = some (.slice A0_4 l0_4.length c0_4) := (blk_cell BK153.out 4).trans rfl
                      have hcz69_5 : w68.cell? ⟨gb153, 5, none⟩ = some (.slice A0_5 l0_5.length c0_5) := (blk_cell BK153.out 5).trans rfl
                      have hcz69_6 : w68.cell? ⟨gb153, 6, none⟩ = some (.slice A0_6 l0_6.length c0_6) := (blk_cell BK153.out 6).trans rfl
                      have hcz69_7 : w68.cell? ⟨gb153, 7, none⟩ = some (.slice A0_7 l0_7.length c0_7) := (blk_cell BK153.out 7).trans rfl
                      have hcz69_8 : w68.cell? ⟨gb153, 8, none⟩ = some (.int .i64 a0_8) := (blk_cell BK153.out 8).trans rfl
                      have hfz69_0 := blk_frozen BK153.out 0
                      have hfz69_1 := blk_frozen BK153.out 1
                      have hfz69_2 := blk_frozen BK153.out 2
                      have hfz69_3 := blk_frozen BK153.out 3
                      have hfz69_4 := blk_frozen BK153.out 4
                      have hfz69_5 := blk_frozen BK153.out 5
                      have hfz69_6 := blk_frozen BK153.out 6
                      have hfz69_7 := blk_frozen BK153.out 7
                      have hfz69_8 := blk_frozen BK153.out 8
                      obtain ⟨Ao70, co70, eo70⟩ := Kd.R_slice HO207.out
                      subst eo70
                      try go_wp2_with (first | ((with_reducible refine gate_callee (f := 32) rfl ?_); refine goesL_ (some 125) rfl rfl Try.func32 (by kernel_rfl) rfl #[.slice Ao70 t205.length co70, .int .i64 (l0_6.length : Int), .int .i64 2] rfl (by (try simp only [List.map_toArray, List.map_cons, List.map_nil]); first | done | rfl | (simp only [List.length_drop, List.length_take]; rfl)) ?_; (with_reducible refine (signalboxref1_put.calls k3 (fun k_ => some k_ = (.slice Ao70 t205.length co70 : Value).ownBlock) (.slice Ao70 t205.length co70) t205 (l0_6.length : Int) 2 t208 w _ ?side1 ?side2 A60.out).mono ?_); (case side1 => repeat (first | (with_reducible first | exact HB.out | apply below_alloc | apply pw_below_drewN | apply below_drew1 | refine below_set ?_ GE153.out) | exact HB.out)); (case side2 => exact Kd.R_tight rfl HO207.out); rintro e w71 ⟨v209, rfl, ho0, hb, hkp⟩; refine ⟨_, rfl, ?_⟩; have n0_ := Aside0.mk (blk_kept (by (with_reducible repeat (first | refine blk_drewN ?_ _ | refine blk_drew ?_ | refine blk_alloc ?_ _)); exact BK153.out) hkp (fun hs_ => (fun e_ => (Kd.R_ne HO207.out BK153.out (by decide)) e_) hs_)); have n1_ := Aside0.mk (Kd.R_mono (ok' := fun k_ => True) ho0 (fun k_ hk_ => trivial)); have n2_ := Aside0.mk (hb); clear BK153; clear HB; clear HO207; have BK153 := n0_; have HO210 := n1_; have HB := n2_; clear n0_ n1_ n2_; (try clear hb); (try clear hkp); (try clear ho0)))
                      go_loopg [4, 8] k3 (fun kq v4 v8 w' => ∃ (x4_4 : List Int) (x8_4 : Int), v8 = .int .i64 x8_4 ∧ Aside0 (signalboxref1_Encode.l3 kq x4_4 x8_4 l0_0 l0_1 l0_2 a0_3 l0_4 l0_5 l0_6 l0_7 a0_8 = some (r1, r2)) ∧ Aside0 (kq ≤ k3) ∧ Aside0 (Kd.R (Kd.int .u8) 5 w' w.heap.size (fun _ => True) v4 x4_4) ∧ Aside0 (w'.heap[gb153]? = some (.cells #[(.slice A0_0 l0_0.length c0_0), (.slice A0_1 l0_1.length c0_1), (.slice A0_2 l0_2.length c0_2), .int .i64 a0_3, (.slice A0_4 l0_4.length c0_4), (.slice A0_5 l0_5.length c0_5), (.slice A0_6 l0_6.length c0_6), (.slice A0_7 l0_7.length c0_7), .int .i64 a0_8] 29 (0, 0))) ∧ Aside0 (Below w.heap.size w w'))
                      case atStart => exact ⟨(t208), (0), (by first | rfl | (simp; done) | (simp [*]; done)), H', ⟨Nat.le_refl _⟩, ⟨by (with_reducible repeat (first | apply Kd.R_alloc | apply Kd.R_drewN | apply Kd.R_drew)); exact HO210.out⟩, ⟨by (with_reducible repeat (first | refine blk_drewN ?_ _ | refine blk_drew ?_ | refine blk_alloc ?_ _)); exact BK153.out⟩, ⟨by repeat (first | (with_reducible first | exact HB.out | apply below_alloc | apply pw_below_drewN | apply below_drew1 | refine below_set ?_ GE153.out) | exact HB.out)⟩⟩
                      case round =>
                        clear H'
                        try clear p1
                        try clear q1
                        try clear hx1
                        try clear p2
                        try clear c3
                        try clear c4
                        try clear p6
                        try clear p16
                        try clear q16
                        try clear hx16
                        try clear p17
                        try clear q17
                        try clear hx17
                        try clear p18
                        try clear q18
                        try clear hx18
                        try clear p19
                        try clear q19
                        try clear hx19
                        try clear c30
                        try clear c30b0
                        try clear c31
                        try clear c31b0
                        try clear c32
                        try clear c33
                        try clear c47
                        try clear c47b0
                        try clear c48
                        try clear c48b0
                        try clear p64
                        try clear hcz10_0
                        try clear hcz10_1
                        try clear hcz10_2
                        try clear hcz10_3
                        try clear hcz10_4
                        try clear hcz10_5
                        try clear hcz10_6
                        try clear hcz10_7
                        try clear hcz10_8
                        try clear hcz18_0
                        try clear hcz18_1
                        try clear hcz18_2
                        try clear hcz18_3
                        try clear hcz18_4
                        try clear hcz18_5
                        try clear hcz18_6
                        try clear hcz18_7
                        try clear hcz18_8
                        try clear hcz27_0
                        try clear hcz27_1
                        try clear hcz27_2
                        try clear hcz27_3
                        try clear hcz27_4
                        try clear hcz27_5
                        try clear hcz27_6
                        try clear hcz27_7
                        try clear hcz27_8
                        try clear hcz35_0
                        try clear hcz35_1
                        try clear hcz35_2
                        try clear hcz35_3
                        try clear hcz35_4
                        try clear hcz35_5
                        try clear hcz35_6
                        try clear hcz35_7
                        try clear hcz35_8
                        try clear hcz44_0
                        try clear hcz44_1
                        try clear hcz44_2
                        try clear hcz44_3
                        try clear hcz44_4
                        try clear hcz44_5
                        try clear hcz44_6
                        try clear hcz44_7
                        try clear hcz44_8
                        try clear hcz51_0
                        try clear hcz51_1
                        try clear hcz51_2
                        try clear hcz51_3
                        try clear hcz51_4
                        try clear hcz51_5
                        try clear hcz51_6
                        try clear hcz51_7
                        try clear hcz51_8
                        try clear hcz61_0
                        try clear hcz61_1
                        try clear hcz61_2
                        try clear hcz61_3
                        try clear hcz61_4
                        try clear hcz61_5
                        try clear hcz61_6
                        try clear hcz61_7
                        try clear hcz61_8
                        try clear hcz69_0
                        try clear hcz69_1
                        try clear hcz69_2
                        try clear hcz69_3
                        try clear hcz69_4
                        try clear hcz69_5
                        try clear hcz69_6
                        try clear hcz69_7
                        try clear hcz69_8
                        try clear hcz6_0
                        try clear hcz6_1
                        try clear hcz6_2
                        try clear hcz6_3
                        try clear hcz6_4
                        try clear hcz6_5
                        try clear hcz6_6
                        try clear hcz6_7
                        try clear hcz6_8
                        try clear hfz10_0
                        try clear hfz10_1
                        try clear hfz10_2
                        try clear hfz10_3
                        try clear hfz10_4
                        try clear hfz10_5
                        try clear hfz10_6
                        try clear hfz10_7
                        try clear hfz10_8
                        try clear hfz18_0
                        try clear hfz18_1
                        try clear hfz18_2
                        try clear hfz18_3
                        try clear hfz18_4
                        try clear hfz18_5
                        try clear hfz18_6
                        try clear hfz18_7
                        try clear hfz18_8
                        try clear hfz27_0
                        try clear hfz27_1
                        try clear hfz27_2
                        try clear hfz27_3
                        try clear hfz27_4
                        try clear hfz27_5
                        try clear hfz27_6
                        try clear hfz27_7
                        try clear hfz27_8
                        try clear hfz35_0
                        try clear hfz35_1
                        try clear hfz35_2
                        try clear hfz35_3
                        try clear hfz35_4
                        try clear hfz35_5
                        try clear hfz35_6
                        try clear hfz35_7
                        try clear hfz35_8
                        try clear hfz44_0
                        try clear hfz44_1
                        try clear hfz44_2
                        try clear hfz44_3
                        try clear hfz44_4
                        try clear hfz44_5
                        try clear hfz44_6
                        try clear hfz44_7
                        try clear hfz44_8
                        try clear hfz51_0
                        try clear hfz51_1
                        try clear hfz51_2
                        try clear hfz51_3
                        try clear hfz51_4
                        try clear hfz51_5
                        try clear hfz51_6
                        try clear hfz51_7
                        try clear hfz51_8
                        try clear hfz61_0
                        try clear hfz61_1
                        try clear hfz61_2
                        try clear hfz61_3
                        try clear hfz61_4
                        try clear hfz61_5
                        try clear hfz61_6
                        try clear hfz61_7
                        try clear hfz61_8
                        try clear hfz69_0
                        try clear hfz69_1
                        try clear hfz69_2
                        try clear hfz69_3
                        try clear hfz69_4
                        try clear hfz69_5
                        try clear hfz69_6
                        try clear hfz69_7
                        try clear hfz69_8
                        try clear hfz6_0
                        try clear hfz6_1
                        try clear hfz6_2
                        try clear hfz6_3
                        try clear hfz6_4
                        try clear hfz6_5
                        try clear hfz6_6
                        try clear hfz6_7
                        try clear hfz6_8
                        try clear hx161_0
                        try clear hx161_1
                        try clear hx161_2
                        try clear hx165_0
                        try clear hx165_1
                        try clear hx165_2
                        try clear hx169_0
                        try clear hx169_1
                        try clear hx169_2
                        try clear hx176_0
                        try clear hx176_1
                        try clear hx176_2
                        try clear hx180_0
                        try clear hx180_1
                        try clear hx180_2
                        try clear hx184_0
                        try clear hx184_1
                        try clear hx184_2
                        try clear hx191_0
                        try clear hx191_1
                        try clear hx195_0
                        try clear hx195_1
                        try clear p1
                        try clear p16
                        try clear p161
                        try clear p165
                        try clear p169
                        try clear p176
                        try clear p180
                        try clear p184
                        try clear p191
                        try clear p195
                        try clear p2
                        try clear p6
                        try clear q1
                        try clear q16
                        try clear q161
                        try clear q165
                        try clear q169
                        try clear q176
                        try clear q18
                        try clear q180
                        try clear q184
                        try clear q191
                        try clear q195
                        obtain ⟨x4_4, x8_4, rfl, HA, HK4, HO_4, BK153, HB⟩ := hrel
                        cases gk with
                        | zero => exact absurd HA.out (by simp [signalboxref1_Encode.l3])
                        | succ k4 =>
                          have H := HA.out
                          clear HA
                          simp only [signalboxref1_Encode.l3] at H
                          by_cases c72 : x8_4 < (l0_6.length : Int)
                          · rw [if_pos c72] at H
                            have c72b0 : decide (x8_4 < (l0_6.length : Int)) = true := decide_eq_true c72
                            clear c72
                            have H' := Aside0.mk H
                            clear H
                            have hcz73_0 : wr.cell? ⟨gb153, 0, none⟩ = some (.slice A0_0 l0_0.length c0_0) := (blk_cell BK153.out 0).trans rfl
                            have hcz73_1 : wr.cell? ⟨gb153, 1, none⟩ = some (.slice A0_1 l0_1.length c0_1) := (blk_cell BK153.out 1).trans rfl
                            have hcz73_2 : wr.cell? ⟨gb153, 2, none⟩ = some (.slice A0_2 l0_2.length c0_2) := (blk_cell BK153.out 2).trans rfl
                            have hcz73_3 : wr.cell? ⟨gb153, 3, none⟩ = some (.int .i64 a0_3) := (blk_cell BK153.out 3).trans rfl
                            have hcz73_4 : wr.cell? ⟨gb153, 4, none⟩ = some (.slice A0_4 l0_4.length c0_4) := (blk_cell BK153.out 4).trans rfl
                            have hcz73_5 : wr.cell? ⟨gb153, 5, none⟩ = some (.slice A0_5 l0_5.length c0_5) := (blk_cell BK153.out 5).trans rfl
                            have hcz73_6 : wr.cell? ⟨gb153, 6, none⟩ = some (.slice A0_6 l0_6.length c0_6) := (blk_cell BK153.out 6).trans rfl
                            have hcz73_7 : wr.cell? ⟨gb153, 7, none⟩ = some (.slice A0_7 l0_7.length c0_7) := (blk_cell BK153.out 7).trans rfl
                            have hcz73_8 : wr.cell? ⟨gb153, 8, none⟩ = some (.int .i64 a0_8) := (blk_cell BK153.out 8).trans rfl
                            have hfz73_0 := blk_frozen BK153.out 0
                            have hfz73_1 := blk_frozen BK153.out 1
                            have hfz73_2 := blk_frozen BK153.out 2
                            have hfz73_3 := blk_frozen BK153.out 3
                            have hfz73_4 := blk_frozen BK153.out 4
                            have hfz73_5 := blk_frozen BK153.out 5
                            have hfz73_6 := blk_frozen BK153.out 6
                            have hfz73_7 := blk_frozen BK153.out 7
                            have hfz73_8 := blk_frozen BK153.out 8
                            go_wp2
                            go_loopg [4, 9] k4 (fun kq v4 v9 w' => ∃ (x4_5 : List Int) (x9_5 : Int), v9 = .int .i64 x9_5 ∧ Aside0 (signalboxref1_Encode.l4 kq x4_5 x8_4 x9_5 l0_0 l0_1 l0_2 a0_3 l0_4 l0_5 l0_6 l0_7 a0_8 = some (r1, r2)) ∧ Aside0 (kq ≤ k4) ∧ Aside0 (Kd.R (Kd.int .u8) 5 w' w.heap.size (fun _ => True) v4 x4_5) ∧ Aside0 (w'.heap[gb153]? = some (.cells #[(.slice A0_0 l0_0.length c0_0), (.slice A0_1 l0_1.length c0_1), (.slice A0_2 l0_2.length c0_2), .int .i64 a0_3, (.slice A0_4 l0_4.length c0_4), (.slice A0_5 l0_5.length c0_5), (.slice A0_6 l0_6.length c0_6), (.slice A0_7 l0_7.length c0_7), .int .i64 a0_8] 29 (0, 0))) ∧ Aside0 (Below w.heap.size w w'))
                            case atStart => exact ⟨(x4_4), (0), (by first | rfl | (simp; done) | (simp [*]; done)), H', ⟨Nat.le_refl _⟩, ⟨by (with_reducible repeat (first | apply Kd.R_alloc | apply Kd.R_drewN | apply Kd.R_drew)); exact HO_4.out⟩, ⟨by (with_reducible repeat (first | refine blk_drewN ?_ _ | refine blk_drew ?_ | refine blk_alloc ?_ _)); exact BK153.out⟩, ⟨by repeat (first | (with_reducible first | exact HB.out | apply below_alloc | apply pw_below_drewN | apply below_drew1 | refine below_set ?_ GE153.out) | exact HB.out)⟩⟩
                            case round =>
                              clear H'
                              try clear p1
                              try clear q1
                              try clear hx1
                              try clear p2
                              try clear c3
                              try clear c4
                              try clear p6
                              try clear c7
                              try clear p16
                              try clear q16
                              try clear hx16
                              try clear p17
                              try clear q17
                              try clear hx17
                              try clear p18
                              try clear q18
                              try clear hx18
                              try clear p19
                              try clear q19
                              try clear hx19
                              try clear c30
                              try clear c30b0
                              try clear c31
                              try clear c31b0
                              try clear c32
                              try clear c33
                              try clear c47
                              try clear c47b0
                              try clear c48
                              try clear c48b0
                              try clear p64
                              try clear c72
                              try clear c72b0
                              try clear hcz10_0
                              try clear hcz10_1
                              try clear hcz10_2
                              try clear hcz10_3
                              try clear hcz10_4
                              try clear hcz10_5
                              try clear hcz10_6
                              try clear hcz10_7
                              try clear hcz10_8
                              try clear hcz18_0
                              try clear hcz18_1
                              try clear hcz18_2
                              try clear hcz18_3
                              try clear hcz18_4
                              try clear hcz18_5
                              try clear hcz18_6
                              try clear hcz18_7
                              try clear hcz18_8
                              try clear hcz27_0
                              try clear hcz27_1
                              try clear hcz27_2
                              try clear hcz27_3
                              try clear hcz27_4
                              try clear hcz27_5
                              try clear hcz27_6
                              try clear hcz27_7
                              try clear hcz27_8
                              try clear hcz35_0
                              try clear hcz35_1
                              try clear hcz35_2
                              try clear hcz35_3
                              try clear hcz35_4
                              try clear hcz35_5
                              try clear hcz35_6
                              try clear hcz35_7
                              try clear hcz35_8
                              try clear hcz44_0
                              try clear hcz44_1
                              try clear hcz44_2
                              try clear hcz44_3
                              try clear hcz44_4
                              try clear hcz44_5
                              try clear hcz44_6
                              try clear hcz44_7
                              try clear hcz44_8
                              try clear hcz51_0
                              try clear hcz51_1
                              try clear hcz51_2
                              try clear hcz51_3
                              try clear hcz51_4
                              try clear hcz51_5
                              try clear hcz51_6
                              try clear hcz51_7
                              try clear hcz51_8
                              try clear hcz61_0
                              try clear hcz61_1
                              try clear hcz61_2
                              try clear hcz61_3
                              try clear hcz61_4
                              try clear hcz61_5
                              try clear hcz61_6
                              try clear hcz61_7
                              try clear hcz61_8
                              try clear hcz69_0
                              try clear hcz69_1
                              try clear hcz69_2
                              try clear hcz69_3
                              try clear hcz69_4
                              try clear hcz69_5
                              try clear hcz69_6
                              try clear hcz69_7
                              try clear hcz69_8
                              try clear hcz6_0
                              try clear hcz6_1
                              try clear hcz6_2
                              try clear hcz6_3
                              try clear hcz6_4
                              try clear hcz6_5
                              try clear hcz6_6
                              try clear hcz6_7
                              try clear hcz6_8
                              try clear hcz73_0
                              try clear hcz73_1
                              try clear hcz73_2
                              try clear hcz73_3
                              try clear hcz73_4
                              try clear hcz73_5
                              try clear hcz73_6
                              try clear hcz73_7
                              try clear hcz73_8
                              try clear hfz10_0
                              try clear hfz10_1
                              try clear hfz10_2
                              try clear hfz10_3
                              try clear hfz10_4
                              try clear hfz10_5
                              try clear hfz10_6
                              try clear hfz10_7
                              try clear hfz10_8
                              try clear hfz18_0
                              try clear hfz18_1
                              try clear hfz18_2
                              try clear hfz18_3
                              try clear hfz18_4
                              try clear hfz18_5
                              try clear hfz18_6
                              try clear hfz18_7
                              try clear hfz18_8
                              try clear hfz27_0
                              try clear hfz27_1
                              try clear hfz27_2
                              try clear hfz27_3
                              try clear hfz27_4
                              try clear hfz27_5
                              try clear hfz27_6
                              try clear hfz27_7
                              try clear hfz27_8
                              try clear hfz35_0
                              try clear hfz35_1
                              try clear hfz35_2
                              try clear hfz35_3
                              try clear hfz35_4
                              try clear hfz35_5
                              try clear hfz35_6
                              try clear hfz35_7
                              try clear hfz35_8
                              try clear hfz44_0
                              try clear hfz44_1
                              try clear hfz44_2
                              try clear hfz44_3
                              try clear hfz44_4
                              try clear hfz44_5
                              try clear hfz44_6
                              try clear hfz44_7
                              try clear hfz44_8
                              try clear hfz51_0
                              try clear hfz51_1
                              try clear hfz51_2
                              try clear hfz51_3
                              try clear hfz51_4
                              try clear hfz51_5
                              try clear hfz51_6
                              try clear hfz51_7
                              try clear hfz51_8
                              try clear hfz61_0
                              try clear hfz61_1
                              try clear hfz61_2
                              try clear hfz61_3
                              try clear hfz61_4
                              try clear hfz61_5
                              try clear hfz61_6
                              try clear hfz61_7
                              try clear hfz61_8
                              try clear hfz69_0
                              try clear hfz69_1
                              try clear hfz69_2
                              try clear hfz69_3
                              try clear hfz69_4
                              try clear hfz69_5
                              try clear hfz69_6
                              try clear hfz69_7
                              try clear hfz69_8
                              try clear hfz6_0
                              try clear hfz6_1
                              try clear hfz6_2
                              try clear hfz6_3
                              try clear hfz6_4
                              try clear hfz6_5
                              try clear hfz6_6
                              try clear hfz6_7
                              try clear hfz6_8
                              try clear hfz73_0
                              try clear hfz73_1
                              try clear hfz73_2
                              try clear hfz73_3
                              try clear hfz73_4
                              try clear hfz73_5
                              try clear hfz73_6
                              try clear hfz73_7
                              try clear hfz73_8
                              try clear hx161_0
                              try clear hx161_1
                              try clear hx161_2
                              try clear hx165_0
                              try clear hx165_1
                              try clear hx165_2
                              try clear hx169_0
                              try clear hx169_1
                              try clear hx169_2
                              try clear hx176_0
                              try clear hx176_1
                              try clear hx176_2
                              try clear hx180_0
                              try clear hx180_1
                              try clear hx180_2
                              try clear hx184_0
                              try clear hx184_1
                              try clear hx184_2
                              try clear hx191_0
                              try clear hx191_1
                              try clear hx195_0
                              try clear hx195_1
                              try clear p1
                              try clear p16
                              try clear p161
                              try clear p165
                              try clear p169
                              try clear p17
                              try clear p176
                              try clear p18
                              try clear p180
                              try clear p184
                              try clear p19
                              try clear p191
                              try clear p195
                              try clear p2
                              try clear p6
                              try clear p64
                              try clear q1
                              try clear q16
                              try clear q161
                              try clear q165
                              try clear q169
                              try clear q17
                              try clear q176
                              try clear q18
                              try clear q180
                              try clear q184
                              try clear q19
                              try clear q191
                              try clear q195
                              obtain ⟨x4_5, x9_5, rfl, HA, HK5, HO_4, BK153, HB⟩ := hrel
                              cases gk with
                              | zero => exact absurd HA.out (by simp [signalboxref1_Encode.l4])
                              | succ k5 =>
                                have H := HA.out
                                clear HA
                                simp only [signalboxref1_Encode.l4] at H
                                by_cases c74 : 0 ≤ x8_4
                                · rw [if_pos c74] at H
                                  have c74b0 : decide (0 ≤ x8_4) = true := decide_eq_true c74
                                  clear c74
                                  by_cases c75 : x8_4 < (l0_6.length : Int)
                                  · rw [if_pos c75] at H
                                    have c75b0 : decide (x8_4 < (l0_6.length : Int)) = true := decide_eq_true c75
                                    clear c75
                                    by_cases c76 : x9_5 < ((rd_L1 l0_6 x8_4).length : Int)
                                    · rw [if_pos c76] at H
                                      have c76b0 : decide (x9_5 < ((rd_L1 l0_6 x8_4).length : Int)) = true := decide_eq_true c76
                                      clear c76
                                      by_cases c77 : 0 ≤ x9_5
                                      · rw [if_pos c77] at H
                                        have c77b0 : decide (0 ≤ x9_5) = true := decide_eq_true c77
                                        clear c77
                                        replace H := Option.bind_eq_some_iff.mp H
                                        obtain ⟨t214, A780, H⟩ := H
                                        replace H : (signalboxref1_Encode.l4 k5 t214 x8_4 (wrap64 (x9_5 + 1)) l0_0 l0_1 l0_2 a0_3 l0_4 l0_5 l0_6 l0_7 a0_8) = some (r1, r2) := H
                                        have A78 := Aside0.mk A780
                                        clear A780
                                        have H' := Aside0.mk H
                                        clear H
                                        have hcz79_0 : wr.cell? ⟨gb153, 0, none⟩ = some (.slice A0_0 l0_0.length c0_0) := (blk_cell BK153.out 0).trans rfl
                                        have hcz79_1 : wr.cell? ⟨gb153, 1, none⟩ = some (.slice A0_1 l0_1.length c0_1) := (blk_cell BK153.out 1).trans rfl
                                        have hcz79_2 : wr.cell? ⟨gb153, 2, none⟩ = some (.slice A0_2 l0_2.length c0_2) := (blk_cell BK153.out 2).trans rfl
                                        have hcz79_3 : wr.cell? ⟨gb153, 3, none⟩ = some (.int .i64 a0_3) := (blk_cell BK153.out 3).trans rfl
                                        have hcz79_4 : wr.cell? ⟨gb153, 4, none⟩ = some (.slice A0_4 l0_4.length c0_4) := (blk_cell BK153.out 4).trans rfl
                                        have hcz79_5 : wr.cell? ⟨gb153, 5, none⟩ = some (.slice A0_5 l0_5.length c0_5) := (blk_cell BK153.out 5).trans rfl
                                        have hcz79_6 : wr.cell? ⟨gb153, 6, none⟩ = some (.slice A0_6 l0_6.length c0_6) := (blk_cell BK153.out 6).trans rfl
                                        have hcz79_7 : wr.cell? ⟨gb153, 7, none⟩ = some (.slice A0_7 l0_7.length c0_7) := (blk_cell BK153.out 7).trans rfl
                                        have hcz79_8 : wr.cell? ⟨gb153, 8, none⟩ = some (.int .i64 a0_8) := (blk_cell BK153.out 8).trans rfl
                                        have hfz79_0 := blk_frozen BK153.out 0
                                        have hfz79_1 := blk_frozen BK153.out 1
                                        have hfz79_2 := blk_frozen BK153.out 2
                                        have hfz79_3 := blk_frozen BK153.out 3
                                        have hfz79_4 := blk_frozen BK153.out 4
                                        have hfz79_5 := blk_frozen BK153.out 5
                                        have hfz79_6 := blk_frozen BK153.out 6
                                        have hfz79_7 := blk_frozen BK153.out 7
                                        have hfz79_8 := blk_frozen BK153.out 8
                                        have p211 : 0 ≤ (x8_4 : Int) := of_decide_eq_true (by first | (with_reducible assumption) | assumption)
                                        have q211 : x8_4 < (l0_6.length : Int) := of_decide_eq_true (by first | (with_reducible assumption) | assumption)
                                        obtain ⟨ad211, A211_0, c211_0, e211, hx211_0, hl211_0, hi211_0⟩ := at_L1 HR0_6.out x8_4 p211 q211
                                        cases e211
                                        replace hx211_0 := (HB.out.cell (World.block_lt_of_cell? w _ hx211_0)).trans hx211_0
                                        have HR211_0 := Aside0.mk hi211_0
                                        have HC211_0 := Aside0.mk hl211_0
                                        clear hi211_0 hl211_0
                                        replace p211 := eq_true p211
                                        replace q211 := eq_true q211
                                        have p212 : 0 ≤ (x8_4 : Int) := of_decide_eq_true (by first | (with_reducible assumption) | assumption)
                                        have q212 : x8_4 < (l0_6.length : Int) := of_decide_eq_true (by first | (with_reducible assumption) | assumption)
                                        obtain ⟨ad212, A212_0, c212_0, e212, hx212_0, hl212_0, hi212_0⟩ := at_L1 HR0_6.out x8_4 p212 q212
                                        obtain rfl : ad211 = ad212 := (by injection e212)
                                        replace hx212_0 := (HB.out.cell (World.block_lt_of_cell? w _ hx212_0)).trans hx212_0
                                        have HR212_0 := Aside0.mk hi212_0
                                        have HC212_0 := Aside0.mk hl212_0
                                        clear hi212_0 hl212_0
                                        replace p212 := eq_true p212
                                        replace q212 := eq_true q212
                                        have ea_ := Option.some.inj (hx211_0.symm.trans hx212_0)
                                        injection ea_ with ea_ en_ ec_
                                        subst ea_
                                        subst ec_
                                        clear en_
                                        have p213 : 0 ≤ (x9_5 : Int) := of_decide_eq_true (by first | (with_reducible assumption) | assumption)
                                        have q213 : x9_5 < ((rd_L1 l0_6 x8_4).length : Int) := of_decide_eq_true (by first | (with_reducible assumption) | assumption)
                                        obtain ⟨ad213, e213, hx213_0⟩ := Kd.at_int HR212_0.out x9_5 p213 q213
                                        cases e213
                                        replace hx213_0 := (HB.out.cell (World.block_lt_of_cell? w _ hx213_0)).trans hx213_0
                                        replace p213 := eq_true p213
                                        replace q213 := eq_true q213
                                        obtain ⟨Ao80, co80, eo80⟩ := Kd.R_slice HO_4.out
                                        subst eo80
                                        go_wp2_with (first | ((with_reducible refine gate_callee (f := 32) rfl ?_); refine goesL_ (some 152) rfl rfl Try.func32 (by kernel_rfl) rfl #[.slice Ao80 x4_5.length co80, .int .i64 (rd (rd_L1 l0_6 x8_4) x9_5), .int .i64 8] rfl (by (try simp only [List.map_toArray, List.map_cons, List.map_nil]); first | done | rfl | (simp only [List.length_drop, List.length_take]; rfl)) ?_; (with_reducible refine (signalboxref1_put.calls k5 (fun k_ => some k_ = (.slice Ao80 x4_5.length co80 : Value).ownBlock) (.slice Ao80 x4_5.length co80) x4_5 (rd (rd_L1 l0_6 x8_4) x9_5) 8 t214 w _ ?side1 ?side2 A78.out).mono ?_); (case side1 => repeat (first | (with_reducible first | exact HB.out | apply below_alloc | apply pw_below_drewN | apply below_drew1 | refine below_set ?_ GE153.out) | exact HB.out)); (case side2 => exact Kd.R_tight rfl HO_4.out); rintro e w81 ⟨v215, rfl, ho0, hb, hkp⟩; refine ⟨_, rfl, ?_⟩; have n0_ := Aside0.mk (blk_kept (by (with_reducible repeat (first | refine blk_drewN ?_ _ | refine blk_drew ?_ | refine blk_alloc ?_ _)); exact BK153.out) hkp (fun hs_ => (fun e_ => (Kd.R_ne HO_4.out BK153.out (by decide)) e_) hs_)); have n1_ := Aside0.mk (Kd.R_mono (ok' := fun k_ => True) ho0 (fun k_ hk_ => trivial)); have n2_ := Aside0.mk (hb); clear BK153; clear HB; clear HO_4; have BK153 := n0_; have HO216 := n1_; have HB := n2_; clear n0_ n1_ n2_; (try clear hb); (try clear hkp); (try clear ho0)))
                                        go_roundg k5
                                        case measure => have := HK1.out; have := HK2.out; have := HK3.out; have := HK4.out; have := HK5.out; omega
                                        case rel => exact ⟨(t214), (wrap64 (x9_5 + 1)), (by first | rfl | (simp; done) | (simp [*]; done)), H', ⟨by have := HK1.out; have := HK2.out; have := HK3.out; have := HK4.out; have := HK5.out; omega⟩, ⟨by (with_reducible repeat (first | apply Kd.R_alloc | apply Kd.R_drewN | apply Kd.R_drew)); exact HO216.out⟩, ⟨by (with_reducible repeat (first | refine blk_drewN ?_ _ | refine blk_drew ?_ | refine blk_alloc ?_ _)); exact BK153.out⟩, ⟨by repeat (first | (with_reducible first | exact HB.out | apply below_alloc | apply pw_below_drewN | apply below_drew1 | refine below_set ?_ GE153.out) | exact HB.out)⟩⟩
                                      · rw [if_neg c77] at H
                                        exact absurd H (by simp)
                                    · rw [if_neg c76] at H
                                      have c76b0 : decide (x9_5 < ((rd_L1 l0_6 x8_4).length : Int)) = false := decide_eq_false c76
                                      clear c76
                                      have H' := Aside0.mk H
                                      clear H
                                      have hcz82_0 : wr.cell? ⟨gb153, 0, none⟩ = some (.slice A0_0 l0_0.length c0_0) := (blk_cell BK153.out 0).trans rfl
                                      have hcz82_1 : wr.cell? ⟨gb153, 1, none⟩ = some (.slice A0_1 l0_1.length c0_1) := (blk_cell BK153.out 1).trans rfl
                                      have hcz82_2 : wr.cell? ⟨gb153, 2, none⟩ = some (.slice A0_2 l0_2.length c0_2) := (blk_cell BK153.out 2).trans rfl
                                      have hcz82_3 : wr.cell? ⟨gb153, 3, none⟩ = some (.int .i64 a0_3) := (blk_cell BK153.out 3).trans rfl
                                      have hcz82_4 : wr.cell? ⟨gb153, 4, none⟩ = some (.slice A0_4 l0_4.length c0_4) := (blk_cell BK153.out 4).trans rfl
                                      have hcz82_5 : wr.cell? ⟨gb153, 5, none⟩ = some (.slice A0_5 l0_5.length c0_5) := (blk_cell BK153.out 5).trans rfl
                                      have hcz82_6 : wr.cell? ⟨gb153, 6, none⟩ = some (.slice A0_6 l0_6.length c0_6) := (blk_cell BK153.out 6).trans rfl
                                      have hcz82_7 : wr.cell? ⟨gb153, 7, none⟩ = some (.slice A0_7 l0_7.length c0_7) := (blk_cell BK153.out 7).trans rfl
                                      have hcz82_8 : wr.cell? ⟨gb153, 8, none⟩ = some (.int .i64 a0_8) := (blk_cell BK153.out 8).trans rfl
                                      have hfz82_0 := blk_frozen BK153.out 0
                                      have hfz82_1 := blk_frozen BK153.out 1
                                      have hfz82_2 := blk_frozen BK153.out 2
                                      have hfz82_3 := blk_frozen BK153.out 3
                                      have hfz82_4 := blk_frozen BK153.out 4
                                      have hfz82_5 := blk_frozen BK153.out 5
                                      have hfz82_6 := blk_frozen BK153.out 6
                                      have hfz82_7 := blk_frozen BK153.out 7
                                      have hfz82_8 := blk_frozen BK153.out 8
                                      have p211 : 0 ≤ (x8_4 : Int) := of_decide_eq_true (by first | (with_reducible assumption) | assumption)
                                      have q211 : x8_4 < (l0_6.length : Int) := of_decide_eq_true (by first | (with_reducible assumption) | assumption)
                                      obtain ⟨ad211, A211_0, c211_0, e211, hx211_0, hl211_0, hi211_0⟩ := at_L1 HR0_6.out x8_4 p211 q211
                                      cases e211
                                      replace hx211_0 := (HB.out.cell (World.block_lt_of_cell? w _ hx211_0)).trans hx211_0
                                      have HR211_0 := Aside0.mk hi211_0
                                      have HC211_0 := Aside0.mk hl211_0
                                      clear hi211_0 hl211_0
                                      replace p211 := eq_true p211
                                      replace q211 := eq_true q211
                                      go_wp2
                                      go_roundg k5
                                      case measure => have := HK1.out; have := HK2.out; have := HK3.out; have := HK4.out; have := HK5.out; omega
                                      case rel => exact ⟨(x4_5), (wrap64 (x8_4 + 1)), (by first | rfl | (simp; done) | (simp [*]; done)), H', ⟨by have := HK1.out; have := HK2.out; have := HK3.out; have := HK4.out; have := HK5.out; omega⟩, ⟨by (with_reducible repeat (first | apply Kd.R_alloc | apply Kd.R_drewN | apply Kd.R_drew)); exact HO_4.out⟩, ⟨by (with_reducible repeat (first | refine blk_drewN ?_ _ | refine blk_drew ?_ | refine blk_alloc ?_ _)); exact BK153.out⟩, ⟨by repeat (first | (with_reducible first | exact HB.out | apply below_alloc | apply pw_below_drewN | apply below_drew1 | refine below_set ?_ GE153.out) | exact HB.out)⟩⟩
                                  · rw [if_neg c75] at H
                                    exact absurd H (by simp)
                                · rw [if_neg c74] at H
                                  exact absurd H (by simp)
                          · rw [if_neg c72] at H
                            have c72b0 : decide (x8_4 < (l0_6.length : Int)) = false := decide_eq_false c72
                            clear c72
                            replace H := Option.bind_eq_some_iff.mp H
                            obtain ⟨t217, A830, H⟩ := H
                            replace H : (signalboxref1_Encode.l5 k4 t217 0 l0_0 l0_1 l0_2 a0_3 l0_4 l0_5 l0_6 l0_7 a0_8) = some (r1, r2) := H
                            have A83 := Aside0.mk A830
                            clear A830
                            have H' := Aside0.mk H
                            clear H
                            have hcz84_0 : wr.cell? ⟨gb153, 0, none⟩ = some (.slice A0_0 l0_0.length c0_0) := (blk_cell BK153.out 0).trans rfl
                            have hcz84_1 : wr.cell? ⟨gb153, 1, none⟩ = some (.slice A0_1 l0_1.length c0_1) := (blk_cell BK153.out 1).trans rfl
                            have hcz84_2 : wr.cell? ⟨gb153, 2, none⟩ = some (.slice A0_2 l0_2.length c0_2) := (blk_cell BK153.out 2).trans rfl
                            have hcz84_3 : wr.cell? ⟨gb153, 3, none⟩ = some (.int .i64 a0_3) := (blk_cell BK153.out 3).trans rfl
                            have hcz84_4 : wr.cell? ⟨gb153, 4, none⟩ = some (.slice A0_4 l0_4.length c0_4) := (blk_cell BK153.out 4).trans rfl
                            have hcz84_5 : wr.cell? ⟨gb153, 5, none⟩ = some (.slice A0_5 l0_5.length c0_5) := (blk_cell BK153.out 5).trans rfl
                            have hcz84_6 : wr.cell? ⟨gb153, 6, none⟩ = some (.slice A0_6 l0_6.length c0_6) := (blk_cell BK153.out 6).trans rfl
                            have hcz84_7 : wr.cell? ⟨gb153, 7, none⟩ = some (.slice A0_7 l0_7.length c0_7) := (blk_cell BK153.out 7).trans rfl
                            have hcz84_8 : wr.cell? ⟨gb153, 8, none⟩ = some (.int .i64 a0_8) := (blk_cell BK153.out 8).trans rfl
                            have hfz84_0 := blk_frozen BK153.out 0
                            have hfz84_1 := blk_frozen BK153.out 1
                            have hfz84_2 := blk_frozen BK153.out 2
                            have hfz84_3 := blk_frozen BK153.out 3
                            have hfz84_4 := blk_frozen BK153.out 4
                            have hfz84_5 := blk_frozen BK153.out 5
                            have hfz84_6 := blk_frozen BK153.out 6
                            have hfz84_7 := blk_frozen BK153.out 7
                            have hfz84_8 := blk_frozen BK153.out 8
                            obtain ⟨Ao85, co85, eo85⟩ := Kd.R_slice HO_4.out
                            subst eo85
                            go_wp2_with (first | ((with_reducible refine gate_callee (f := 32) rfl ?_); refine goesL_ (some 157) rfl rfl Try.func32 (by kernel_rfl) rfl #[.slice Ao85 x4_4.length co85, .int .i64 (l0_7.length : Int), .int .i64 2] rfl (by (try simp only [List.map_toArray, List.map_cons, List.map_nil]); first | done | rfl | (simp only [List.length_drop, List.length_take]; rfl)) ?_; (with_reducible refine (signalboxref1_put.calls k4 (fun k_ => some k_ = (.slice Ao85 x4_4.length co85 : Value).ownBlock) (.slice Ao85 x4_4.length co85) x4_4 (l0_7.length : Int) 2 t217 w _ ?side1 ?side2 A83.out).mono ?_); (case side1 => repeat (first | (with_reducible first | exact HB.out | apply below_alloc | apply pw_below_drewN | apply below_drew1 | refine below_set ?_ GE153.out) | exact HB.out)); (case side2 => exact Kd.R_tight rfl HO_4.out); rintro e w86 ⟨v218, rfl, ho0, hb, hkp⟩; refine ⟨_, rfl, ?_⟩; have n0_ := Aside0.mk (blk_kept (by (with_reducible repeat (first | refine blk_drewN ?_ _ | refine blk_drew ?_ | refine blk_alloc ?_ _)); exact BK153.out) hkp (fun hs_ => (fun e_ => (Kd.R_ne HO_4.out BK153.out (by decide)) e_) hs_)); have n1_ := Aside0.mk (Kd.R_mono (ok' := fun k_ => True) ho0 (fun k_ hk_ => trivial)); have n2_ := Aside0.mk (hb); clear BK153; clear HB; clear HO_4; have BK153 := n0_; have HO219 := n1_; have HB := n2_; clear n0_ n1_ n2_; (try clear hb); (try clear hkp); (try clear ho0)))
                            go_loopg [4, 10] k4 (fun kq v4 v10 w' => ∃ (x4_5 : List Int) (x10_5 : Int), v10 = .int .i64 x10_5 ∧ Aside0 (signalboxref1_Encode.l5 kq x4_5 x10_5 l0_0 l0_1 l0_2 a0_3 l0_4 l0_5 l0_6 l0_7 a0_8 = some (r1, r2)) ∧ Aside0 (kq ≤ k4) ∧ Aside0 (Kd.R (Kd.int .u8) 5 w' w.heap.size (fun _ => True) v4 x4_5) ∧ Aside0 (w'.heap[gb153]? = some (.cells #[(.slice A0_0 l0_0.length c0_0), (.slice A0_1 l0_1.length c0_1), (.slice A0_2 l0_2.length c0_2), .int .i64 a0_3, (.slice A0_4 l0_4.length c0_4), (.slice A0_5 l0_5.length c0_5), (.slice A0_6 l0_6.length c0_6), (.slice A0_7 l0_7.length c0_7), .int .i64 a0_8] 29 (0, 0))) ∧ Aside0 (Below w.heap.size w w'))
                            case atStart => exact ⟨(t217), (0), (by first | rfl | (simp; done) | (simp [*]; done)), H', ⟨Nat.le_refl _⟩, ⟨by (with_reducible repeat (first | apply Kd.R_alloc | apply Kd.R_drewN | apply Kd.R_drew)); exact HO219.out⟩, ⟨by (with_reducible repeat (first | refine blk_drewN ?_ _ | refine blk_drew ?_ | refine blk_alloc ?_ _)); exact BK153.out⟩, ⟨by repeat (first | (with_reducible first | exact HB.out | apply below_alloc | apply pw_below_drewN | apply below_drew1 | refine below_set ?_ GE153.out) | exact HB.out)⟩⟩
                            case round =>
                              clear H'
                              try clear p1
                              try clear q1
                              try clear hx1
                              try clear c2
                              try clear p2
                              try clear q2
                              try clear hx2
                              try clear c3
                              try clear c4
                              try clear p6
                              try clear c7
                              try clear p16
                              try clear q16
                              try clear hx16
                              try clear p17
                              try clear q17
                              try clear hx17
                              try clear p18
                              try clear q18
                              try clear hx18
                              try clear p19
                              try clear q19
                              try clear hx19
                              try clear c21
                              try clear p21
                              try clear q21
                              try clear hx21
                              try clear c30
                              try clear c30b0
                              try clear c31
                              try clear c31b0
                              try clear c32
                              try clear c33
                              try clear c47
                              try clear c47b0
                              try clear c48
                              try clear c48b0
                              try clear p64
                              try clear c72
                              try clear c72b0
                              try clear c74
                              try clear c74b0
                              try clear c75
                              try clear c75b0
                              try clear c76
                              try clear c76b0
                              try clear c77
                              try clear c77b0
                              try clear hcz10_0
                              try clear hcz10_1
                              try clear hcz10_2
                              try clear hcz10_3
                              try clear hcz10_4
                              try clear hcz10_5
                              try clear hcz10_6
                              try clear hcz10_7
                              try clear hcz10_8
                              try clear hcz18_0
                              try clear hcz18_1
                              try clear hcz18_2
                              try clear hcz18_3
                              try clear hcz18_4
                              try clear hcz18_5
                              try clear hcz18_6
                              try clear hcz18_7
                              try clear hcz18_8
                              try clear hcz27_0
                              try clear hcz27_1
                              try clear hcz27_2
                              try clear hcz27_3
                              try clear hcz27_4
                              try clear hcz27_5
                              try clear hcz27_6
                              try clear hcz27_7
                              try clear hcz27_8
                              try clear hcz35_0
                              try clear hcz35_1
                              try clear hcz35_2
                              try clear hcz35_3
                              try clear hcz35_4
                              try clear hcz35_5
                              try clear hcz35_6
                              try clear hcz35_7
                              try clear hcz35_8
                              try clear hcz44_0
                              try clear hcz44_1
                              try clear hcz44_2
                              try clear hcz44_3
                              try clear hcz44_4
                              try clear hcz44_5
                              try clear hcz44_6
                              try clear hcz44_7
                              try clear hcz44_8
                              try clear hcz51_0
                              try clear hcz51_1
                              try clear hcz51_2
                              try clear hcz51_3
                              try clear hcz51_4
                              try clear hcz51_5
                              try clear hcz51_6
                              try clear hcz51_7
                              try clear hcz51_8
                              try clear hcz61_0
                              try clear hcz61_1
                              try clear hcz61_2
                              try clear hcz61_3
                              try clear hcz61_4
                              try clear hcz61_5
                              try clear hcz61_6
                              try clear hcz61_7
                              try clear hcz61_8
                              try clear hcz69_0
                              try clear hcz69_1
                              try clear hcz69_2
                              try clear hcz69_3
                              try clear hcz69_4
                              try clear hcz69_5
                              try clear hcz69_6
                              try clear hcz69_7
                              try clear hcz69_8
                              try clear hcz6_0
                              try clear hcz6_1
                              try clear hcz6_2
                              try clear hcz6_3
                              try clear hcz6_4
                              try clear hcz6_5
                              try clear hcz6_6
                              try clear hcz6_7
                              try clear hcz6_8
                              try clear hcz73_0
                              try clear hcz73_1
                              try clear hcz73_2
                              try clear hcz73_3
                              try clear hcz73_4
                              try clear hcz73_5
                              try clear hcz73_6
                              try clear hcz73_7
                              try clear hcz73_8
                              try clear hcz79_0
                              try clear hcz79_1
                              try clear hcz79_2
                              try clear hcz79_3
                              try clear hcz79_4
                              try clear hcz79_5
                              try clear hcz79_6
                              try clear hcz79_7
                              try clear hcz79_8
                              try clear hcz82_0
                              try clear hcz82_1
                              try clear hcz82_2
                              try clear hcz82_3
                              try clear hcz82_4
                              try clear hcz82_5
                              try clear hcz82_6
                              try clear hcz82_7
                              try clear hcz82_8
                              try clear hcz84_0
                              try clear hcz84_1
                              try clear hcz84_2
                              try clear hcz84_3
                              try clear hcz84_4
                              try clear hcz84_5
                              try clear hcz84_6
                              try clear hcz84_7
                              try clear hcz84_8
                              try clear hfz10_0
                              try clear hfz10_1
                              try clear hfz10_2
                              try clear hfz10_3
                              try clear hfz10_4
                              try clear hfz10_5
                              try clear hfz10_6
                              try clear hfz10_7
                              try clear hfz10_8
                              try clear hfz18_0
                              try clear hfz18_1
                              try clear hfz18_2
                              try clear hfz18_3
                              try clear hfz18_4
                              try clear hfz18_5
                              try clear hfz18_6
                              try clear hfz18_7
                              try clear hfz18_8
                              try clear hfz27_0
                              try clear hfz27_1
                              try clear hfz27_2
                              try clear hfz27_3
                              try clear hfz27_4
                              try clear hfz27_5
                              try clear hfz27_6
                              try clear hfz27_7
                              try clear hfz27_8
                              try clear hfz35_0
                              try clear hfz35_1
                              try clear hfz35_2
                              try clear hfz35_3
                              try clear hfz35_4
                              try clear hfz35_5
                              try clear hfz35_6
                              try clear hfz35_7
                              try clear hfz35_8
                              try clear hfz44_0
                              try clear hfz44_1
                              try clear hfz44_2
                              try clear hfz44_3
                              try clear hfz44_4
                              try clear hfz44_5
                              try clear hfz44_6
                              try clear hfz44_7
                              try clear hfz44_8
                              try clear hfz51_0
                              try clear hfz51_1
                              try clear hfz51_2
                              try clear hfz51_3
                              try clear hfz51_4
                              try clear hfz51_5
                              try clear hfz51_6
                              try clear hfz51_7
                              try clear hfz51_8
                              try clear hfz61_0
                              try clear hfz61_1
                              try clear hfz61_2
                              try clear hfz61_3
                              try clear hfz61_4
                              try clear hfz61_5
                              try clear hfz61_6
                              try clear hfz61_7
                              try clear hfz61_8
                              try clear hfz69_0
                              try clear hfz69_1
                              try clear hfz69_2
                              try clear hfz69_3
                              try clear hfz69_4
                              try clear hfz69_5
                              try clear hfz69_6
                              try clear hfz69_7
                              try clear hfz69_8
                              try clear hfz6_0
                              try clear hfz6_1
                              try clear hfz6_2
                              try clear hfz6_3
                              try clear hfz6_4
                              try clear hfz6_5
                              try clear hfz6_6
                              try clear hfz6_7
                              try clear hfz6_8
                              try clear hfz73_0
                              try clear hfz73_1
                              try clear hfz73_2
                              try clear hfz73_3
                              try clear hfz73_4
                              try clear hfz73_5
                              try clear hfz73_6
                              try clear hfz73_7
                              try clear hfz73_8
                              try clear hfz79_0
                              try clear hfz79_1
                              try clear hfz79_2
                              try clear hfz79_3
                              try clear hfz79_4
                              try clear hfz79_5
                              try clear hfz79_6
                              try clear hfz79_7
                              try clear hfz79_8
                              try clear hfz82_0
                              try clear hfz82_1
                              try clear hfz82_2
                              try clear hfz82_3
                              try clear hfz82_4
                              try clear hfz82_5
                              try clear hfz82_6
                              try clear hfz82_7
                              try clear hfz82_8
                              try clear hfz84_0
                              try clear hfz84_1
                              try clear hfz84_2
                              try clear hfz84_3
                              try clear hfz84_4
                              try clear hfz84_5
                              try clear hfz84_6
                              try clear hfz84_7
                              try clear hfz84_8
                              try clear hx161_0
                              try clear hx161_1
                              try clear hx161_2
                              try clear hx165_0
                              try clear hx165_1
                              try clear hx165_2
                              try clear hx169_0
                              try clear hx169_1
                              try clear hx169_2
                              try clear hx176_0
                              try clear hx176_1
                              try clear hx176_2
                              try clear hx180_0
                              try clear hx180_1
                              try clear hx180_2
                              try clear hx184_0
                              try clear hx184_1
                              try clear hx184_2
                              try clear hx191_0
                              try clear hx191_1
                              try clear hx195_0
                              try clear hx195_1
                              try clear hx211_0
                              try clear hx212_0
                              try clear hx213_0
                              try clear p1
                              try clear p16
                              try clear p161
                              try clear p165
                              try clear p169
                              try clear p17
                              try clear p176
                              try clear p18
                              try clear p180
                              try clear p184
                              try clear p19
                              try clear p191
                              try clear p195
                              try clear p2
                              try clear p211
                              try clear p212
                              try clear p213
                              try clear p6
                              try clear p64
                              try clear q1
                              try clear q16
                              try clear q161
                              try clear q165
                              try clear q169
                              try clear q17
                              try clear q176
                              try clear q18
                              try clear q180
                              try clear q184
                              try clear q19
                              try clear q191
                              try clear q195
                              try clear q211
                              try clear q212
                              try clear q213
                              obtain ⟨x4_5, x10_5, rfl, HA, HK5, HO_4, BK153, HB⟩ := hrel
                              cases gk with
                              | zero => exact absurd HA.out (by simp [signalboxref1_Encode.l5])
                              | succ k5 =>
                                have H := HA.out
                                clear HA
                                simp only [signalboxref1_Encode.l5] at H
                                by_cases c87 : x10_5 < (l0_7.length : Int)
                                · rw [if_pos c87] at H
                                  have c87b0 : decide (x10_5 < (l0_7.length : Int)) = true := decide_eq_true c87
                                  clear c87
                                  by_cases c88 : 0 ≤ x10_5
                                  · rw [if_pos c88] at H
                                    have c88b0 : decide (0 ≤ x10_5) = true := decide_eq_true c88
                                    clear c88
                                    replace H := Option.bind_eq_some_iff.mp H
                                    obtain ⟨t221, A890, H⟩ := H
                                    replace H : ((signalboxref1_put.f k5 t221 ((rd_T65 l0_7 x10_5).f1) 8).bind fun t225 => (signalboxref1_Encode.l5 k5 t225 (wrap64 (x10_5 + 1)) l0_0 l0_1 l0_2 a0_3 l0_4 l0_5 l0_6 l0_7 a0_8)) = some (r1, r2) := H
                                    have A89 := Aside0.mk A890
                                    clear A890
                                    replace H := Option.bind_eq_some_iff.mp H
                                    obtain ⟨t225, A900, H⟩ := H
                                    replace H : (signalboxref1_Encode.l5 k5 t225 (wrap64 (x10_5 + 1)) l0_0 l0_1 l0_2 a0_3 l0_4 l0_5 l0_6 l0_7 a0_8) = some (r1, r2) := H
                                    have A90 := Aside0.mk A900
                                    clear A900
                                    have H' := Aside0.mk H
                                    clear H
                                    have hcz91_0 : wr.cell? ⟨gb153, 0, none⟩ = some (.slice A0_0 l0_0.length c0_0) := (blk_cell BK153.out 0).trans rfl
                                    have hcz91_1 : wr.cell? ⟨gb153, 1, none⟩ = some (.slice A0_1 l0_1.length c0_1) := (blk_cell BK153.out 1).trans rfl
                                    have hcz91_2 : wr.cell? ⟨gb153, 2, none⟩ = some (.slice A0_2 l0_2.length c0_2) := (blk_cell BK153.out 2).trans rfl
                                    have hcz91_3 : wr.cell? ⟨gb153, 3, none⟩ = some (.int .i64 a0_3) := (blk_cell BK153.out 3).trans rfl
                                    have hcz91_4 : wr.cell? ⟨gb153, 4, none⟩ = some (.slice A0_4 l0_4.length c0_4) := (blk_cell BK153.out 4).trans rfl
                                    have hcz91_5 : wr.cell? ⟨gb153, 5, none⟩ = some (.slice A0_5 l0_5.length c0_5) := (blk_cell BK153.out 5).trans rfl
                                    have hcz91_6 : wr.cell? ⟨gb153, 6, none⟩ = some (.slice A0_6 l0_6.length c0_6) := (blk_cell BK153.out 6).trans rfl
                                    have hcz91_7 : wr.cell? ⟨gb153, 7, none⟩ = some (.slice A0_7 l0_7.length c0_7) := (blk_cell BK153.out 7).trans rfl
                                    have hcz91_8 : wr.cell? ⟨gb153, 8, none⟩ = some (.int .i64 a0_8) := (blk_cell BK153.out 8).trans rfl
                                    have hfz91_0 := blk_frozen BK153.out 0
                                    have hfz91_1 := blk_frozen BK153.out 1
                                    have hfz91_2 := blk_frozen BK153.out 2
                                    have hfz91_3 := blk_frozen BK153.out 3
                                    have hfz91_4 := blk_frozen BK153.out 4
                                    have hfz91_5 := blk_frozen BK153.out 5
                                    have hfz91_6 := blk_frozen BK153.out 6
                                    have hfz91_7 := blk_frozen BK153.out 7
                                    have hfz91_8 := blk_frozen BK153.out 8
                                    try go_wp2
                                    have n0_ := Aside0.mk (Kd.R_drew HO_4.out)
                                    have n1_ := Aside0.mk (blk_drew BK153.out)
                                    have n2_ := Aside0.mk (below_drew1 HB.out)
                                    clear HO_4
                                    clear BK153
                                    clear HB
                                    have HO_4 := n0_
                                    have BK153 := n1_
                                    have HB := n2_
                                    clear n0_ n1_ n2_
                                    have p220 : 0 ≤ (x10_5 : Int) := of_decide_eq_true (by first | (with_reducible assumption) | assumption)
                                    have q220 : x10_5 < (l0_7.length : Int) := of_decide_eq_true (by first | (with_reducible assumption) | assumption)
                                    obtain ⟨ad220, e220, hx220_0, hx220_1⟩ := at_T65 HR0_7.out x10_5 p220 q220
                                    have hw220_1 := hx220_1
                                    have hw220_0 := hx220_0
                                    cases e220
                                    replace hx220_0 := (HB.out.cell (World.block_lt_of_cell? w _ hx220_0)).trans hx220_0
                                    replace hx220_1 := (HB.out.cell (World.block_lt_of_cell? w _ hx220_1)).trans hx220_1
                                    replace p220 := eq_true p220
                                    replace q220 := eq_true q220
                                    have p224 : 0 ≤ (x10_5 : Int) := of_decide_eq_true (by first | (with_reducible assumption) | assumption)
                                    have q224 : x10_5 < (l0_7.length : Int) := of_decide_eq_true (by first | (with_reducible assumption) | assumption)
                                    obtain ⟨ad224, e224, hx224_0, hx224_1⟩ := at_T65 HR0_7.out x10_5 p224 q224
                                    have hw224_1 := hx224_1
                                    have hw224_0 := hx224_0
                                    obtain rfl : ad220 = ad224 := (by injection e224)
                                    replace hx224_0 := (HB.out.cell (World.block_lt_of_cell? w _ hx224_0)).trans hx224_0
                                    replace hx224_1 := (HB.out.cell (World.block_lt_of_cell? w _ hx224_1)).trans hx224_1
                                    replace p224 := eq_true p224
                                    replace q224 := eq_true q224
                                    obtain ⟨Ao93, co93, eo93⟩ := Kd.R_slice HO_4.out
                                    (first | subst eo93 | (injection eo93 with f1_ f2_ f3_; have f4_ := f1_.symm; have f5_ := f3_.symm; clear f1_ f2_ f3_; subst f4_; subst f5_))
                                    refine start_ (n := 16) (S := fun w' => w'.cell? ⟨gb153, 0, none⟩ = some (.slice A0_0 l0_0.length c0_0) ∧ w'.cell? ⟨gb153, 1, none⟩ = some (.slice A0_1 l0_1.length c0_1) ∧ w'.cell? ⟨gb153, 2, none⟩ = some (.slice A0_2 l0_2.length c0_2) ∧ w'.cell? ⟨gb153, 3, none⟩ = some (.int .i64 a0_3) ∧ w'.cell? ⟨gb153, 4, none⟩ = some (.slice A0_4 l0_4.length c0_4) ∧ w'.cell? ⟨gb153, 5, none⟩ = some (.slice A0_5 l0_5.length c0_5) ∧ w'.cell? ⟨gb153, 6, none⟩ = some (.slice A0_6 l0_6.length c0_6) ∧ w'.cell? ⟨gb153, 7, none⟩ = some (.slice (some ad220) l0_7.length c0_7) ∧ w'.cell? ⟨gb153, 8, none⟩ = some (.int .i64 a0_8) ∧ w'.cell? (ad220.add ((x10_5).toNat * 2)) = some (.int .i64 ((rd_T65 l0_7 x10_5).f0)) ∧ w'.cell? ⟨(ad220.add ((x10_5).toNat * 2)).block, (ad220.add ((x10_5).toNat * 2)).off + 1, none⟩ = some (.int .i64 ((rd_T65 l0_7 x10_5).f1)) ∧ w'.cell? (ad220.add ((x10_5).toNat * 2)) = some (.int .i64 ((rd_T65 l0_7 x10_5).f0)) ∧ w'.cell? ⟨(ad220.add ((x10_5).toNat * 2)).block, (ad220.add ((x10_5).toNat * 2)).off + 1, none⟩ = some (.int .i64 ((rd_T65 l0_7 x10_5).f1))) (ds := []) #[false, false, false, false, false, false, false, false, false, false, false, false, false, false, false, false] (by kernel_rfl) rfl rfl ⟨(blk_cell BK153.out 0).trans rfl, (blk_cell BK153.out 1).trans rfl, (blk_cell BK153.out 2).trans rfl, (blk_cell BK153.out 3).trans rfl, (blk_cell BK153.out 4).trans rfl, (blk_cell BK153.out 5).trans rfl, (blk_cell BK153.out 6).trans rfl, (blk_cell BK153.out 7).trans rfl, (blk_cell BK153.out 8).trans rfl, ((HB.out.cell (World.block_lt_of_cell? w _ hw220_0)).trans hw220_0), ((HB.out.cell (World.block_lt_of_cell? w _ hw220_1)).trans hw220_1), ((HB.out.cell (World.block_lt_of_cell? w _ hw224_0)).trans hw224_0), ((HB.out.cell (World.block_lt_of_cell? w _ hw224_1)).trans hw224_1)⟩ (fun hHeld => ?_); refine with_tabW signalboxref1_Encode.tab33 signalboxref1_Encode.bits33 (fun HT_ HW_ => ?_)
                                    generalize wr.drew = w92 at HO_4 BK153 HB hx220_0 hx220_1 hx224_0 hx224_1 hHeld ⊢
                                    refine pure_ (i := 0) (N := some 165) (v := ?_) (a' := ?_) #[true, false, false, false, false, false, false, false, false, false, false, false, false, false, false, false] rfl rfl (any_of HT_.out (by kernel_rfl)) (fun _ _ _ h => h) (Or.inl ⟨by rfl, ?_⟩) ?_ ?_
                                    rotate_left
                                    · intro w'
                                      go_simp
                                      with_reducible rfl
                                    rotate_left
                                    · simp only [Act.put, List.setIfInBounds_toArray, List.set_cons_zero, List.set_cons_succ, i64_w, i32_w]
                                      rfl
                                    refine pure_ (i := 1) (N := some 166) (v := ?_) (a' := ?_) #[true, true, false, false, false, false, false, false, false, false, false, false, false, false, false, false] rfl rfl (any_of HT_.out (by kernel_rfl)) (fun _ _ _ h => h) (Or.inl ⟨by rfl, ?_⟩) ?_ ?_
                                    rotate_left
                                    · intro w'
                                      go_simp
                                      with_reducible rfl
                                    rotate_left
                                    · simp only [Act.put, List.setIfInBounds_toArray, List.set_cons_zero, List.set_cons_succ, i64_w, i32_w]
                                      rfl
                                    refine pure_ (i := 3) (N := some 168) (v := ?_) (a' := ?_) #[true, true, false, true, false, false, false, false, false, false, false, false, false, false, false, false] rfl rfl (any_of HT_.out (by kernel_rfl)) (fun _ _ _ h => h) (Or.inl ⟨by rfl, ?_⟩) ?_ ?_
                                    rotate_left
                                    · intro w'
                                      go_simp
                                      with_reducible rfl
                                    rotate_left
                                    · simp only [Act.put, List.setIfInBounds_toArray, List.set_cons_zero, List.set_cons_succ, i64_w, i32_w]
                                      rfl
                                    refine pure_ (i := 8) (N := some 173) (v := ?_) (a' := ?_) #[true, true, false, true, false, false, false, false, true, false, false, false, false, false, false, false] rfl rfl (any_of HT_.out (by kernel_rfl)) (fun _ _ _ h => h) (Or.inl ⟨by rfl, ?_⟩) ?_ ?_
                                    rotate_left
                                    · intro w'
                                      go_simp
                                      with_reducible rfl
                                    rotate_left
                                    · simp only [Act.put, List.setIfInBounds_toArray, List.set_cons_zero, List.set_cons_succ, i64_w, i32_w]
                                      rfl
                                    refine pure_ (i := 10) (N := some 175) (v := ?_) (a' := ?_) #[true, true, false, true, false, false, false, false, true, false, true, false, false, false, false, false] rfl rfl (any_of HT_.out (by kernel_rfl)) (fun _ _ _ h => h) (Or.inl ⟨by rfl, ?_⟩) ?_ ?_
                                    rotate_left
                                    · intro w'
                                      go_simp
                                      with_reducible rfl
                                    rotate_left
                                    · simp only [Act.put, List.setIfInBounds_toArray, List.set_cons_zero, List.set_cons_succ, i64_w, i32_w]
                                      rfl
                                    refine take_ (i := 2) (N := some 167) (v := ?_) (a' := ?_) #[true, true, true, true, false, false, false, false, true, false, true, false, false, false, false, false] rfl rfl (take_ofW HT_.out HW_.out (by kernel_rfl)) (fun _ _ _ h => h) (Or.inl ⟨by rfl, ?_⟩) hHeld ?_ ?_
                                    rotate_left
                                    · rintro w' ⟨s0, s1, s2, s3, s4, s5, s6, s7, s8, s9, s10, s11, s12⟩
                                      go_simp
                                      with_reducible rfl
                                    rotate_left
                                    · simp only [Act.put, List.setIfInBounds_toArray, List.set_cons_zero, List.set_cons_succ, i64_w, i32_w]
                                      rfl
                                    refine pure_ (i := 4) (N := some 169) (v := ?_) (a' := ?_) #[true, true, true, true, true, false, false, false, true, false, true, false, false, false, false, false] rfl rfl (any_of HT_.out (by kernel_rfl)) (fun _ _ _ h => h) (Or.inl ⟨by rfl, ?_⟩) ?_ ?_
                                    rotate_left
                                    · intro w'
                                      go_simp
                                      with_reducible rfl
                                    rotate_left
                                    · simp only [Act.put, List.setIfInBounds_toArray, List.set_cons_zero, List.set_cons_succ, i64_w, i32_w]
                                      rfl
                                    refine pure_ (i := 5) (N := some 170) (v := ?_) (a' := ?_) #[true, true, true, true, true, true, false, false, true, false, true, false, false, false, false, false] rfl rfl (any_of HT_.out (by kernel_rfl)) (fun _ _ _ h => h) (Or.inl ⟨by rfl, ?_⟩) ?_ ?_
                                    rotate_left
                                    · intro w'
                                      go_simp
                                      with_reducible rfl
                                    rotate_left
                                    · simp only [Act.put, List.setIfInBounds_toArray, List.set_cons_zero, List.set_cons_succ, i64_w, i32_w]
                                      rfl
                                    refine take_ (i := 6) (N := some 171) (v := ?_) (a' := ?_) #[true, true, true, true, true, true, true, false, true, false, true, false, false, false, false, false] rfl rfl (take_ofW HT_.out HW_.out (by kernel_rfl)) (fun _ _ _ h => h) (Or.inl ⟨by rfl, ?_⟩) hHeld ?_ ?_
                                    rotate_left
                                    · rintro w' ⟨s0, s1, s2, s3, s4, s5, s6, s7, s8, s9, s10, s11, s12⟩
                                      go_simp
                                      with_reducible rfl
                                    rotate_left
                                    · simp only [Act.put, List.setIfInBounds_toArray, List.set_cons_zero, List.set_cons_succ, i64_w, i32_w]
                                      rfl
                                    refine take_ (i := 9) (N := some 174) (v := ?_) (a' := ?_) #[true, true, true, true, true, true, true, false, true, true, true, false, false, false, false, false] rfl rfl (take_ofW HT_.out HW_.out (by kernel_rfl)) (fun _ _ _ h => h) (Or.inl ⟨by rfl, ?_⟩) hHeld ?_ ?_
                                    rotate_left
                                    · rintro w' ⟨s0, s1, s2, s3, s4, s5, s6, s7, s8, s9, s10, s11, s12⟩
                                      go_simp
                                      with_reducible rfl
                                    rotate_left
                                    · simp only [Act.put, List.setIfInBounds_toArray, List.set_cons_zero, List.set_cons_succ, i64_w, i32_w]
                                      rfl
                                    refine pure_ (i := 11) (N := some 176) (v := ?_) (a' := ?_) #[true, true, true, true, true, true, true, false, true, true, true, true, false, false, false, false] rfl rfl (any_of HT_.out (by kernel_rfl)) (fun _ _ _ h => h) (Or.inl ⟨by rfl, ?_⟩) ?_ ?_
                                    rotate_left
                                    · intro w'
                                      go_simp
                                      with_reducible rfl
                                    rotate_left
                                    · simp only [Act.put, List.setIfInBounds_toArray, List.set_cons_zero, List.set_cons_succ, i64_w, i32_w]
                                      rfl
                                    refine pure_ (i := 12) (N := some 177) (v := ?_) (a' := ?_) #[true, true, true, true, true, true, true, false, true, true, true, true, true, false, false, false] rfl rfl (any_of HT_.out (by kernel_rfl)) (fun _ _ _ h => h) (Or.inl ⟨by rfl, ?_⟩) ?_ ?_
                                    rotate_left
                                    · intro w'
                                      go_simp
                                      with_reducible rfl
                                    rotate_left
                                    · simp only [Act.put, List.setIfInBounds_toArray, List.set_cons_zero, List.set_cons_succ, i64_w, i32_w]
                                      rfl
                                    refine take_ (i := 13) (N := some 178) (v := ?_) (a' := ?_) #[true, true, true, true, true, true, true, false, true, true, true, true, true, true, false, false] rfl rfl (take_ofW HT_.out HW_.out (by kernel_rfl)) (fun _ _ _ h => h) (Or.inl ⟨by rfl, ?_⟩) hHeld ?_ ?_
                                    rotate_left
                                    · rintro w' ⟨s0, s1, s2, s3, s4, s5, s6, s7, s8, s9, s10, s11, s12⟩
                                      go_simp
                                      with_reducible rfl
                                    rotate_left
                                    · simp only [Act.put, List.setIfInBounds_toArray, List.set_cons_zero, List.set_cons_succ, i64_w, i32_w]
                                      rfl
                                    refine one_ (i := 7) (N := some 172) #[true, true, true, true, true, true, true, true, true, true, true, true, true, true, false, false] rfl rfl (one_of HT_.out (by kernel_rfl)) (by decide) (fun K hK => ?_)
                                    refine goes_ Try.func32 (by kernel_rfl) rfl #[.slice Ao93 x4_5.length co93, .int .i64 ((rd_T65 l0_7 x10_5).f0), .int .i64 8] (by rfl) rfl rfl (by (try simp only [List.map_toArray, List.map_cons, List.map_nil]); first | done | rfl | (simp only [List.length_drop, List.length_take]; rfl)) ?_
                                    with_reducible refine (signalboxref1_put.calls k5 (fun k_ => some k_ = (.slice Ao93 x4_5.length co93 : Value).ownBlock) (.slice Ao93 x4_5.length co93) x4_5 ((rd_T65 l0_7 x10_5).f0) 8 t221 w _ ?side1 ?side2 A89.out).mono ?_
                                    (case side1 => repeat (first | (with_reducible first | exact HB.out | apply below_alloc | apply pw_below_drewN | apply below_drew1 | refine below_set ?_ GE153.out) | exact HB.out))
                                    (case side2 => exact Kd.R_tight rfl HO_4.out)
                                    rintro e w94 ⟨v222, rfl, ho0, hb, hkp⟩
                                    refine ⟨_, rfl, ?_⟩
                                    have n0_ := Aside0.mk (blk_kept (by (with_reducible repeat (first | refine blk_drewN ?_ _ | refine blk_drew ?_ | refine blk_alloc ?_ _)); exact BK153.out) hkp (fun hs_ => (fun e_ => (Kd.R_ne HO_4.out BK153.out (by decide)) e_) hs_))
                                    have n1_ := Aside0.mk (Kd.R_mono (ok' := fun k_ => True) ho0 (fun k_ hk_ => trivial))
                                    have n2_ := Aside0.mk (hb)
                                    clear BK153
                                    clear HB
                                    clear HO_4
                                    have BK153 := n0_
                                    have HO223 := n1_
                                    have HB := n2_
                                    clear n0_ n1_ n2_
                                    (try clear hb)
                                    (try clear hkp)
                                    (try clear ho0)
                                    obtain ⟨Ao95, co95, eo95⟩ := Kd.R_slice HO223.out
                                    (first | subst eo95 | (injection eo95 with f1_ f2_ f3_; have f4_ := f1_.symm; have f5_ := f3_.symm; clear f1_ f2_ f3_; subst f4_; subst f5_))
                                    refine hK.out _ _ ⟨(blk_cell BK153.out 0).trans rfl, (blk_cell BK153.out 1).trans rfl, (blk_cell BK153.out 2).trans rfl, (blk_cell BK153.out 3).trans rfl, (blk_cell BK153.out 4).trans rfl, (blk_cell BK153.out 5).trans rfl, (blk_cell BK153.out 6).trans rfl, (blk_cell BK153.out 7).trans rfl, (blk_cell BK153.out 8).trans rfl, ((HB.out.cell (World.block_lt_of_cell? w _ hw220_0)).trans hw220_0), ((HB.out.cell (World.block_lt_of_cell? w _ hw220_1)).trans hw220_1), ((HB.out.cell (World.block_lt_of_cell? w _ hw224_0)).trans hw224_0), ((HB.out.cell (World.block_lt_of_cell? w _ hw224_1)).trans hw224_1)⟩ (fun hHeld => ?_)
                                    clear hK K
                                    refine norm_ (a' := ?_) ?_ ?_
                                    rotate_left
                                    · show Act.put _ (some 172) _ = _
                                      simp only [Act.put, List.setIfInBounds_toArray, List.set_cons_zero, List.set_cons_succ, i64_w, i32_w]
                                      rfl
                                    refine one_ (i := 14) (N := some 179) #[true, true, true, true, true, true, true, true, true, true, true, true, true, true, true, false] rfl rfl (one_of HT_.out (by kernel_rfl)) (by decide) (fun K hK => ?_)
                                    refine goes_ Try.func32 (by kernel_rfl) rfl #[.slice Ao95 t221.length co95, .int .i64 ((rd_T65 l0_7 x10_5).f1), .int .i64 8] (by rfl) rfl rfl (by (try simp only [List.map_toArray, List.map_cons, List.map_nil]); first | done | rfl | (simp only [List.length_drop, List.length_take]; rfl)) ?_
                                    with_reducible refine (signalboxref1_put.calls k5 (fun k_ => some k_ = (.slice Ao95 t221.length co95 : Value).ownBlock) (.slice Ao95 t221.length co95) t221 ((rd_T65 l0_7 x10_5).f1) 8 t225 w _ ?side1 ?side2 A90.out).mono ?_
                                    (case side1 => repeat (first | (with_reducible first | exact HB.out | apply below_alloc | apply pw_below_drewN | apply below_drew1 | refine below_set ?_ GE153.out) | exact HB.out))
                                    (case side2 => exact Kd.R_tight rfl HO223.out)
                                    rintro e w96 ⟨v226, rfl, ho0, hb, hkp⟩
                                    refine ⟨_, rfl, ?_⟩
                                    have n0_ := Aside0.mk (blk_kept (by (with_reducible repeat (first | refine blk_drewN ?_ _ | refine blk_drew ?_ | refine blk_alloc ?_ _)); exact BK153.out) hkp (fun hs_ => (fun e_ => (Kd.R_ne HO223.out BK153.out (by decide)) e_) hs_))
                                    have n1_ := Aside0.mk (Kd.R_mono (ok' := fun k_ => True) ho0 (fun k_ hk_ => trivial))
                                    have n2_ := Aside0.mk (hb)
                                    clear BK153
                                    clear HB
                                    clear HO223
                                    have BK153 := n0_
                                    have HO227 := n1_
                                    have HB := n2_
                                    clear n0_ n1_ n2_
                                    (try clear hb)
                                    (try clear hkp)
                                    (try clear ho0)
                                    refine hK.out _ _ ⟨(blk_cell BK153.out 0).trans rfl, (blk_cell BK153.out 1).trans rfl, (blk_cell BK153.out 2).trans rfl, (blk_cell BK153.out 3).trans rfl, (blk_cell BK153.out 4).trans rfl, (blk_cell BK153.out 5).trans rfl, (blk_cell BK153.out 6).trans rfl, (blk_cell BK153.out 7).trans rfl, (blk_cell BK153.out 8).trans rfl, ((HB.out.cell (World.block_lt_of_cell? w _ hw220_0)).trans hw220_0), ((HB.out.cell (World.block_lt_of_cell? w _ hw220_1)).trans hw220_1), ((HB.out.cell (World.block_lt_of_cell? w _ hw224_0)).trans hw224_0), ((HB.out.cell (World.block_lt_of_cell? w _ hw224_1)).trans hw224_1)⟩ (fun hHeld => ?_)
                                    clear hK K
                                    refine norm_ (a' := ?_) ?_ ?_
                                    rotate_left
                                    · show Act.put _ (some 179) _ = _
                                      simp only [Act.put, List.setIfInBounds_toArray, List.set_cons_zero, List.set_cons_succ, i64_w, i32_w]
                                      rfl
                                    refine pure_ (i := 15) (N := some 4) (v := ?_) (a' := ?_) #[true, true, true, true, true, true, true, true, true, true, true, true, true, true, true, true] rfl rfl (any_of HT_.out (by kernel_rfl)) (fun _ _ _ h => h) (Or.inl ⟨by rfl, ?_⟩) ?_ ?_
                                    rotate_left
                                    · intro w'
                                      go_simp
                                      with_reducible rfl
                                    rotate_left
                                    · simp only [Act.put, List.setIfInBounds_toArray, List.set_cons_zero, List.set_cons_succ, i64_w, i32_w]
                                      rfl
                                    refine done_ (done_of HT_.out (by kernel_rfl)) ?_
                                    try go_wp2
                                    go_roundg k5
                                    case measure => have := HK1.out; have := HK2.out; have := HK3.out; have := HK4.out; have := HK5.out; omega
                                    case rel => exact ⟨(t225), (wrap64 (x10_5 + 1)), (by first | rfl | (simp; done) | (simp [*]; done)), H', ⟨by have := HK1.out; have := HK2.out; have := HK3.out; have := HK4.out; have := HK5.out; omega⟩, ⟨by (with_reducible repeat (first | apply Kd.R_alloc | apply Kd.R_drewN | apply Kd.R_drew)); exact HO227.out⟩, ⟨by (with_reducible repeat (first | refine blk_drewN ?_ _ | refine blk_drew ?_ | refine blk_alloc ?_ _)); exact BK153.out⟩, ⟨by repeat (first | (with_reducible first | exact HB.out | apply below_alloc | apply pw_below_drewN | apply below_drew1 | refine below_set ?_ GE153.out) | exact HB.out)⟩⟩
                                  · rw [if_neg c88] at H
                                    exact absurd H (by simp)
                                · rw [if_neg c87] at H
                                  have c87b0 : decide (x10_5 < (l0_7.length : Int)) = false := decide_eq_false c87
                                  clear c87
                                  replace H := Option.bind_eq_some_iff.mp H
                                  obtain ⟨t228, A970, H⟩ := H
                                  replace H : (some (t228, 0)) = some (r1, r2) := H
                                  have A97 := Aside0.mk A970
                                  clear A970
                                  simp only [Option.some.injEq, Prod.mk.injEq] at H
                                  obtain ⟨rfl, rfl⟩ := H
                                  have hcz98_0 : wr.cell? ⟨gb153, 0, none⟩ = some (.slice A0_0 l0_0.length c0_0) := (blk_cell BK153.out 0).trans rfl
                                  have hcz98_1 : wr.cell? ⟨gb153, 1, none⟩ = some (.slice A0_1 l0_1.length c0_1) := (blk_cell BK153.out 1).trans rfl
                                  have hcz98_2 : wr.cell? ⟨gb153, 2, none⟩ = some (.slice A0_2 l0_2.length c0_2) := (blk_cell BK153.out 2).trans rfl
                                  have hcz98_3 : wr.cell? ⟨gb153, 3, none⟩ = some (.int .i64 a0_3) := (blk_cell BK153.out 3).trans rfl
                                  have hcz98_4 : wr.cell? ⟨gb153, 4, none⟩ = some (.slice A0_4 l0_4.length c0_4) := (blk_cell BK153.out 4).trans rfl
                                  have hcz98_5 : wr.cell? ⟨gb153, 5, none⟩ = some (.slice A0_5 l0_5.length c0_5) := (blk_cell BK153.out 5).trans rfl
                                  have hcz98_6 : wr.cell? ⟨gb153, 6, none⟩ = some (.slice A0_6 l0_6.length c0_6) := (blk_cell BK153.out 6).trans rfl
                                  have hcz98_7 : wr.cell? ⟨gb153, 7, none⟩ = some (.slice A0_7 l0_7.length c0_7) := (blk_cell BK153.out 7).trans rfl
                                  have hcz98_8 : wr.cell? ⟨gb153, 8, none⟩ = some (.int .i64 a0_8) := (blk_cell BK153.out 8).trans rfl
                                  have hfz98_0 := blk_frozen BK153.out 0
                                  have hfz98_1 := blk_frozen BK153.out 1
                                  have hfz98_2 := blk_frozen BK153.out 2
                                  have hfz98_3 := blk_frozen BK153.out 3
                                  have hfz98_4 := blk_frozen BK153.out 4
                                  have hfz98_5 := blk_frozen BK153.out 5
                                  have hfz98_6 := blk_frozen BK153.out 6
                                  have hfz98_7 := blk_frozen BK153.out 7
                                  have hfz98_8 := blk_frozen BK153.out 8
                                  obtain ⟨Ao99, co99, eo99⟩ := Kd.R_slice HO_4.out
                                  subst eo99
                                  go_wp2_with (first | ((with_reducible refine gate_callee (f := 32) rfl ?_); refine goesL_ (some 183) rfl rfl Try.func32 (by kernel_rfl) rfl #[.slice Ao99 x4_5.length co99, .int .i64 a0_8, .int .i64 8] rfl (by (try simp only [List.map_toArray, List.map_cons, List.map_nil]); first | done | rfl | (simp only [List.length_drop, List.length_take]; rfl)) ?_; (with_reducible refine (signalboxref1_put.calls k5 (fun k_ => some k_ = (.slice Ao99 x4_5.length co99 : Value).ownBlock) (.slice Ao99 x4_5.length co99) x4_5 a0_8 8 t228 w _ ?side1 ?side2 A97.out).mono ?_); (case side1 => repeat (first | (with_reducible first | exact HB.out | apply below_alloc | apply pw_below_drewN | apply below_drew1 | refine below_set ?_ GE153.out) | exact HB.out)); (case side2 => exact Kd.R_tight rfl HO_4.out); rintro e w100 ⟨v229, rfl, ho0, hb, hkp⟩; refine ⟨_, rfl, ?_⟩; have n0_ := Aside0.mk (blk_kept (by (with_reducible repeat (first | refine blk_drewN ?_ _ | refine blk_drew ?_ | refine blk_alloc ?_ _)); exact BK153.out) hkp (fun hs_ => (fun e_ => (Kd.R_ne HO_4.out BK153.out (by decide)) e_) hs_)); have n1_ := Aside0.mk (Kd.R_mono (ok' := fun k_ => True) ho0 (fun k_ hk_ => trivial)); have n2_ := Aside0.mk (hb); clear BK153; clear HB; clear HO_4; have BK153 := n0_; have HO230 := n1_; have HB := n2_; clear n0_ n1_ n2_; (try clear hb); (try clear hkp); (try clear ho0)))
                                  go_ret2
                                  exact ⟨_, by first | rfl | (simp [errW_none, errW_some] <;> rfl) | (simp [*, errW_none, errW_some] <;> rfl), by (with_reducible repeat (first | apply Kd.R_alloc | apply Kd.R_drewN | apply Kd.R_drew)); exact HO230.out, by repeat (first | (with_reducible first | exact HB.out | apply below_alloc | apply pw_below_drewN | apply below_drew1 | refine below_set ?_ GE153.out) | exact HB.out)⟩
  · replace c3 := Bool.eq_false_iff.mpr c3
    subst c3
    have H1 : (some (([] : List Int), 1)) = some (r1, r2) := by rw [if_neg (show ¬ (false = true) by decide)] at H; exact H
    clear H
    have H := H1
    clear H1
    simp only [Option.some.injEq, Prod.mk.injEq] at H
    obtain ⟨rfl, rfl⟩ := H
    go_enter Try.func11, Try.ntmps11
    go_wp2_with (first | ((with_reducible refine gate_dst (N := 1) rfl ?_); refine box_event ?hg (N := 1) ?hd (cs := #[.slice A0_0 l0_0.length c0_0, .slice A0_1 l0_1.length c0_1, .slice A0_2 l0_2.length c0_2, .int .i64 a0_3, .slice A0_4 l0_4.length c0_4, .slice A0_5 l0_5.length c0_5, .slice A0_6 l0_6.length c0_6, .slice A0_7 l0_7.length c0_7, .int .i64 a0_8]) (t := 29) ?hr ?_; (case hd => rfl); (case hg => rfl); (case hr => first | (go_simp; done) | (go_simp; rfl)); intro gb153 hg w101 hbox hb; have n0_ := Aside0.mk (below_step (by repeat (first | (with_reducible first | exact HB.out | apply below_alloc | apply pw_below_drewN | apply below_drew1) | exact HB.out)) hb); have n1_ := Aside0.mk (hbox); have n2_ := Aside0.mk ((by rw [hg]; exact (below_size (by repeat (first | (with_reducible first | exact HB.out | apply below_alloc | apply pw_below_drewN | apply below_drew1) | exact HB.out))) : w.heap.size ≤ gb153)); have n3_ := Aside0.mk ((by rw [hg]; exact (below_size (by repeat (first | (with_reducible first | exact HB.out | apply below_alloc | apply pw_below_drewN | apply below_drew1) | exact HB.out))) : w.heap.size ≤ gb153)); clear HB; have HB := n0_; have BK153 := n1_; have GW153 := n2_; have GE153 := n3_; clear n0_ n1_ n2_ n3_; clear hb hbox hg; have hcz102_0 : w101.cell? ⟨gb153, 0, none⟩ = some (.slice A0_0 l0_0.length c0_0) := (blk_cell BK153.out 0).trans rfl; have hcz102_1 : w101.cell? ⟨gb153, 1, none⟩ = some (.slice A0_1 l0_1.length c0_1) := (blk_cell BK153.out 1).trans rfl; have hcz102_2 : w101.cell? ⟨gb153, 2, none⟩ = some (.slice A0_2 l0_2.length c0_2) := (blk_cell BK153.out 2).trans rfl; have hcz102_3 : w101.cell? ⟨gb153, 3, none⟩ = some (.int .i64 a0_3) := (blk_cell BK153.out 3).trans rfl; have hcz102_4 : w101.cell? ⟨gb153, 4, none⟩ = some (.slice A0_4 l0_4.length c0_4) := (blk_cell BK153.out 4).trans rfl; have hcz102_5 : w101.cell? ⟨gb153, 5, none⟩ = some (.slice A0_5 l0_5.length c0_5) := (blk_cell BK153.out 5).trans rfl; have hcz102_6 : w101.cell? ⟨gb153, 6, none⟩ = some (.slice A0_6 l0_6.length c0_6) := (blk_cell BK153.out 6).trans rfl; have hcz102_7 : w101.cell? ⟨gb153, 7, none⟩ = some (.slice A0_7 l0_7.length c0_7) := (blk_cell BK153.out 7).trans rfl; have hcz102_8 : w101.cell? ⟨gb153, 8, none⟩ = some (.int .i64 a0_8) := (blk_cell BK153.out 8).trans rfl; have hfz102_0 := blk_frozen BK153.out 0; have hfz102_1 := blk_frozen BK153.out 1; have hfz102_2 := blk_frozen BK153.out 2; have hfz102_3 := blk_frozen BK153.out 3; have hfz102_4 := blk_frozen BK153.out 4; have hfz102_5 := blk_frozen BK153.out 5; have hfz102_6 := blk_frozen BK153.out 6; have hfz102_7 := blk_frozen BK153.out 7; have hfz102_8 := blk_frozen BK153.out 8) | ((with_reducible refine gate_callee (f := 13) rfl ?_); refine goesL_ (some 12) rfl rfl Try.func13 (by kernel_rfl) rfl #[.agg #[.slice A0_0 l0_0.length c0_0, .slice A0_1 l0_1.length c0_1, .slice A0_2 l0_2.length c0_2, .int .i64 a0_3, .slice A0_4 l0_4.length c0_4, .slice A0_5 l0_5.length c0_5, .slice A0_6 l0_6.length c0_6, .slice A0_7 l0_7.length c0_7, .int .i64 a0_8]] rfl (by (try simp only [List.map_toArray, List.map_cons, List.map_nil]); first | done | rfl | (simp only [List.length_drop, List.length_take]; rfl)) ?_; (with_reducible refine (signalboxref1_May.calls k _ _ l0_0 _ _ l0_1 _ _ l0_2 a0_3 _ _ l0_4 _ _ l0_5 _ _ l0_6 _ _ l0_7 a0_8 false _ ?side1 ?side2 ?side3 ?side4 ?side5 ?side6 ?side7 ?side8 ?side9 ?side10 ?side11 ?side12 ?side13 ?side14 A2.out).mono ?_); (case side1 => repeat (first | exact (Kd.C_below HR0_0.out HB.out) | (with_reducible refine Kd.C_alloc ?_ _) | (with_reducible refine Kd.C_drewN ?_ _) | (with_reducible refine Kd.C_drew ?_))); (case side2 => exact HC0_0.out); (case side3 => repeat (first | exact (Kd.C_below HR0_1.out HB.out) | (with_reducible refine Kd.C_alloc ?_ _) | (with_reducible refine Kd.C_drewN ?_ _) | (with_reducible refine Kd.C_drew ?_))); (case side4 => exact HC0_1.out); (case side5 => repeat (first | exact (Kd.C_below HR0_2.out HB.out) | (with_reducible refine Kd.C_alloc ?_ _) | (with_reducible refine Kd.C_drewN ?_ _) | (with_reducible refine Kd.C_drew ?_))); (case side6 => exact HC0_2.out); (case side7 => repeat (first | exact (Kd.C_below HR0_4.out HB.out) | (with_reducible refine Kd.C_alloc ?_ _) | (with_reducible refine Kd.C_drewN ?_ _) | (with_reducible refine Kd.C_drew ?_))); (case side8 => exact HC0_4.out); (case side9 => repeat (first | exact (Kd.C_below HR0_5.out HB.out) | (with_reducible refine Kd.C_alloc ?_ _) | (with_reducible refine Kd.C_drewN ?_ _) | (with_reducible refine Kd.C_drew ?_))); (case side10 => exact HC0_5.out); (case side11 => repeat (first | exact (Kd.C_below HR0_6.out HB.out) | (with_reducible refine Kd.C_alloc ?_ _) | (with_reducible refine Kd.C_drewN ?_ _) | (with_reducible refine Kd.C_drew ?_))); (case side12 => exact HC0_6.out); (case side13 => repeat (first | exact (Kd.C_below HR0_7.out HB.out) | (with_reducible refine Kd.C_alloc ?_ _) | (with_reducible refine Kd.C_drewN ?_ _) | (with_reducible refine Kd.C_drew ?_))); (case side14 => exact HC0_7.out); rintro e w103 ⟨rfl, hb⟩; refine ⟨_, rfl, ?_⟩; have n0_ := Aside0.mk (blk_below (g := gb153) (o := .cells #[.slice A0_0 l0_0.length c0_0, .slice A0_1 l0_1.length c0_1, .slice A0_2 l0_2.length c0_2, .int .i64 a0_3, .slice A0_4 l0_4.length c0_4, .slice A0_5 l0_5.length c0_5, .slice A0_6 l0_6.length c0_6, .slice A0_7 l0_7.length c0_7, .int .i64 a0_8] 29 (0, 0)) (by (with_reducible repeat (first | refine blk_drewN ?_ _ | refine blk_drew ?_ | refine blk_alloc ?_ _)); exact BK153.out) hb); have n1_ := Aside0.mk (below_step (by repeat (first | (with_reducible first | exact HB.out | apply below_alloc | apply pw_below_drewN | apply below_drew1 | refine below_set ?_ GE153.out) | exact HB.out)) hb); clear BK153; clear HB; have BK153 := n0_; have HB := n1_; clear n0_ n1_; (try clear hb); (try clear hb2); (try clear hk); (try clear hi)))
    go_ret2
    exact ⟨_, by first | rfl | (simp [errW_none, errW_some] <;> rfl) | (simp [*, errW_none, errW_some] <;> rfl), by first | exact Kd.R_nil _ _ _ _ _ | exact Kd.N_nil _ _ _ _ _ | exact Kd.V_nil _ _ _ _ _ | exact Kd.Q_nil _ _ _ _ _ | exact Kd.S_nil _ _ _ _ _, by repeat (first | (with_reducible first | exact HB.out | apply below_alloc | apply pw_below_drewN | apply below_drew1 | refine below_set ?_ GE153.out) | exact HB.out)⟩

end Go.Proofs.Ytdgaklldijkoaaa.PCode
