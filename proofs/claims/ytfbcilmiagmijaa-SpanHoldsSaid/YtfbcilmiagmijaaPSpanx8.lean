-- Written by a program of this session (over the kit's printer): not typed by hand.
import Derived.Test.YtfbcilmiagmijaaPSpanx0
import Derived.Test.YtfbcilmiagmijaaPSpanx2
import Derived.Test.YtfbcilmiagmijaaPSpanx3
import Derived.Test.YtfbcilmiagmijaaPSpanx5
import Derived.Test.YtfbcilmiagmijaaPSpanx6
namespace Go.Proofs.Ytfbcilmiagmijaa.PSpan
open Go.RowKit Go.Proofs.YtfbcilmiagmijaaW.PrintWords Go.Proofs.YtfbcilmiagmijaaW.PrintLast Go.Proofs.YtfbcilmiagmijaaW.PrintMore
attribute [local go_sem] max2_int min2_int max_two min_two max_three min_three max_four min_four   -- for this text's walks alone
set_option linter.unusedVariables false
set_option linter.unusedSimpArgs false

/-! ### signalboxlaw28_SpanHolds: function 6 -/
mutual
def signalboxlaw28_SpanHolds.j0 : Nat → Int → Int → Int → Int → List Int → Bool → Option (Bool)
  | 0, _, _, _, _, _, _ => none
  | k + 1, x0, x1, x2, x3, x4, x54 => if x54 = true then ((signalboxlaw28_awake.f k).bind fun t193 => (some t193)) else ((span_Of.f x0 x1).bind fun bt194 => ((span_Of.f x2 x3).bind fun bt196 => (signalboxlaw28_SpanHolds.l0 k x0 x1 x4 x0 x3 0 0 bt194.1 bt194.2 bt196.1 bt196.2)))
def signalboxlaw28_SpanHolds.l0 : Nat → Int → Int → List Int → Int → Int → Int → Int → Int → Int → Int → Int → Option (Bool)
  | 0, _, _, _, _, _, _, _, _, _, _, _ => none
  | k + 1, x0, x1, x4, x13, x14, x15, x16, x199000, x199001, x200000, x200001 => if x16 < (x4.length : Int) then (if 0 ≤ x16 then (if (wrap64 ((wrap64 (x1 - x0)) + 1)) = 0 then (none) else (if (Int.tmod (rd x4 x16) (wrap64 ((wrap64 (x1 - x0)) + 1))) < 0 then (signalboxlaw28_SpanHolds.j2 k x0 x1 x4 x14 x15 x16 (wrap64 (-(Int.tmod (rd x4 x16) (wrap64 ((wrap64 (x1 - x0)) + 1))))) x199000 x199001 x200000 x200001) else (signalboxlaw28_SpanHolds.j2 k x0 x1 x4 x14 x15 x16 (Int.tmod (rd x4 x16) (wrap64 ((wrap64 (x1 - x0)) + 1))) x199000 x199001 x200000 x200001))) else (none)) else ((span_Has.f x199000 x199001 x13).bind fun t204 => (if t204 = true then ((span_Has.f x200000 x200001 x14).bind fun t205 => (if t205 = true then ((span_Plus.f k x199000 x199001 x200000 x200001).bind fun bt206 => ((span_Has.f bt206.1 bt206.2 (wrap64 (x13 + x14))).bind fun t208 => (if t208 = true then ((span_Hull.f x199000 x199001 x200000 x200001).bind fun bt209 => ((span_Has.f bt209.1 bt209.2 x13).bind fun t211 => (if t211 = true then ((span_Hull.f x200000 x200001 x199000 x199001).bind fun bt212 => ((span_Has.f bt212.1 bt212.2 x14).bind fun t214 => (if t214 = true then ((span_Loop.f x200000 x200001).bind fun bt215 => ((span_Has.f bt215.1 bt215.2 0).bind fun t217 => (if t217 = true then ((signalboxlaw28_awake.f k).bind fun t218 => (some t218)) else (none)))) else (none)))) else (none)))) else (none)))) else (none))) else (none)))
def signalboxlaw28_SpanHolds.j2 : Nat → Int → Int → List Int → Int → Int → Int → Int → Int → Int → Int → Int → Option (Bool)
  | 0, _, _, _, _, _, _, _, _, _, _, _ => none
  | k + 1, x0, x1, x4, x14, x15, x16, x17, x199000, x199001, x200000, x200001 => (span_Loop.f x199000 x199001).bind fun bt201 => ((span_Has.f bt201.1 bt201.2 (wrap64 (x15 + (wrap64 (x0 + x17))))).bind fun t203 => (if t203 = true then (signalboxlaw28_SpanHolds.l0 k x0 x1 x4 (wrap64 (x0 + x17)) x14 (wrap64 (x15 + (wrap64 (x0 + x17)))) (wrap64 (x16 + 1)) x199000 x199001 x200000 x200001) else (some false)))
end
def signalboxlaw28_SpanHolds.f (k : Nat) (a0 : Int) (a1 : Int) (a2 : Int) (a3 : Int) (l4 : List Int) : Option (Bool) := if (l4.length : Int) > 40 then (signalboxlaw28_SpanHolds.j0 k a0 a1 a2 a3 l4 true) else (if a0 < (-100000) then (signalboxlaw28_SpanHolds.j0 k a0 a1 a2 a3 l4 true) else (if a0 > 100000 then (signalboxlaw28_SpanHolds.j0 k a0 a1 a2 a3 l4 true) else (if a1 < a0 then (signalboxlaw28_SpanHolds.j0 k a0 a1 a2 a3 l4 true) else (if a1 > 100000 then (signalboxlaw28_SpanHolds.j0 k a0 a1 a2 a3 l4 true) else (if a2 < (-100000) then (signalboxlaw28_SpanHolds.j0 k a0 a1 a2 a3 l4 true) else (if a2 > 100000 then (signalboxlaw28_SpanHolds.j0 k a0 a1 a2 a3 l4 true) else (if a3 < a2 then (signalboxlaw28_SpanHolds.j0 k a0 a1 a2 a3 l4 true) else (signalboxlaw28_SpanHolds.j0 k a0 a1 a2 a3 l4 (decide (a3 > 100000))))))))))
theorem signalboxlaw28_SpanHolds.mono_l : ∀ k, (∀ y0 y1 y2 y3 y4 y5, LeO (signalboxlaw28_SpanHolds.j0 k y0 y1 y2 y3 y4 y5) (signalboxlaw28_SpanHolds.j0 (k + 1) y0 y1 y2 y3 y4 y5)) ∧ (∀ y0 y1 y2 y3 y4 y5 y6 y7 y8 y9 y10, LeO (signalboxlaw28_SpanHolds.l0 k y0 y1 y2 y3 y4 y5 y6 y7 y8 y9 y10) (signalboxlaw28_SpanHolds.l0 (k + 1) y0 y1 y2 y3 y4 y5 y6 y7 y8 y9 y10)) ∧ (∀ y0 y1 y2 y3 y4 y5 y6 y7 y8 y9 y10, LeO (signalboxlaw28_SpanHolds.j2 k y0 y1 y2 y3 y4 y5 y6 y7 y8 y9 y10) (signalboxlaw28_SpanHolds.j2 (k + 1) y0 y1 y2 y3 y4 y5 y6 y7 y8 y9 y10))
  | 0 => ⟨fun _ _ _ _ _ _ r h => by simp [signalboxlaw28_SpanHolds.j0] at h, fun _ _ _ _ _ _ _ _ _ _ _ r h => by simp [signalboxlaw28_SpanHolds.l0] at h, fun _ _ _ _ _ _ _ _ _ _ _ r h => by simp [signalboxlaw28_SpanHolds.j2] at h⟩
  | k + 1 => by
    obtain ⟨ih0, ih1, ih2⟩ := signalboxlaw28_SpanHolds.mono_l k
    refine ⟨?_, ?_, ?_⟩
    · intro y0 y1 y2 y3 y4 y5
      unfold signalboxlaw28_SpanHolds.j0
      repeat' first
      | (with_reducible exact ih0 _ _ _ _ _ _)
      | (with_reducible exact ih1 _ _ _ _ _ _ _ _ _ _ _)
      | (with_reducible exact ih2 _ _ _ _ _ _ _ _ _ _ _)
      | (with_reducible exact signalboxlaw28_awake.mono _)
      | (with_reducible exact span_Plus.mono _ _ _ _ _)
      | (with_reducible exact LeO.refl _)
      | (with_reducible exact LeO.none _)
      | (with_reducible refine LeO.ite ?_ ?_)
      | (with_reducible refine LeO.bind ?_ (fun _ => ?_))
      | exact ih0 _ _ _ _ _ _
      | exact ih1 _ _ _ _ _ _ _ _ _ _ _
      | exact ih2 _ _ _ _ _ _ _ _ _ _ _
      | exact signalboxlaw28_awake.mono _
      | exact span_Plus.mono _ _ _ _ _
      | exact LeO.none _
      | refine LeO.ite ?_ ?_
      | refine LeO.bind ?_ (fun _ => ?_)
    · intro y0 y1 y2 y3 y4 y5 y6 y7 y8 y9 y10
      unfold signalboxlaw28_SpanHolds.l0
      repeat' first
      | (with_reducible exact ih0 _ _ _ _ _ _)
      | (with_reducible exact ih1 _ _ _ _ _ _ _ _ _ _ _)
      | (with_reducible exact ih2 _ _ _ _ _ _ _ _ _ _ _)
      | (with_reducible exact signalboxlaw28_awake.mono _)
      | (with_reducible exact span_Plus.mono _ _ _ _ _)
      | (with_reducible exact LeO.refl _)
      | (with_reducible exact LeO.none _)
      | (with_reducible refine LeO.ite ?_ ?_)
      | (with_reducible refine LeO.bind ?_ (fun _ => ?_))
      | exact ih0 _ _ _ _ _ _
      | exact ih1 _ _ _ _ _ _ _ _ _ _ _
      | exact ih2 _ _ _ _ _ _ _ _ _ _ _
      | exact signalboxlaw28_awake.mono _
      | exact span_Plus.mono _ _ _ _ _
      | exact LeO.none _
      | refine LeO.ite ?_ ?_
      | refine LeO.bind ?_ (fun _ => ?_)
    · intro y0 y1 y2 y3 y4 y5 y6 y7 y8 y9 y10
      unfold signalboxlaw28_SpanHolds.j2
      repeat' first
      | (with_reducible exact ih0 _ _ _ _ _ _)
      | (with_reducible exact ih1 _ _ _ _ _ _ _ _ _ _ _)
      | (with_reducible exact ih2 _ _ _ _ _ _ _ _ _ _ _)
      | (with_reducible exact signalboxlaw28_awake.mono _)
      | (with_reducible exact span_Plus.mono _ _ _ _ _)
      | (with_reducible exact LeO.refl _)
      | (with_reducible exact LeO.none _)
      | (with_reducible refine LeO.ite ?_ ?_)
      | (with_reducible refine LeO.bind ?_ (fun _ => ?_))
      | exact ih0 _ _ _ _ _ _
      | exact ih1 _ _ _ _ _ _ _ _ _ _ _
      | exact ih2 _ _ _ _ _ _ _ _ _ _ _
      | exact signalboxlaw28_awake.mono _
      | exact span_Plus.mono _ _ _ _ _
      | exact LeO.none _
      | refine LeO.ite ?_ ?_
      | refine LeO.bind ?_ (fun _ => ?_)
theorem signalboxlaw28_SpanHolds.mono : ∀ a0 a1 a2 a3 a4 k, LeO (signalboxlaw28_SpanHolds.f k a0 a1 a2 a3 a4) (signalboxlaw28_SpanHolds.f (k + 1) a0 a1 a2 a3 a4) := by
  intro a0 a1 a2 a3 a4 k
  obtain ⟨ih0, ih1, ih2⟩ := signalboxlaw28_SpanHolds.mono_l k
  unfold signalboxlaw28_SpanHolds.f
  repeat' first
      | (with_reducible exact ih0 _ _ _ _ _ _)
      | (with_reducible exact ih1 _ _ _ _ _ _ _ _ _ _ _)
      | (with_reducible exact ih2 _ _ _ _ _ _ _ _ _ _ _)
      | (with_reducible exact signalboxlaw28_awake.mono _)
      | (with_reducible exact span_Plus.mono _ _ _ _ _)
      | (with_reducible exact LeO.refl _)
      | (with_reducible exact LeO.none _)
      | (with_reducible refine LeO.ite ?_ ?_)
      | (with_reducible refine LeO.bind ?_ (fun _ => ?_))
      | exact ih0 _ _ _ _ _ _
      | exact ih1 _ _ _ _ _ _ _ _ _ _ _
      | exact ih2 _ _ _ _ _ _ _ _ _ _ _
      | exact signalboxlaw28_awake.mono _
      | exact span_Plus.mono _ _ _ _ _
      | exact LeO.none _
      | refine LeO.ite ?_ ?_
      | refine LeO.bind ?_ (fun _ => ?_)
set_option maxHeartbeats 8000000 in
set_option maxRecDepth 100000 in
theorem signalboxlaw28_SpanHolds.calls (k : Nat) (a0 : Int) (a1 : Int) (a2 : Int) (a3 : Int) (A4 : Option Addr) (c4 : Nat) (l4 : List Int) (r : Bool) (w : World) (hr4 : Kd.C (Kd.int .i64) w A4 l4.length l4) (hc4 : l4.length ≤ c4) (h : signalboxlaw28_SpanHolds.f k a0 a1 a2 a3 l4 = some r) :
    Calls Try.prog 6 #[.int .i64 a0, .int .i64 a1, .int .i64 a2, .int .i64 a3, .slice A4 l4.length c4] w fun e w' => e = .returned (.bool r) ∧ Below w.heap.size w w' := by
  have hu29 := Try.underlying29
  have HR4 := Aside0.mk hr4
  have HC4 := Aside0.mk hc4
  clear hr4 hc4
  have HB := Aside0.mk (Below.refl w.heap.size w)
  have H : (if (l4.length : Int) > 40 then (signalboxlaw28_SpanHolds.j0 k a0 a1 a2 a3 l4 true) else (if a0 < (-100000) then (signalboxlaw28_SpanHolds.j0 k a0 a1 a2 a3 l4 true) else (if a0 > 100000 then (signalboxlaw28_SpanHolds.j0 k a0 a1 a2 a3 l4 true) else (if a1 < a0 then (signalboxlaw28_SpanHolds.j0 k a0 a1 a2 a3 l4 true) else (if a1 > 100000 then (signalboxlaw28_SpanHolds.j0 k a0 a1 a2 a3 l4 true) else (if a2 < (-100000) then (signalboxlaw28_SpanHolds.j0 k a0 a1 a2 a3 l4 true) else (if a2 > 100000 then (signalboxlaw28_SpanHolds.j0 k a0 a1 a2 a3 l4 true) else (if a3 < a2 then (signalboxlaw28_SpanHolds.j0 k a0 a1 a2 a3 l4 true) else (signalboxlaw28_SpanHolds.j0 k a0 a1 a2 a3 l4 (decide (a3 > 100000))))))))))) = some r := h
  clear h
  have HC6 := Aside0.mk H
  clear H
  go_enter Try.func6, Try.ntmps6
  go_upto_region 1 with (fail)
  go_cut [54] (fun v54 wc => ∃ (kq : Nat) (x54_5 : Bool), v54 = .bool x54_5 ∧ Aside0 (signalboxlaw28_SpanHolds.j0 kq a0 a1 a2 a3 l4 x54_5 = some r) ∧ Aside0 (kq ≤ k) ∧ Aside0 (Below w.heap.size w wc))
  case first =>
    have H := HC6.out
    clear HC6
    by_cases c7 : (l4.length : Int) > 40
    · rw [if_pos c7] at H
      have c7b0 : decide (40 < (l4.length : Int)) = true := decide_eq_true c7
      have c7b1 : decide (40 < l4.length) = true := decide_eq_true (by omega)
      clear c7
      (first | rw [c7b0] | (simp only [i64_w, i32_w]; rw [c7b0]) | skip)
      have H' := Aside0.mk H
      clear H
      go_wp2
      go_meet
      case rel => exact ⟨_, (true), (by first | rfl | (simp; done) | (simp [*]; done)), H', ⟨by first | omega | exact Nat.le_refl _⟩, ⟨by repeat (first | (with_reducible first | exact HB.out | apply below_alloc | apply pw_below_drewN | apply below_drew1) | exact HB.out)⟩⟩
    · rw [if_neg c7] at H
      have c7b0 : decide (40 < (l4.length : Int)) = false := decide_eq_false c7
      have c7b1 : decide (40 < l4.length) = false := decide_eq_false (by omega)
      clear c7
      (first | rw [c7b0] | (simp only [i64_w, i32_w]; rw [c7b0]) | skip)
      by_cases c8 : a0 < (-100000)
      · rw [if_pos c8] at H
        have c8b0 : decide (a0 < (-100000)) = true := decide_eq_true c8
        clear c8
        have H' := Aside0.mk H
        clear H
        go_wp2
        go_meet
        case rel => exact ⟨_, (true), (by first | rfl | (simp; done) | (simp [*]; done)), H', ⟨by first | omega | exact Nat.le_refl _⟩, ⟨by repeat (first | (with_reducible first | exact HB.out | apply below_alloc | apply pw_below_drewN | apply below_drew1) | exact HB.out)⟩⟩
      · rw [if_neg c8] at H
        have c8b0 : decide (a0 < (-100000)) = false := decide_eq_false c8
        clear c8
        by_cases c9 : a0 > 100000
        · rw [if_pos c9] at H
          have c9b0 : decide (100000 < a0) = true := decide_eq_true c9
          clear c9
          have H' := Aside0.mk H
          clear H
          go_wp2
          go_meet
          case rel => exact ⟨_, (true), (by first | rfl | (simp; done) | (simp [*]; done)), H', ⟨by first | omega | exact Nat.le_refl _⟩, ⟨by repeat (first | (with_reducible first | exact HB.out | apply below_alloc | apply pw_below_drewN | apply below_drew1) | exact HB.out)⟩⟩
        · rw [if_neg c9] at H
          have c9b0 : decide (100000 < a0) = false := decide_eq_false c9
          clear c9
          by_cases c10 : a1 < a0
          · rw [if_pos c10] at H
            have c10b0 : decide (a1 < a0) = true := decide_eq_true c10
            clear c10
            have H' := Aside0.mk H
            clear H
            go_wp2
            go_meet
            case rel => exact ⟨_, (true), (by first | rfl | (simp; done) | (simp [*]; done)), H', ⟨by first | omega | exact Nat.le_refl _⟩, ⟨by repeat (first | (with_reducible first | exact HB.out | apply below_alloc | apply pw_below_drewN | apply below_drew1) | exact HB.out)⟩⟩
          · rw [if_neg c10] at H
            have c10b0 : decide (a1 < a0) = false := decide_eq_false c10
            clear c10
            by_cases c11 : a1 > 100000
            · rw [if_pos c11] at H
              have c11b0 : decide (100000 < a1) = true := decide_eq_true c11
              clear c11
              have H' := Aside0.mk H
              clear H
              go_wp2
              go_meet
              case rel => exact ⟨_, (true), (by first | rfl | (simp; done) | (simp [*]; done)), H', ⟨by first | omega | exact Nat.le_refl _⟩, ⟨by repeat (first | (with_reducible first | exact HB.out | apply below_alloc | apply pw_below_drewN | apply below_drew1) | exact HB.out)⟩⟩
            · rw [if_neg c11] at H
              have c11b0 : decide (100000 < a1) = false := decide_eq_false c11
              clear c11
              by_cases c12 : a2 < (-100000)
              · rw [if_pos c12] at H
                have c12b0 : decide (a2 < (-100000)) = true := decide_eq_true c12
                clear c12
                have H' := Aside0.mk H
                clear H
                go_wp2
                go_meet
                case rel => exact ⟨_, (true), (by first | rfl | (simp; done) | (simp [*]; done)), H', ⟨by first | omega | exact Nat.le_refl _⟩, ⟨by repeat (first | (with_reducible first | exact HB.out | apply below_alloc | apply pw_below_drewN | apply below_drew1) | exact HB.out)⟩⟩
              · rw [if_neg c12] at H
                have c12b0 : decide (a2 < (-100000)) = false := decide_eq_false c12
                clear c12
                by_cases c13 : a2 > 100000
                · rw [if_pos c13] at H
                  have c13b0 : decide (100000 < a2) = true := decide_eq_true c13
                  clear c13
                  have H' := Aside0.mk H
                  clear H
                  go_wp2
                  go_meet
                  case rel => exact ⟨_, (true), (by first | rfl | (simp; done) | (simp [*]; done)), H', ⟨by first | omega | exact Nat.le_refl _⟩, ⟨by repeat (first | (with_reducible first | exact HB.out | apply below_alloc | apply pw_below_drewN | apply below_drew1) | exact HB.out)⟩⟩
                · rw [if_neg c13] at H
                  have c13b0 : decide (100000 < a2) = false := decide_eq_false c13
                  clear c13
                  by_cases c14 : a3 < a2
                  · rw [if_pos c14] at H
                    have c14b0 : decide (a3 < a2) = true := decide_eq_true c14
                    clear c14
                    have H' := Aside0.mk H
                    clear H
                    go_wp2
                    go_meet
                    case rel => exact ⟨_, (true), (by first | rfl | (simp; done) | (simp [*]; done)), H', ⟨by first | omega | exact Nat.le_refl _⟩, ⟨by repeat (first | (with_reducible first | exact HB.out | apply below_alloc | apply pw_below_drewN | apply below_drew1) | exact HB.out)⟩⟩
                  · rw [if_neg c14] at H
                    have c14b0 : decide (a3 < a2) = false := decide_eq_false c14
                    clear c14
                    have H' := Aside0.mk H
                    clear H
                    go_wp2
                    go_meet
                    case rel => exact ⟨_, (decide (a3 > 100000)), (by first | rfl | (simp; done) | (simp [*]; done)), H', ⟨by first | omega | exact Nat.le_refl _⟩, ⟨by repeat (first | (with_reducible first | exact HB.out | apply below_alloc | apply pw_below_drewN | apply below_drew1) | exact HB.out)⟩⟩
  case rest =>
    clear HC6
    try clear c1
    try clear p2
    try clear c4
    try clear c6
    try clear c7
    try clear c7b0
    try clear c7b1
    try clear c8
    try clear c8b0
    try clear c9
    try clear c9b0
    try clear c10
    try clear c10b0
    try clear c11
    try clear c11b0
    try clear c12
    try clear c12b0
    try clear c13
    try clear c13b0
    try clear c14
    try clear c14b0
    obtain ⟨kq, x54_5, rfl, HA, HJ5, HB⟩ := hcut
    cases kq with
    | zero => exact absurd HA.out (by simp [signalboxlaw28_SpanHolds.j0])
    | succ kj5 =>
      have H := HA.out
      clear HA
      simp only [signalboxlaw28_SpanHolds.j0] at H
      by_cases c15 : x54_5 = true
      · subst c15
        have H1 : ((signalboxlaw28_awake.f kj5).bind fun t193 => (some t193)) = some r := by rw [if_pos rfl] at H; exact H
        clear H
        have H := H1
        clear H1
        replace H := Option.bind_eq_some_iff.mp H
        obtain ⟨t193, A160, H⟩ := H
        replace H : (some t193) = some r := H
        have A16 := Aside0.mk A160
        clear A160
        obtain rfl := Option.some.inj H
        go_wp2_with (first | ((with_reducible refine gate_callee (f := 29) rfl ?_); refine goesL_ (some 55) rfl rfl Try.func29 (by kernel_rfl) rfl #[] rfl (by (try simp only [List.map_toArray, List.map_cons, List.map_nil]); first | done | rfl | (simp only [List.length_drop, List.length_take]; rfl)) ?_; (with_reducible refine (signalboxlaw28_awake.calls kj5  t193 _ A16.out).mono ?_); rintro e w17 ⟨rfl, hb⟩; refine ⟨_, rfl, ?_⟩; have n0_ := Aside0.mk (below_step (by repeat (first | (with_reducible first | exact HB.out | apply below_alloc | apply pw_below_drewN | apply below_drew1) | exact HB.out)) hb); clear HB; have HB := n0_; clear n0_; (try clear hb); (try clear hb2); (try clear hk); (try clear hi)))
        go_ret
        exact ⟨by first | rfl | (simp [errW_none, errW_some] <;> rfl) | (simp [*, errW_none, errW_some] <;> rfl), by repeat (first | (with_reducible first | exact HB.out | apply below_alloc | apply pw_below_drewN | apply below_drew1) | exact HB.out)⟩
      · replace c15 := Bool.eq_false_iff.mpr c15
        subst c15
        have H1 : ((span_Of.f a0 a1).bind fun bt194 => ((span_Of.f a2 a3).bind fun bt196 => (signalboxlaw28_SpanHolds.l0 kj5 a0 a1 l4 a0 a3 0 0 bt194.1 bt194.2 bt196.1 bt196.2))) = some r := by rw [if_neg (show ¬ (false = true) by decide)] at H; exact H
        clear H
        have H := H1
        clear H1
        replace H := Option.bind_eq_some_iff.mp H
        obtain ⟨⟨t194, t195⟩, A180, H⟩ := H
        replace H : ((span_Of.f a2 a3).bind fun bt196 => (signalboxlaw28_SpanHolds.l0 kj5 a0 a1 l4 a0 a3 0 0 t194 t195 bt196.1 bt196.2)) = some r := H
        have A18 := Aside0.mk A180
        clear A180
        replace H := Option.bind_eq_some_iff.mp H
        obtain ⟨⟨t196, t197⟩, A190, H⟩ := H
        replace H : (signalboxlaw28_SpanHolds.l0 kj5 a0 a1 l4 a0 a3 0 0 t194 t195 t196 t197) = some r := H
        have A19 := Aside0.mk A190
        clear A190
        have H' := Aside0.mk H
        clear H
        go_wp2_with (first | ((with_reducible refine gate_callee (f := 16) rfl ?_); refine goesL_ (some 58) rfl rfl Try.func16 (by kernel_rfl) rfl #[.int .i64 a0, .int .i64 a1] rfl (by (try simp only [List.map_toArray, List.map_cons, List.map_nil]); first | done | rfl | (simp only [List.length_drop, List.length_take]; rfl)) ?_; (with_reducible refine (span_Of.calls a0 a1 t194 t195 _ A18.out).mono ?_); rintro e w20 ⟨rfl, hb⟩; refine ⟨_, rfl, ?_⟩; have n0_ := Aside0.mk (below_step (by repeat (first | (with_reducible first | exact HB.out | apply below_alloc | apply pw_below_drewN | apply below_drew1) | exact HB.out)) hb); clear HB; have HB := n0_; clear n0_; (try clear hb); (try clear hb2); (try clear hk); (try clear hi)) | ((with_reducible refine gate_callee (f := 16) rfl ?_); refine goesL_ (some 61) rfl rfl Try.func16 (by kernel_rfl) rfl #[.int .i64 a2, .int .i64 a3] rfl (by (try simp only [List.map_toArray, List.map_cons, List.map_nil]); first | done | rfl | (simp only [List.length_drop, List.length_take]; rfl)) ?_; (with_reducible refine (span_Of.calls a2 a3 t196 t197 _ A19.out).mono ?_); rintro e w21 ⟨rfl, hb⟩; refine ⟨_, rfl, ?_⟩; have n0_ := Aside0.mk (below_step (by repeat (first | (with_reducible first | exact HB.out | apply below_alloc | apply pw_below_drewN | apply below_drew1) | exact HB.out)) hb); clear HB; have HB := n0_; clear n0_; (try clear hb); (try clear hb2); (try clear hk); (try clear hi)) | ((with_reducible refine gate_dst (N := 11) rfl ?_); refine box_event ?hg (N := 11) ?hd (cs := #[.int .i64 0, .int .i64 0]) (t := 29) ?hr ?_; (case hd => rfl); (case hg => rfl); (case hr => first | (go_simp; done) | (go_simp; rfl)); intro gb198 hg w22 hbox hb; have n0_ := Aside0.mk (below_step (by repeat (first | (with_reducible first | exact HB.out | apply below_alloc | apply pw_below_drewN | apply below_drew1) | exact HB.out)) hb); have n1_ := Aside0.mk (hbox); have n2_ := Aside0.mk ((by rw [hg]; exact (below_size (by repeat (first | (with_reducible first | exact HB.out | apply below_alloc | apply pw_below_drewN | apply below_drew1) | exact HB.out))) : w.heap.size ≤ gb198)); have n3_ := Aside0.mk ((by rw [hg]; exact (below_size (by repeat (first | (with_reducible first | exact HB.out | apply below_alloc | apply pw_below_drewN | apply below_drew1) | exact HB.out))) : w.heap.size ≤ gb198)); clear HB; have HB := n0_; have BK198 := n1_; have GW198 := n2_; have GE198 := n3_; clear n0_ n1_ n2_ n3_; clear hb hbox hg) | ((with_reducible refine gate_dst (N := 12) rfl ?_); refine box_event ?hg (N := 12) ?hd (cs := #[.int .i64 0, .int .i64 0]) (t := 29) ?hr ?_; (case hd => rfl); (case hg => rfl); (case hr => first | (go_simp; done) | (go_simp; rfl)); intro gb199 hg w23 hbox hb; have n0_ := Aside0.mk (blk_below (g := gb198) (o := .cells #[.int .i64 0, .int .i64 0] 29 (0, 0)) (by (with_reducible repeat (first | refine blk_drewN ?_ _ | refine blk_drew ?_ | refine blk_alloc ?_ _)); exact BK198.out) hb); have n1_ := Aside0.mk (below_step (by repeat (first | (with_reducible first | exact HB.out | apply below_alloc | apply pw_below_drewN | apply below_drew1 | refine below_set ?_ GE198.out) | exact HB.out)) hb); have n2_ := Aside0.mk (hbox); have n3_ := Aside0.mk ((by rw [hg]; exact (below_size (by repeat (first | (with_reducible first | exact HB.out | apply below_alloc | apply pw_below_drewN | apply below_drew1 | refine below_set ?_ GE198.out) | exact HB.out))) : w.heap.size ≤ gb199)); have n4_ := Aside0.mk ((by rw [hg]; exact (below_size (by repeat (first | (with_reducible first | exact HB.out | apply below_alloc | apply pw_below_drewN | apply below_drew1 | refine below_set ?_ GE198.out) | exact HB.out))) : w.heap.size ≤ gb199)); have n5_ := Aside0.mk ((by rw [hg]; exact Nat.ne_of_lt (blk_lt (g := gb198) (o := .cells #[.int .i64 0, .int .i64 0] 29 (0, 0)) (by (with_reducible repeat (first | refine blk_drewN ?_ _ | refine blk_drew ?_ | refine blk_alloc ?_ _)); exact BK198.out)) : gb198 ≠ gb199)); have n6_ := Aside0.mk ((by rw [hg]; exact Nat.ne_of_gt (blk_lt (g := gb198) (o := .cells #[.int .i64 0, .int .i64 0] 29 (0, 0)) (by (with_reducible repeat (first | refine blk_drewN ?_ _ | refine blk_drew ?_ | refine blk_alloc ?_ _)); exact BK198.out)) : gb199 ≠ gb198)); clear BK198; clear HB; have BK198 := n0_; have HB := n1_; have BK199 := n2_; have GW199 := n3_; have GE199 := n4_; have NB198_199 := n5_; have NB199_198 := n6_; clear n0_ n1_ n2_ n3_ n4_ n5_ n6_; clear hb hbox hg; have hnb24 := NB198_199.out; have hnc24 := NB199_198.out; have hcz25_0 : w23.cell? ⟨gb198, 0, none⟩ = some (.int .i64 0) := (blk_cell BK198.out 0).trans rfl; have hcz25_1 : w23.cell? ⟨gb198, 1, none⟩ = some (.int .i64 0) := (blk_cell BK198.out 1).trans rfl; have hfz25_0 := blk_frozen BK198.out 0; have hfz25_1 := blk_frozen BK198.out 1; have hcz26_0 : w23.cell? ⟨gb199, 0, none⟩ = some (.int .i64 0) := (blk_cell BK199.out 0).trans rfl; have hcz26_1 : w23.cell? ⟨gb199, 1, none⟩ = some (.int .i64 0) := (blk_cell BK199.out 1).trans rfl; have hfz26_0 := blk_frozen BK199.out 0; have hfz26_1 := blk_frozen BK199.out 1))
        go_loopg [13, 15, 16] kj5 (fun kq v13 v15 v16 w' => ∃ (x13_2 : Int) (x15_2 : Int) (x16_2 : Int), v13 = .int .i64 x13_2 ∧ v15 = .int .i64 x15_2 ∧ v16 = .int .i64 x16_2 ∧ Aside0 (signalboxlaw28_SpanHolds.l0 kq a0 a1 l4 x13_2 a3 x15_2 x16_2 t194 t195 t196 t197 = some r) ∧ Aside0 (kq ≤ kj5) ∧ Aside0 (w'.heap[gb198]? = some (.cells #[.int .i64 t194, .int .i64 t195] 29 (0, 0))) ∧ Aside0 (w'.heap[gb199]? = some (.cells #[.int .i64 t196, .int .i64 t197] 29 (0, 0))) ∧ Aside0 (Below w.heap.size w w'))
        case atStart => exact ⟨(a0), (0), (0), (by first | rfl | (simp; done) | (simp [*]; done)), (by first | rfl | (simp; done) | (simp [*]; done)), (by first | rfl | (simp; done) | (simp [*]; done)), H', ⟨Nat.le_refl _⟩, ⟨by (with_reducible repeat (first | refine blk_drewN ?_ _ | refine blk_drew ?_ | refine blk_alloc ?_ _)); refine blk_far ?_ NB198_199.out _; (with_reducible repeat (first | refine blk_drewN ?_ _ | refine blk_drew ?_ | refine blk_alloc ?_ _)); refine blk_far ?_ NB198_199.out _; (with_reducible repeat (first | refine blk_drewN ?_ _ | refine blk_drew ?_ | refine blk_alloc ?_ _)); refine blk_put (cs := #[.int .i64 t194, .int .i64 0]) ?_ 1 _ rfl; (with_reducible repeat (first | refine blk_drewN ?_ _ | refine blk_drew ?_ | refine blk_alloc ?_ _)); refine blk_put (cs := #[.int .i64 0, .int .i64 0]) ?_ 0 _ rfl; (with_reducible repeat (first | refine blk_drewN ?_ _ | refine blk_drew ?_ | refine blk_alloc ?_ _)); exact BK198.out⟩, ⟨by (with_reducible repeat (first | refine blk_drewN ?_ _ | refine blk_drew ?_ | refine blk_alloc ?_ _)); refine blk_put (cs := #[.int .i64 t196, .int .i64 0]) ?_ 1 _ rfl; (with_reducible repeat (first | refine blk_drewN ?_ _ | refine blk_drew ?_ | refine blk_alloc ?_ _)); refine blk_put (cs := #[.int .i64 0, .int .i64 0]) ?_ 0 _ rfl; (with_reducible repeat (first | refine blk_drewN ?_ _ | refine blk_drew ?_ | refine blk_alloc ?_ _)); refine blk_far ?_ NB199_198.out _; (with_reducible repeat (first | refine blk_drewN ?_ _ | refine blk_drew ?_ | refine blk_alloc ?_ _)); refine blk_far ?_ NB199_198.out _; (with_reducible repeat (first | refine blk_drewN ?_ _ | refine blk_drew ?_ | refine blk_alloc ?_ _)); exact BK199.out⟩, ⟨by repeat (first | (with_reducible first | exact HB.out | apply below_alloc | apply pw_below_drewN | apply below_drew1 | refine below_set ?_ GE198.out | refine below_set ?_ GE199.out) | exact HB.out)⟩⟩
        case round =>
          clear H'
          try clear c1
          try clear c2
          try clear p2
          try clear c4
          try clear c6
          try clear c7
          try clear c7b0
          try clear c7b1
          try clear c8
          try clear c8b0
          try clear c9
          try clear c9b0
          try clear c10
          try clear c10b0
          try clear c11
          try clear c11b0
          try clear c12
          try clear c12b0
          try clear c13
          try clear c13b0
          try clear c14
          try clear c14b0
          try clear c15
          try clear c16
          try clear c24
          try clear hcz25_0
          try clear hcz25_1
          try clear hcz26_0
          try clear hcz26_1
          try clear hfz25_0
          try clear hfz25_1
          try clear hfz26_0
          try clear hfz26_1
          try clear p2
          obtain ⟨x13_2, x15_2, x16_2, rfl, rfl, rfl, HA, HK2, BK198, BK199, HB⟩ := hrel
          cases gk with
          | zero => exact absurd HA.out (by simp [signalboxlaw28_SpanHolds.l0])
          | succ k2 =>
            have H := HA.out
            clear HA
            simp only [signalboxlaw28_SpanHolds.l0] at H
            by_cases c27 : x16_2 < (l4.length : Int)
            · rw [if_pos c27] at H
              have c27b0 : decide (x16_2 < (l4.length : Int)) = true := decide_eq_true c27
              clear c27
              by_cases c28 : 0 ≤ x16_2
              · rw [if_pos c28] at H
                have c28b0 : decide (0 ≤ x16_2) = true := decide_eq_true c28
                clear c28
                by_cases c29 : (wrap64 ((wrap64 (a1 - a0)) + 1)) = 0
                · rw [if_pos c29] at H
                  exact absurd H (by simp)
                · rw [if_neg c29] at H
                  have c29b0 : ((wrap64 ((wrap64 (a1 - a0)) + 1)) == 0) = false := beq_eq_false_iff_ne.mpr c29
                  have c29b1 : ((wrap64 ((wrap64 (a1 - a0)) + 1)) != 0) = true := bne_iff_ne.mpr c29
                  have HC30 := Aside0.mk H
                  clear H
                  have p200 : 0 ≤ (x16_2 : Int) := of_decide_eq_true (by first | (with_reducible assumption) | assumption)
                  have q200 : x16_2 < (l4.length : Int) := of_decide_eq_true (by first | (with_reducible assumption) | assumption)
                  obtain ⟨ad200, e200, hx200_0⟩ := Kd.at_int HR4.out x16_2 p200 q200
                  cases e200
                  replace hx200_0 := (HB.out.cell (World.block_lt_of_cell? w _ hx200_0)).trans hx200_0
                  replace p200 := eq_true p200
                  replace q200 := eq_true q200
                  go_upto_if 80 with (fail)
                  go_cut [17] (fun v17 wc => ∃ (kq : Nat) (x17_29 : Int), v17 = .int .i64 x17_29 ∧ Aside0 (signalboxlaw28_SpanHolds.j2 kq a0 a1 l4 a3 x15_2 x16_2 x17_29 t194 t195 t196 t197 = some r) ∧ Aside0 (kq ≤ k2) ∧ Aside0 (wc.heap[gb198]? = some (.cells #[.int .i64 t194, .int .i64 t195] 29 (0, 0))) ∧ Aside0 (wc.heap[gb199]? = some (.cells #[.int .i64 t196, .int .i64 t197] 29 (0, 0))) ∧ Aside0 (Below w.heap.size w wc))
                  case first =>
                    have H := HC30.out
                    clear HC30
                    by_cases c31 : (Int.tmod (rd l4 x16_2) (wrap64 ((wrap64 (a1 - a0)) + 1))) < 0
                    · rw [if_pos c31] at H
                      have c31b0 : decide ((Int.tmod (rd l4 x16_2) (wrap64 ((wrap64 (a1 - a0)) + 1))) < 0) = true := decide_eq_true c31
                      clear c31
                      (first | rw [c31b0] | (simp only [i64_w, i32_w]; rw [c31b0]) | skip)
                      have H' := Aside0.mk H
                      clear H
                      go_wp2
                      go_meet
                      case rel => exact ⟨_, (wrap64 (-(Int.tmod (rd l4 x16_2) (wrap64 ((wrap64 (a1 - a0)) + 1))))), (by first | rfl | (simp; done) | (simp [*]; done)), H', ⟨by have := HJ5.out; have := HK2.out; first | omega | exact Nat.le_refl _⟩, ⟨by (with_reducible repeat (first | refine blk_drewN ?_ _ | refine blk_drew ?_ | refine blk_alloc ?_ _)); exact BK198.out⟩, ⟨by (with_reducible repeat (first | refine blk_drewN ?_ _ | refine blk_drew ?_ | refine blk_alloc ?_ _)); exact BK199.out⟩, ⟨by repeat (first | (with_reducible first | exact HB.out | apply below_alloc | apply pw_below_drewN | apply below_drew1 | refine below_set ?_ GE198.out | refine below_set ?_ GE199.out) | exact HB.out)⟩⟩
                    · rw [if_neg c31] at H
                      have c31b0 : decide ((Int.tmod (rd l4 x16_2) (wrap64 ((wrap64 (a1 - a0)) + 1))) < 0) = false := decide_eq_false c31
                      clear c31
                      (first | rw [c31b0] | (simp only [i64_w, i32_w]; rw [c31b0]) | skip)
                      have H' := Aside0.mk H
                      clear H
                      go_wp2
                      go_meet
                      case rel => exact ⟨_, (Int.tmod (rd l4 x16_2) (wrap64 ((wrap64 (a1 - a0)) + 1))), (by first | rfl | (simp; done) | (simp [*]; done)), H', ⟨by have := HJ5.out; have := HK2.out; first | omega | exact Nat.le_refl _⟩, ⟨by (with_reducible repeat (first | refine blk_drewN ?_ _ | refine blk_drew ?_ | refine blk_alloc ?_ _)); exact BK198.out⟩, ⟨by (with_reducible repeat (first | refine blk_drewN ?_ _ | refine blk_drew ?_ | refine blk_alloc ?_ _)); exact BK199.out⟩, ⟨by repeat (first | (with_reducible first | exact HB.out | apply below_alloc | apply pw_below_drewN | apply below_drew1 | refine below_set ?_ GE198.out | refine below_set ?_ GE199.out) | exact HB.out)⟩⟩
                  case rest =>
                    clear HC30
                    try clear c1
                    try clear c2
                    try clear p2
                    try clear q2
                    try clear hx2
                    try clear c3
                    try clear c4
                    try clear c6
                    try clear p6
                    try clear c7
                    try clear c7b0
                    try clear c7b1
                    try clear c8
                    try clear c8b0
                    try clear c9
                    try clear c9b0
                    try clear c10
                    try clear c10b0
                    try clear c11
                    try clear c11b0
                    try clear c12
                    try clear c12b0
                    try clear c13
                    try clear c13b0
                    try clear c14
                    try clear c14b0
                    try clear c15
                    try clear c16
                    try clear p20
                    try clear q20
                    try clear hx20
                    try clear c24
                    try clear c27
                    try clear c27b0
                    try clear c28
                    try clear c28b0
                    try clear c29
                    try clear c29b0
                    try clear c29b1
                    try clear c31
                    try clear c31b0
                    try clear hcz25_0
                    try clear hcz25_1
                    try clear hcz26_0
                    try clear hcz26_1
                    try clear hfz25_0
                    try clear hfz25_1
                    try clear hfz26_0
                    try clear hfz26_1
                    try clear hx200_0
                    try clear p2
                    try clear p200
                    try clear q200
                    obtain ⟨kq, x17_29, rfl, HA, HJ29, BK198, BK199, HB⟩ := hcut
                    cases kq with
                    | zero => exact absurd HA.out (by simp [signalboxlaw28_SpanHolds.j2])
                    | succ kj29 =>
                      have H := HA.out
                      clear HA
                      simp only [signalboxlaw28_SpanHolds.j2] at H
                      replace H := Option.bind_eq_some_iff.mp H
                      obtain ⟨⟨t201, t202⟩, A320, H⟩ := H
                      replace H : ((span_Has.f t201 t202 (wrap64 (x15_2 + (wrap64 (a0 + x17_29))))).bind fun t203 => (if t203 = true then (signalboxlaw28_SpanHolds.l0 kj29 a0 a1 l4 (wrap64 (a0 + x17_29)) a3 (wrap64 (x15_2 + (wrap64 (a0 + x17_29)))) (wrap64 (x16_2 + 1)) t194 t195 t196 t197) else (some false))) = some r := H
                      have A32 := Aside0.mk A320
                      clear A320
                      replace H := Option.bind_eq_some_iff.mp H
                      obtain ⟨t203, A330, H⟩ := H
                      replace H : (if t203 = true then (signalboxlaw28_SpanHolds.l0 kj29 a0 a1 l4 (wrap64 (a0 + x17_29)) a3 (wrap64 (x15_2 + (wrap64 (a0 + x17_29)))) (wrap64 (x16_2 + 1)) t194 t195 t196 t197) else (some false)) = some r := H
                      have A33 := Aside0.mk A330
                      clear A330
                      by_cases c34 : t203 = true
                      · subst c34
                        have H1 : (signalboxlaw28_SpanHolds.l0 kj29 a0 a1 l4 (wrap64 (a0 + x17_29)) a3 (wrap64 (x15_2 + (wrap64 (a0 + x17_29)))) (wrap64 (x16_2 + 1)) t194 t195 t196 t197) = some r := by rw [if_pos rfl] at H; exact H
                        clear H
                        have H := H1
                        clear H1
                        have H' := Aside0.mk H
                        clear H
                        have hnb35 := NB198_199.out
                        have hnc35 := NB199_198.out
                        have hcz36_0 : wc.cell? ⟨gb198, 0, none⟩ = some (.int .i64 t194) := (blk_cell BK198.out 0).trans rfl
                        have hcz36_1 : wc.cell? ⟨gb198, 1, none⟩ = some (.int .i64 t195) := (blk_cell BK198.out 1).trans rfl
                        have hfz36_0 := blk_frozen BK198.out 0
                        have hfz36_1 := blk_frozen BK198.out 1
                        go_wp2_with (first | ((with_reducible refine gate_callee (f := 23) rfl ?_); refine goesL_ (some 90) rfl rfl Try.func23 (by kernel_rfl) rfl #[.agg #[.int .i64 t194, .int .i64 t195]] rfl (by (try simp only [List.map_toArray, List.map_cons, List.map_nil]); first | done | rfl | (simp only [List.length_drop, List.length_take]; rfl)) ?_; (with_reducible refine (span_Loop.calls t194 t195 t201 t202 _ A32.out).mono ?_); rintro e w37 ⟨rfl, hb⟩; refine ⟨_, rfl, ?_⟩; have n0_ := Aside0.mk (blk_below (g := gb198) (o := .cells #[.int .i64 t194, .int .i64 t195] 29 (0, 0)) (by (with_reducible repeat (first | refine blk_drewN ?_ _ | refine blk_drew ?_ | refine blk_alloc ?_ _)); exact BK198.out) hb); have n1_ := Aside0.mk (blk_below (g := gb199) (o := .cells #[.int .i64 t196, .int .i64 t197] 29 (0, 0)) (by (with_reducible repeat (first | refine blk_drewN ?_ _ | refine blk_drew ?_ | refine blk_alloc ?_ _)); exact BK199.out) hb); have n2_ := Aside0.mk (below_step (by repeat (first | (with_reducible first | exact HB.out | apply below_alloc | apply pw_below_drewN | apply below_drew1 | refine below_set ?_ GE198.out | refine below_set ?_ GE199.out) | exact HB.out)) hb); clear BK198; clear BK199; clear HB; have BK198 := n0_; have BK199 := n1_; have HB := n2_; clear n0_ n1_ n2_; (try clear hb); (try clear hb2); (try clear hk); (try clear hi)) | ((with_reducible refine gate_callee (f := 25) rfl ?_); refine goesL_ (some 92) rfl rfl Try.func25 (by kernel_rfl) rfl #[.agg #[.int .i64 t201, .int .i64 t202], .int .i64 (wrap64 (x15_2 + (wrap64 (a0 + x17_29))))] rfl (by (try simp only [List.map_toArray, List.map_cons, List.map_nil]); first | done | rfl | (simp only [List.length_drop, List.length_take]; rfl)) ?_; (with_reducible refine (span_Has.calls t201 t202 (wrap64 (x15_2 + (wrap64 (a0 + x17_29)))) true _ A33.out).mono ?_); rintro e w38 ⟨rfl, hb⟩; refine ⟨_, rfl, ?_⟩; have n0_ := Aside0.mk (blk_below (g := gb198) (o := .cells #[.int .i64 t194, .int .i64 t195] 29 (0, 0)) (by (with_reducible repeat (first | refine blk_drewN ?_ _ | refine blk_drew ?_ | refine blk_alloc ?_ _)); exact BK198.out) hb); have n1_ := Aside0.mk (blk_below (g := gb199) (o := .cells #[.int .i64 t196, .int .i64 t197] 29 (0, 0)) (by (with_reducible repeat (first | refine blk_drewN ?_ _ | refine blk_drew ?_ | refine blk_alloc ?_ _)); exact BK199.out) hb); have n2_ := Aside0.mk (below_step (by repeat (first | (with_reducible first | exact HB.out | apply below_alloc | apply pw_below_drewN | apply below_drew1 | refine below_set ?_ GE198.out | refine below_set ?_ GE199.out) | exact HB.out)) hb); clear BK198; clear BK199; clear HB; have BK198 := n0_; have BK199 := n1_; have HB := n2_; clear n0_ n1_ n2_; (try clear hb); (try clear hb2); (try clear hk); (try clear hi)))
                        go_roundg kj29
                        case measure => have := HJ5.out; have := HK2.out; have := HJ29.out; omega
                        case rel => exact ⟨(wrap64 (a0 + x17_29)), (wrap64 (x15_2 + (wrap64 (a0 + x17_29)))), (wrap64 (x16_2 + 1)), (by first | rfl | (simp; done) | (simp [*]; done)), (by first | rfl | (simp; done) | (simp [*]; done)), (by first | rfl | (simp; done) | (simp [*]; done)), H', ⟨by have := HJ5.out; have := HK2.out; have := HJ29.out; omega⟩, ⟨by (with_reducible repeat (first | refine blk_drewN ?_ _ | refine blk_drew ?_ | refine blk_alloc ?_ _)); exact BK198.out⟩, ⟨by (with_reducible repeat (first | refine blk_drewN ?_ _ | refine blk_drew ?_ | refine blk_alloc ?_ _)); exact BK199.out⟩, ⟨by repeat (first | (with_reducible first | exact HB.out | apply below_alloc | apply pw_below_drewN | apply below_drew1 | refine below_set ?_ GE198.out | refine below_set ?_ GE199.out) | exact HB.out)⟩⟩
                      · replace c34 := Bool.eq_false_iff.mpr c34
                        subst c34
                        have H1 : (some false) = some r := by rw [if_neg (show ¬ (false = true) by decide)] at H; exact H
                        clear H
                        have H := H1
                        clear H1
                        obtain rfl := Option.some.inj H
                        have hnb39 := NB198_199.out
                        have hnc39 := NB199_198.out
                        have hcz40_0 : wc.cell? ⟨gb198, 0, none⟩ = some (.int .i64 t194) := (blk_cell BK198.out 0).trans rfl
                        have hcz40_1 : wc.cell? ⟨gb198, 1, none⟩ = some (.int .i64 t195) := (blk_cell BK198.out 1).trans rfl
                        have hfz40_0 := blk_frozen BK198.out 0
                        have hfz40_1 := blk_frozen BK198.out 1
                        go_wp2_with (first | ((with_reducible refine gate_callee (f := 23) rfl ?_); refine goesL_ (some 90) rfl rfl Try.func23 (by kernel_rfl) rfl #[.agg #[.int .i64 t194, .int .i64 t195]] rfl (by (try simp only [List.map_toArray, List.map_cons, List.map_nil]); first | done | rfl | (simp only [List.length_drop, List.length_take]; rfl)) ?_; (with_reducible refine (span_Loop.calls t194 t195 t201 t202 _ A32.out).mono ?_); rintro e w41 ⟨rfl, hb⟩; refine ⟨_, rfl, ?_⟩; have n0_ := Aside0.mk (blk_below (g := gb198) (o := .cells #[.int .i64 t194, .int .i64 t195] 29 (0, 0)) (by (with_reducible repeat (first | refine blk_drewN ?_ _ | refine blk_drew ?_ | refine blk_alloc ?_ _)); exact BK198.out) hb); have n1_ := Aside0.mk (blk_below (g := gb199) (o := .cells #[.int .i64 t196, .int .i64 t197] 29 (0, 0)) (by (with_reducible repeat (first | refine blk_drewN ?_ _ | refine blk_drew ?_ | refine blk_alloc ?_ _)); exact BK199.out) hb); have n2_ := Aside0.mk (below_step (by repeat (first | (with_reducible first | exact HB.out | apply below_alloc | apply pw_below_drewN | apply below_drew1 | refine below_set ?_ GE198.out | refine below_set ?_ GE199.out) | exact HB.out)) hb); clear BK198; clear BK199; clear HB; have BK198 := n0_; have BK199 := n1_; have HB := n2_; clear n0_ n1_ n2_; (try clear hb); (try clear hb2); (try clear hk); (try clear hi)) | ((with_reducible refine gate_callee (f := 25) rfl ?_); refine goesL_ (some 92) rfl rfl Try.func25 (by kernel_rfl) rfl #[.agg #[.int .i64 t201, .int .i64 t202], .int .i64 (wrap64 (x15_2 + (wrap64 (a0 + x17_29))))] rfl (by (try simp only [List.map_toArray, List.map_cons, List.map_nil]); first | done | rfl | (simp only [List.length_drop, List.length_take]; rfl)) ?_; (with_reducible refine (span_Has.calls t201 t202 (wrap64 (x15_2 + (wrap64 (a0 + x17_29)))) false _ A33.out).mono ?_); rintro e w42 ⟨rfl, hb⟩; refine ⟨_, rfl, ?_⟩; have n0_ := Aside0.mk (blk_below (g := gb198) (o := .cells #[.int .i64 t194, .int .i64 t195] 29 (0, 0)) (by (with_reducible repeat (first | refine blk_drewN ?_ _ | refine blk_drew ?_ | refine blk_alloc ?_ _)); exact BK198.out) hb); have n1_ := Aside0.mk (blk_below (g := gb199) (o := .cells #[.int .i64 t196, .int .i64 t197] 29 (0, 0)) (by (with_reducible repeat (first | refine blk_drewN ?_ _ | refine blk_drew ?_ | refine blk_alloc ?_ _)); exact BK199.out) hb); have n2_ := Aside0.mk (below_step (by repeat (first | (with_reducible first | exact HB.out | apply below_alloc | apply pw_below_drewN | apply below_drew1 | refine below_set ?_ GE198.out | refine below_set ?_ GE199.out) | exact HB.out)) hb); clear BK198; clear BK199; clear HB; have BK198 := n0_; have BK199 := n1_; have HB := n2_; clear n0_ n1_ n2_; (try clear hb); (try clear hb2); (try clear hk); (try clear hi)))
                        go_ret
                        exact ⟨by first | rfl | (simp [errW_none, errW_some] <;> rfl) | (simp [*, errW_none, errW_some] <;> rfl), by repeat (first | (with_reducible first | exact HB.out | apply below_alloc | apply pw_below_drewN | apply below_drew1 | refine below_set ?_ GE198.out | refine below_set ?_ GE199.out) | exact HB.out)⟩
              · rw [if_neg c28] at H
                exact absurd H (by simp)
            · rw [if_neg c27] at H
              have c27b0 : decide (x16_2 < (l4.length : Int)) = false := decide_eq_false c27
              clear c27
              replace H := Option.bind_eq_some_iff.mp H
              obtain ⟨t204, A430, H⟩ := H
              replace H : (if t204 = true then ((span_Has.f t196 t197 a3).bind fun t205 => (if t205 = true then ((span_Plus.f k2 t194 t195 t196 t197).bind fun bt206 => ((span_Has.f bt206.1 bt206.2 (wrap64 (x13_2 + a3))).bind fun t208 => (if t208 = true then ((span_Hull.f t194 t195 t196 t197).bind fun bt209 => ((span_Has.f bt209.1 bt209.2 x13_2).bind fun t211 => (if t211 = true then ((span_Hull.f t196 t197 t194 t195).bind fun bt212 => ((span_Has.f bt212.1 bt212.2 a3).bind fun t214 => (if t214 = true then ((span_Loop.f t196 t197).bind fun bt215 => ((span_Has.f bt215.1 bt215.2 0).bind fun t217 => (if t217 = true then ((signalboxlaw28_awake.f k2).bind fun t218 => (some t218)) else (none)))) else (none)))) else (none)))) else (none)))) else (none))) else (none)) = some r := H
              have A43 := Aside0.mk A430
              clear A430
              by_cases c44 : t204 = true
              · subst c44
                have H1 : ((span_Has.f t196 t197 a3).bind fun t205 => (if t205 = true then ((span_Plus.f k2 t194 t195 t196 t197).bind fun bt206 => ((span_Has.f bt206.1 bt206.2 (wrap64 (x13_2 + a3))).bind fun t208 => (if t208 = true then ((span_Hull.f t194 t195 t196 t197).bind fun bt209 => ((span_Has.f bt209.1 bt209.2 x13_2).bind fun t211 => (if t211 = true then ((span_Hull.f t196 t197 t194 t195).bind fun bt212 => ((span_Has.f bt212.1 bt212.2 a3).bind fun t214 => (if t214 = true then ((span_Loop.f t196 t197).bind fun bt215 => ((span_Has.f bt215.1 bt215.2 0).bind fun t217 => (if t217 = true then ((signalboxlaw28_awake.f k2).bind fun t218 => (some t218)) else (none)))) else (none)))) else (none)))) else (none)))) else (none))) = some r := by rw [if_pos rfl] at H; exact H
                clear H
                have H := H1
                clear H1
                replace H := Option.bind_eq_some_iff.mp H
                obtain ⟨t205, A450, H⟩ := H
                replace H : (if t205 = true then ((span_Plus.f k2 t194 t195 t196 t197).bind fun bt206 => ((span_Has.f bt206.1 bt206.2 (wrap64 (x13_2 + a3))).bind fun t208 => (if t208 = true then ((span_Hull.f t194 t195 t196 t197).bind fun bt209 => ((span_Has.f bt209.1 bt209.2 x13_2).bind fun t211 => (if t211 = true then ((span_Hull.f t196 t197 t194 t195).bind fun bt212 => ((span_Has.f bt212.1 bt212.2 a3).bind fun t214 => (if t214 = true then ((span_Loop.f t196 t197).bind fun bt215 => ((span_Has.f bt215.1 bt215.2 0).bind fun t217 => (if t217 = true then ((signalboxlaw28_awake.f k2).bind fun t218 => (some t218)) else (none)))) else (none)))) else (none)))) else (none)))) else (none)) = some r := H
                have A45 := Aside0.mk A450
                clear A450
                by_cases c46 : t205 = true
                · subst c46
                  have H1 : ((span_Plus.f k2 t194 t195 t196 t197).bind fun bt206 => ((span_Has.f bt206.1 bt206.2 (wrap64 (x13_2 + a3))).bind fun t208 => (if t208 = true then ((span_Hull.f t194 t195 t196 t197).bind fun bt209 => ((span_Has.f bt209.1 bt209.2 x13_2).bind fun t211 => (if t211 = true then ((span_Hull.f t196 t197 t194 t195).bind fun bt212 => ((span_Has.f bt212.1 bt212.2 a3).bind fun t214 => (if t214 = true then ((span_Loop.f t196 t197).bind fun bt215 => ((span_Has.f bt215.1 bt215.2 0).bind fun t217 => (if t217 = true then ((signalboxlaw28_awake.f k2).bind fun t218 => (some t218)) else (none)))) else (none)))) else (none)))) else (none)))) = some r := by rw [if_pos rfl] at H; exact H
                  clear H
                  have H := H1
                  clear H1
                  replace H := Option.bind_eq_some_iff.mp H
                  obtain ⟨⟨t206, t207⟩, A470, H⟩ := H
                  replace H : ((span_Has.f t206 t207 (wrap64 (x13_2 + a3))).bind fun t208 => (if t208 = true then ((span_Hull.f t194 t195 t196 t197).bind fun bt209 => ((span_Has.f bt209.1 bt209.2 x13_2).bind fun t211 => (if t211 = true then ((span_Hull.f t196 t197 t194 t195).bind fun bt212 => ((span_Has.f bt212.1 bt212.2 a3).bind fun t214 => (if t214 = true then ((span_Loop.f t196 t197).bind fun bt215 => ((span_Has.f bt215.1 bt215.2 0).bind fun t217 => (if t217 = true then ((signalboxlaw28_awake.f k2).bind fun t218 => (some t218)) else (none)))) else (none)))) else (none)))) else (none))) = some r := H
                  have A47 := Aside0.mk A470
                  clear A470
                  replace H := Option.bind_eq_some_iff.mp H
                  obtain ⟨t208, A480, H⟩ := H
                  replace H : (if t208 = true then ((span_Hull.f t194 t195 t196 t197).bind fun bt209 => ((span_Has.f bt209.1 bt209.2 x13_2).bind fun t211 => (if t211 = true then ((span_Hull.f t196 t197 t194 t195).bind fun bt212 => ((span_Has.f bt212.1 bt212.2 a3).bind fun t214 => (if t214 = true then ((span_Loop.f t196 t197).bind fun bt215 => ((span_Has.f bt215.1 bt215.2 0).bind fun t217 => (if t217 = true then ((signalboxlaw28_awake.f k2).bind fun t218 => (some t218)) else (none)))) else (none)))) else (none)))) else (none)) = some r := H
                  have A48 := Aside0.mk A480
                  clear A480
                  by_cases c49 : t208 = true
                  · subst c49
                    have H1 : ((span_Hull.f t194 t195 t196 t197).bind fun bt209 => ((span_Has.f bt209.1 bt209.2 x13_2).bind fun t211 => (if t211 = true then ((span_Hull.f t196 t197 t194 t195).bind fun bt212 => ((span_Has.f bt212.1 bt212.2 a3).bind fun t214 => (if t214 = true then ((span_Loop.f t196 t197).bind fun bt215 => ((span_Has.f bt215.1 bt215.2 0).bind fun t217 => (if t217 = true then ((signalboxlaw28_awake.f k2).bind fun t218 => (some t218)) else (none)))) else (none)))) else (none)))) = some r := by rw [if_pos rfl] at H; exact H
                    clear H
                    have H := H1
                    clear H1
                    replace H := Option.bind_eq_some_iff.mp H
                    obtain ⟨⟨t209, t210⟩, A500, H⟩ := H
                    replace H : ((span_Has.f t209 t210 x13_2).bind fun t211 => (if t211 = true then ((span_Hull.f t196 t197 t194 t195).bind fun bt212 => ((span_Has.f bt212.1 bt212.2 a3).bind fun t214 => (if t214 = true then ((span_Loop.f t196 t197).bind fun bt215 => ((span_Has.f bt215.1 bt215.2 0).bind fun t217 => (if t217 = true then ((signalboxlaw28_awake.f k2).bind fun t218 => (some t218)) else (none)))) else (none)))) else (none))) = some r := H
                    have A50 := Aside0.mk A500
                    clear A500
                    replace H := Option.bind_eq_some_iff.mp H
                    obtain ⟨t211, A510, H⟩ := H
                    replace H : (if t211 = true then ((span_Hull.f t196 t197 t194 t195).bind fun bt212 => ((span_Has.f bt212.1 bt212.2 a3).bind fun t214 => (if t214 = true then ((span_Loop.f t196 t197).bind fun bt215 => ((span_Has.f bt215.1 bt215.2 0).bind fun t217 => (if t217 = true then ((signalboxlaw28_awake.f k2).bind fun t218 => (some t218)) else (none)))) else (none)))) else (none)) = some r := H
                    have A51 := Aside0.mk A510
                    clear A510
                    by_cases c52 : t211 = true
                    · subst c52
                      have H1 : ((span_Hull.f t196 t197 t194 t195).bind fun bt212 => ((span_Has.f bt212.1 bt212.2 a3).bind fun t214 => (if t214 = true then ((span_Loop.f t196 t197).bind fun bt215 => ((span_Has.f bt215.1 bt215.2 0).bind fun t217 => (if t217 = true then ((signalboxlaw28_awake.f k2).bind fun t218 => (some t218)) else (none)))) else (none)))) = some r := by rw [if_pos rfl] at H; exact H
                      clear H
                      have H := H1
                      clear H1
                      replace H := Option.bind_eq_some_iff.mp H
                      obtain ⟨⟨t212, t213⟩, A530, H⟩ := H
                      replace H : ((span_Has.f t212 t213 a3).bind fun t214 => (if t214 = true then ((span_Loop.f t196 t197).bind fun bt215 => ((span_Has.f bt215.1 bt215.2 0).bind fun t217 => (if t217 = true then ((signalboxlaw28_awake.f k2).bind fun t218 => (some t218)) else (none)))) else (none))) = some r := H
                      have A53 := Aside0.mk A530
                      clear A530
                      replace H := Option.bind_eq_some_iff.mp H
                      obtain ⟨t214, A540, H⟩ := H
                      replace H : (if t214 = true then ((span_Loop.f t196 t197).bind fun bt215 => ((span_Has.f bt215.1 bt215.2 0).bind fun t217 => (if t217 = true then ((signalboxlaw28_awake.f k2).bind fun t218 => (some t218)) else (none)))) else (none)) = some r := H
                      have A54 := Aside0.mk A540
                      clear A540
                      by_cases c55 : t214 = true
                      · subst c55
                        have H1 : ((span_Loop.f t196 t197).bind fun bt215 => ((span_Has.f bt215.1 bt215.2 0).bind fun t217 => (if t217 = true then ((signalboxlaw28_awake.f k2).bind fun t218 => (some t218)) else (none)))) = some r := by rw [if_pos rfl] at H; exact H
                        clear H
                        have H := H1
                        clear H1
                        replace H := Option.bind_eq_some_iff.mp H
                        obtain ⟨⟨t215, t216⟩, A560, H⟩ := H
                        replace H : ((span_Has.f t215 t216 0).bind fun t217 => (if t217 = true then ((signalboxlaw28_awake.f k2).bind fun t218 => (some t218)) else (none))) = some r := H
                        have A56 := Aside0.mk A560
                        clear A560
                        replace H := Option.bind_eq_some_iff.mp H
                        obtain ⟨t217, A570, H⟩ := H
                        replace H : (if t217 = true then ((signalboxlaw28_awake.f k2).bind fun t218 => (some t218)) else (none)) = some r := H
                        have A57 := Aside0.mk A570
                        clear A570
                        by_cases c58 : t217 = true
                        · subst c58
                          have H1 : ((signalboxlaw28_awake.f k2).bind fun t218 => (some t218)) = some r := by rw [if_pos rfl] at H; exact H
                          clear H
                          have H := H1
                          clear H1
                          replace H := Option.bind_eq_some_iff.mp H
                          obtain ⟨t218, A590, H⟩ := H
                          replace H : (some t218) = some r := H
                          have A59 := Aside0.mk A590
                          clear A590
                          obtain rfl := Option.some.inj H
                          have hnb60 := NB198_199.out
                          have hnc60 := NB199_198.out
                          have hcz61_0 : wr.cell? ⟨gb198, 0, none⟩ = some (.int .i64 t194) := (blk_cell BK198.out 0).trans rfl
                          have hcz61_1 : wr.cell? ⟨gb198, 1, none⟩ = some (.int .i64 t195) := (blk_cell BK198.out 1).trans rfl
                          have hfz61_0 := blk_frozen BK198.out 0
                          have hfz61_1 := blk_frozen BK198.out 1
                          go_wp2_with (first | ((with_reducible refine gate_callee (f := 25) rfl ?_); refine goesL_ (some 96) rfl rfl Try.func25 (by kernel_rfl) rfl #[.agg #[.int .i64 t194, .int .i64 t195], .int .i64 x13_2] rfl (by (try simp only [List.map_toArray, List.map_cons, List.map_nil]); first | done | rfl | (simp only [List.length_drop, List.length_take]; rfl)) ?_; (with_reducible refine (span_Has.calls t194 t195 x13_2 true _ A43.out).mono ?_); rintro e w62 ⟨rfl, hb⟩; refine ⟨_, rfl, ?_⟩; have n0_ := Aside0.mk (blk_below (g := gb198) (o := .cells #[.int .i64 t194, .int .i64 t195] 29 (0, 0)) (by (with_reducible repeat (first | refine blk_drewN ?_ _ | refine blk_drew ?_ | refine blk_alloc ?_ _)); exact BK198.out) hb); have n1_ := Aside0.mk (blk_below (g := gb199) (o := .cells #[.int .i64 t196, .int .i64 t197] 29 (0, 0)) (by (with_reducible repeat (first | refine blk_drewN ?_ _ | refine blk_drew ?_ | refine blk_alloc ?_ _)); exact BK199.out) hb); have n2_ := Aside0.mk (below_step (by repeat (first | (with_reducible first | exact HB.out | apply below_alloc | apply pw_below_drewN | apply below_drew1 | refine below_set ?_ GE198.out | refine below_set ?_ GE199.out) | exact HB.out)) hb); clear BK198; clear BK199; clear HB; have BK198 := n0_; have BK199 := n1_; have HB := n2_; clear n0_ n1_ n2_; (try clear hb); (try clear hb2); (try clear hk); (try clear hi); have hcz63_0 : w62.cell? ⟨gb199, 0, none⟩ = some (.int .i64 t196) := (blk_cell BK199.out 0).trans rfl; have hcz63_1 : w62.cell? ⟨gb199, 1, none⟩ = some (.int .i64 t197) := (blk_cell BK199.out 1).trans rfl; have hfz63_0 := blk_frozen BK199.out 0; have hfz63_1 := blk_frozen BK199.out 1) | (go_at_call 25; (with_reducible refine (span_Has.calls t196 t197 a3 true _ A45.out).mono ?_); rintro e w64 ⟨rfl, hb⟩; have n0_ := Aside0.mk (blk_below (g := gb198) (o := .cells #[.int .i64 t194, .int .i64 t195] 29 (0, 0)) (by (with_reducible repeat (first | refine blk_drewN ?_ _ | refine blk_drew ?_ | refine blk_alloc ?_ _)); exact BK198.out) hb); have n1_ := Aside0.mk (blk_below (g := gb199) (o := .cells #[.int .i64 t196, .int .i64 t197] 29 (0, 0)) (by (with_reducible repeat (first | refine blk_drewN ?_ _ | refine blk_drew ?_ | refine blk_alloc ?_ _)); exact BK199.out) hb); have n2_ := Aside0.mk (below_step (by repeat (first | (with_reducible first | exact HB.out | apply below_alloc | apply pw_below_drewN | apply below_drew1 | refine below_set ?_ GE198.out | refine below_set ?_ GE199.out) | exact HB.out)) hb); clear BK198; clear BK199; clear HB; have BK198 := n0_; have BK199 := n1_; have HB := n2_; clear n0_ n1_ n2_; (try clear hb); (try clear hb2); (try clear hk); (try clear hi); have hcz65_0 : w64.cell? ⟨gb198, 0, none⟩ = some (.int .i64 t194) := (blk_cell BK198.out 0).trans rfl; have hcz65_1 : w64.cell? ⟨gb198, 1, none⟩ = some (.int .i64 t195) := (blk_cell BK198.out 1).trans rfl; have hfz65_0 := blk_frozen BK198.out 0; have hfz65_1 := blk_frozen BK198.out 1; have hcz66_0 : w64.cell? ⟨gb199, 0, none⟩ = some (.int .i64 t196) := (blk_cell BK199.out 0).trans rfl; have hcz66_1 : w64.cell? ⟨gb199, 1, none⟩ = some (.int .i64 t197) := (blk_cell BK199.out 1).trans rfl; have hfz66_0 := blk_frozen BK199.out 0; have hfz66_1 := blk_frozen BK199.out 1) | (go_at_call 19; (with_reducible refine (span_Plus.calls k2 t194 t195 t196 t197 t206 t207 _ A47.out).mono ?_); rintro e w67 ⟨rfl, hb⟩; have n0_ := Aside0.mk (blk_below (g := gb198) (o := .cells #[.int .i64 t194, .int .i64 t195] 29 (0, 0)) (by (with_reducible repeat (first | refine blk_drewN ?_ _ | refine blk_drew ?_ | refine blk_alloc ?_ _)); exact BK198.out) hb); have n1_ := Aside0.mk (blk_below (g := gb199) (o := .cells #[.int .i64 t196, .int .i64 t197] 29 (0, 0)) (by (with_reducible repeat (first | refine blk_drewN ?_ _ | refine blk_drew ?_ | refine blk_alloc ?_ _)); exact BK199.out) hb); have n2_ := Aside0.mk (below_step (by repeat (first | (with_reducible first | exact HB.out | apply below_alloc | apply pw_below_drewN | apply below_drew1 | refine below_set ?_ GE198.out | refine below_set ?_ GE199.out) | exact HB.out)) hb); clear BK198; clear BK199; clear HB; have BK198 := n0_; have BK199 := n1_; have HB := n2_; clear n0_ n1_ n2_; (try clear hb); (try clear hb2); (try clear hk); (try clear hi)) | (go_at_call 25; (with_reducible refine (span_Has.calls t206 t207 (wrap64 (x13_2 + a3)) true _ A48.out).mono ?_); rintro e w68 ⟨rfl, hb⟩; have n0_ := Aside0.mk (blk_below (g := gb198) (o := .cells #[.int .i64 t194, .int .i64 t195] 29 (0, 0)) (by (with_reducible repeat (first | refine blk_drewN ?_ _ | refine blk_drew ?_ | refine blk_alloc ?_ _)); exact BK198.out) hb); have n1_ := Aside0.mk (blk_below (g := gb199) (o := .cells #[.int .i64 t196, .int .i64 t197] 29 (0, 0)) (by (with_reducible repeat (first | refine blk_drewN ?_ _ | refine blk_drew ?_ | refine blk_alloc ?_ _)); exact BK199.out) hb); have n2_ := Aside0.mk (below_step (by repeat (first | (with_reducible first | exact HB.out | apply below_alloc | apply pw_below_drewN | apply below_drew1 | refine below_set ?_ GE198.out | refine below_set ?_ GE199.out) | exact HB.out)) hb); clear BK198; clear BK199; clear HB; have BK198 := n0_; have BK199 := n1_; have HB := n2_; clear n0_ n1_ n2_; (try clear hb); (try clear hb2); (try clear hk); (try clear hi); have hcz69_0 : w68.cell? ⟨gb198, 0, none⟩ = some (.int .i64 t194) := (blk_cell BK198.out 0).trans rfl; have hcz69_1 : w68.cell? ⟨gb198, 1, none⟩ = some (.int .i64 t195) := (blk_cell BK198.out 1).trans rfl; have hfz69_0 := blk_frozen BK198.out 0; have hfz69_1 := blk_frozen BK198.out 1; have hcz70_0 : w68.cell? ⟨gb199, 0, none⟩ = some (.int .i64 t196) := (blk_cell BK199.out 0).trans rfl; have hcz70_1 : w68.cell? ⟨gb199, 1, none⟩ = some (.int .i64 t197) := (blk_cell BK199.out 1).trans rfl; have hfz70_0 := blk_frozen BK199.out 0; have hfz70_1 := blk_frozen BK199.out 1) | (go_at_call 21; (with_reducible refine (span_Hull.calls t194 t195 t196 t197 t209 t210 _ A50.out).mono ?_); rintro e w71 ⟨rfl, hb⟩; have n0_ := Aside0.mk (blk_below (g := gb198) (o := .cells #[.int .i64 t194, .int .i64 t195] 29 (0, 0)) (by (with_reducible repeat (first | refine blk_drewN ?_ _ | refine blk_drew ?_ | refine blk_alloc ?_ _)); exact BK198.out) hb); have n1_ := Aside0.mk (blk_below (g := gb199) (o := .cells #[.int .i64 t196, .int .i64 t197] 29 (0, 0)) (by (with_reducible repeat (first | refine blk_drewN ?_ _ | refine blk_drew ?_ | refine blk_alloc ?_ _)); exact BK199.out) hb); have n2_ := Aside0.mk (below_step (by repeat (first | (with_reducible first | exact HB.out | apply below_alloc | apply pw_below_drewN | apply below_drew1 | refine below_set ?_ GE198.out | refine below_set ?_ GE199.out) | exact HB.out)) hb); clear BK198; clear BK199; clear HB; have BK198 := n0_; have BK199 := n1_; have HB := n2_; clear n0_ n1_ n2_; (try clear hb); (try clear hb2); (try clear hk); (try clear hi)) | (go_at_call 25; (with_reducible refine (span_Has.calls t209 t210 x13_2 true _ A51.out).mono ?_); rintro e w72 ⟨rfl, hb⟩; have n0_ := Aside0.mk (blk_below (g := gb198) (o := .cells #[.int .i64 t194, .int .i64 t195] 29 (0, 0)) (by (with_reducible repeat (first | refine blk_drewN ?_ _ | refine blk_drew ?_ | refine blk_alloc ?_ _)); exact BK198.out) hb); have n1_ := Aside0.mk (blk_below (g := gb199) (o := .cells #[.int .i64 t196, .int .i64 t197] 29 (0, 0)) (by (with_reducible repeat (first | refine blk_drewN ?_ _ | refine blk_drew ?_ | refine blk_alloc ?_ _)); exact BK199.out) hb); have n2_ := Aside0.mk (below_step (by repeat (first | (with_reducible first | exact HB.out | apply below_alloc | apply pw_below_drewN | apply below_drew1 | refine below_set ?_ GE198.out | refine below_set ?_ GE199.out) | exact HB.out)) hb); clear BK198; clear BK199; clear HB; have BK198 := n0_; have BK199 := n1_; have HB := n2_; clear n0_ n1_ n2_; (try clear hb); (try clear hb2); (try clear hk); (try clear hi); have hcz73_0 : w72.cell? ⟨gb199, 0, none⟩ = some (.int .i64 t196) := (blk_cell BK199.out 0).trans rfl; have hcz73_1 : w72.cell? ⟨gb199, 1, none⟩ = some (.int .i64 t197) := (blk_cell BK199.out 1).trans rfl; have hfz73_0 := blk_frozen BK199.out 0; have hfz73_1 := blk_frozen BK199.out 1; have hcz74_0 : w72.cell? ⟨gb198, 0, none⟩ = some (.int .i64 t194) := (blk_cell BK198.out 0).trans rfl; have hcz74_1 : w72.cell? ⟨gb198, 1, none⟩ = some (.int .i64 t195) := (blk_cell BK198.out 1).trans rfl; have hfz74_0 := blk_frozen BK198.out 0; have hfz74_1 := blk_frozen BK198.out 1) | (go_at_call 21; (with_reducible refine (span_Hull.calls t196 t197 t194 t195 t212 t213 _ A53.out).mono ?_); rintro e w75 ⟨rfl, hb⟩; have n0_ := Aside0.mk (blk_below (g := gb198) (o := .cells #[.int .i64 t194, .int .i64 t195] 29 (0, 0)) (by (with_reducible repeat (first | refine blk_drewN ?_ _ | refine blk_drew ?_ | refine blk_alloc ?_ _)); exact BK198.out) hb); have n1_ := Aside0.mk (blk_below (g := gb199) (o := .cells #[.int .i64 t196, .int .i64 t197] 29 (0, 0)) (by (with_reducible repeat (first | refine blk_drewN ?_ _ | refine blk_drew ?_ | refine blk_alloc ?_ _)); exact BK199.out) hb); have n2_ := Aside0.mk (below_step (by repeat (first | (with_reducible first | exact HB.out | apply below_alloc | apply pw_below_drewN | apply below_drew1 | refine below_set ?_ GE198.out | refine below_set ?_ GE199.out) | exact HB.out)) hb); clear BK198; clear BK199; clear HB; have BK198 := n0_; have BK199 := n1_; have HB := n2_; clear n0_ n1_ n2_; (try clear hb); (try clear hb2); (try clear hk); (try clear hi)) | (go_at_call 25; (with_reducible refine (span_Has.calls t212 t213 a3 true _ A54.out).mono ?_); rintro e w76 ⟨rfl, hb⟩; have n0_ := Aside0.mk (blk_below (g := gb198) (o := .cells #[.int .i64 t194, .int .i64 t195] 29 (0, 0)) (by (with_reducible repeat (first | refine blk_drewN ?_ _ | refine blk_drew ?_ | refine blk_alloc ?_ _)); exact BK198.out) hb); have n1_ := Aside0.mk (blk_below (g := gb199) (o := .cells #[.int .i64 t196, .int .i64 t197] 29 (0, 0)) (by (with_reducible repeat (first | refine blk_drewN ?_ _ | refine blk_drew ?_ | refine blk_alloc ?_ _)); exact BK199.out) hb); have n2_ := Aside0.mk (below_step (by repeat (first | (with_reducible first | exact HB.out | apply below_alloc | apply pw_below_drewN | apply below_drew1 | refine below_set ?_ GE198.out | refine below_set ?_ GE199.out) | exact HB.out)) hb); clear BK198; clear BK199; clear HB; have BK198 := n0_; have BK199 := n1_; have HB := n2_; clear n0_ n1_ n2_; (try clear hb); (try clear hb2); (try clear hk); (try clear hi); have hcz77_0 : w76.cell? ⟨gb199, 0, none⟩ = some (.int .i64 t196) := (blk_cell BK199.out 0).trans rfl; have hcz77_1 : w76.cell? ⟨gb199, 1, none⟩ = some (.int .i64 t197) := (blk_cell BK199.out 1).trans rfl; have hfz77_0 := blk_frozen BK199.out 0; have hfz77_1 := blk_frozen BK199.out 1) | (go_at_call 23; (with_reducible refine (span_Loop.calls t196 t197 t215 t216 _ A56.out).mono ?_); rintro e w78 ⟨rfl, hb⟩; have n0_ := Aside0.mk (blk_below (g := gb198) (o := .cells #[.int .i64 t194, .int .i64 t195] 29 (0, 0)) (by (with_reducible repeat (first | refine blk_drewN ?_ _ | refine blk_drew ?_ | refine blk_alloc ?_ _)); exact BK198.out) hb); have n1_ := Aside0.mk (blk_below (g := gb199) (o := .cells #[.int .i64 t196, .int .i64 t197] 29 (0, 0)) (by (with_reducible repeat (first | refine blk_drewN ?_ _ | refine blk_drew ?_ | refine blk_alloc ?_ _)); exact BK199.out) hb); have n2_ := Aside0.mk (below_step (by repeat (first | (with_reducible first | exact HB.out | apply below_alloc | apply pw_below_drewN | apply below_drew1 | refine below_set ?_ GE198.out | refine below_set ?_ GE199.out) | exact HB.out)) hb); clear BK198; clear BK199; clear HB; have BK198 := n0_; have BK199 := n1_; have HB := n2_; clear n0_ n1_ n2_; (try clear hb); (try clear hb2); (try clear hk); (try clear hi)) | (go_at_call 25; (with_reducible refine (span_Has.calls t215 t216 0 true _ A57.out).mono ?_); rintro e w79 ⟨rfl, hb⟩; have n0_ := Aside0.mk (blk_below (g := gb198) (o := .cells #[.int .i64 t194, .int .i64 t195] 29 (0, 0)) (by (with_reducible repeat (first | refine blk_drewN ?_ _ | refine blk_drew ?_ | refine blk_alloc ?_ _)); exact BK198.out) hb); have n1_ := Aside0.mk (blk_below (g := gb199) (o := .cells #[.int .i64 t196, .int .i64 t197] 29 (0, 0)) (by (with_reducible repeat (first | refine blk_drewN ?_ _ | refine blk_drew ?_ | refine blk_alloc ?_ _)); exact BK199.out) hb); have n2_ := Aside0.mk (below_step (by repeat (first | (with_reducible first | exact HB.out | apply below_alloc | apply pw_below_drewN | apply below_drew1 | refine below_set ?_ GE198.out | refine below_set ?_ GE199.out) | exact HB.out)) hb); clear BK198; clear BK199; clear HB; have BK198 := n0_; have BK199 := n1_; have HB := n2_; clear n0_ n1_ n2_; (try clear hb); (try clear hb2); (try clear hk); (try clear hi)) | (go_at_call 29; (with_reducible refine (signalboxlaw28_awake.calls k2  t218 _ A59.out).mono ?_); rintro e w80 ⟨rfl, hb⟩; have n0_ := Aside0.mk (blk_below (g := gb198) (o := .cells #[.int .i64 t194, .int .i64 t195] 29 (0, 0)) (by (with_reducible repeat (first | refine blk_drewN ?_ _ | refine blk_drew ?_ | refine blk_alloc ?_ _)); exact BK198.out) hb); have n1_ := Aside0.mk (blk_below (g := gb199) (o := .cells #[.int .i64 t196, .int .i64 t197] 29 (0, 0)) (by (with_reducible repeat (first | refine blk_drewN ?_ _ | refine blk_drew ?_ | refine blk_alloc ?_ _)); exact BK199.out) hb); have n2_ := Aside0.mk (below_step (by repeat (first | (with_reducible first | exact HB.out | apply below_alloc | apply pw_below_drewN | apply below_drew1 | refine below_set ?_ GE198.out | refine below_set ?_ GE199.out) | exact HB.out)) hb); clear BK198; clear BK199; clear HB; have BK198 := n0_; have BK199 := n1_; have HB := n2_; clear n0_ n1_ n2_; (try clear hb); (try clear hb2); (try clear hk); (try clear hi)))
                          go_ret
                          exact ⟨by first | rfl | (simp [errW_none, errW_some] <;> rfl) | (simp [*, errW_none, errW_some] <;> rfl), by repeat (first | (with_reducible first | exact HB.out | apply below_alloc | apply pw_below_drewN | apply below_drew1 | refine below_set ?_ GE198.out | refine below_set ?_ GE199.out) | exact HB.out)⟩
                        · replace c58 := Bool.eq_false_iff.mpr c58
                          subst c58
                          have H1 : (none) = some r := by rw [if_neg (show ¬ (false = true) by decide)] at H; exact H
                          clear H
                          have H := H1
                          clear H1
                          exact absurd H (by simp)
                      · replace c55 := Bool.eq_false_iff.mpr c55
                        subst c55
                        have H1 : (none) = some r := by rw [if_neg (show ¬ (false = true) by decide)] at H; exact H
                        clear H
                        have H := H1
                        clear H1
                        exact absurd H (by simp)
                    · replace c52 := Bool.eq_false_iff.mpr c52
                      subst c52
                      have H1 : (none) = some r := by rw [if_neg (show ¬ (false = true) by decide)] at H; exact H
                      clear H
                      have H := H1
                      clear H1
                      exact absurd H (by simp)
                  · replace c49 := Bool.eq_false_iff.mpr c49
                    subst c49
                    have H1 : (none) = some r := by rw [if_neg (show ¬ (false = true) by decide)] at H; exact H
                    clear H
                    have H := H1
                    clear H1
                    exact absurd H (by simp)
                · replace c46 := Bool.eq_false_iff.mpr c46
                  subst c46
                  have H1 : (none) = some r := by rw [if_neg (show ¬ (false = true) by decide)] at H; exact H
                  clear H
                  have H := H1
                  clear H1
                  exact absurd H (by simp)
              · replace c44 := Bool.eq_false_iff.mpr c44
                subst c44
                have H1 : (none) = some r := by rw [if_neg (show ¬ (false = true) by decide)] at H; exact H
                clear H
                have H := H1
                clear H1
                exact absurd H (by simp)

/-- THE ONE PURE STATEMENT of signalboxlaw28_SpanHolds: yours. -/
def signalboxlaw28_SpanHolds.Pure : Prop := ∀ (a0 : Int) (a1 : Int) (a2 : Int) (a3 : Int) (l4 : List Int), (Lit.int .i64 a0).wf = true → (Lit.int .i64 a1).wf = true → (Lit.int .i64 a2).wf = true → (Lit.int .i64 a3).wf = true → l4.length ≤ maxLen → l4.length * 8 ≤ 140737488351232 → (∀ x ∈ l4, (Lit.int .i64 x).wf = true) → ∃ k, signalboxlaw28_SpanHolds.f k a0 a1 a2 a3 l4 = some true
theorem signalboxlaw28_SpanHolds.walk (P : signalboxlaw28_SpanHolds.Pure) (a0 : Int) (a1 : Int) (a2 : Int) (a3 : Int) (a4 : Option Addr) (len4 cap4 : Nat) (z4 : List Int) (w : World) (w0 : (Lit.int .i64 a0).wf = true) (w1 : (Lit.int .i64 a1).wf = true) (w2 : (Lit.int .i64 a2).wf = true) (w3 : (Lit.int .i64 a3).wf = true) (w4 : (a4 = none ∧ len4 = 0 ∧ cap4 = 0 ∧ z4 = []) ∨ ∃ x, a4 = some x ∧ len4 ≤ cap4 ∧ cap4 ≤ maxLen ∧ z4.length = cap4 ∧ (∀ i, i < z4.length → w.cell? (x.add i) = some (.int .i64 (z4.getD i 0))) ∧ ∀ n ∈ z4, (Lit.int .i64 n).wf = true) (y4 : len4 * 8 ≤ 140737488351232) :
    Calls Try.prog 6 #[.int .i64 a0, .int .i64 a1, .int .i64 a2, .int .i64 a3, .slice a4 len4 cap4] w fun e w' => e = .returned (.bool true) ∧ Below w.heap.size w w' := by
  obtain ⟨l4, rfl, hr4, hm4, hw4, hc4⟩ := ReadsInt.ofRowC w4
  obtain ⟨k, h⟩ := P a0 a1 a2 a3 l4 w0 w1 w2 w3 hm4 y4 hw4
  refine (signalboxlaw28_SpanHolds.calls k a0 a1 a2 a3 _ _ l4 true w (Kd.C_of_reads (d := (0 : Int)) (h1 := fun _ => rfl) hr4) hc4 h).mono ?_
  rintro e w' ⟨rfl, hd⟩
  exact ⟨rfl, hd⟩

end Go.Proofs.Ytfbcilmiagmijaa.PSpan
