-- Written by a program of this session (over the kit's printer): not typed by hand.
import Derived.Test.YtfbcilmiagmijaaPSpanx0
import Derived.Test.YtfbcilmiagmijaaPSpanx1
import Derived.Test.YtfbcilmiagmijaaPSpanx2
import Derived.Test.YtfbcilmiagmijaaPSpanx3
import Derived.Test.YtfbcilmiagmijaaPSpanx5
namespace Go.Proofs.Ytfbcilmiagmijaa.PSpan
open Go.RowKit Go.Proofs.YtfbcilmiagmijaaW.PrintWords Go.Proofs.YtfbcilmiagmijaaW.PrintLast Go.Proofs.YtfbcilmiagmijaaW.PrintMore
attribute [local go_sem] max2_int min2_int max_two min_two max_three min_three max_four min_four   -- for this text's walks alone
set_option linter.unusedVariables false
set_option linter.unusedSimpArgs false

attribute [local go_sem high] eqA29
/-! ### signalboxlaw28_awake: function 29 -/
def signalboxlaw28_awake.f (k : Nat)  : Option (Bool) := (span_Of.f 0 2).bind fun bt141 => ((span_Loop.f bt141.1 bt141.2).bind fun bt143 => (if (bt143.1 == 0 && (bt143.2 == 1048576)) = true then ((span_Of.f 1 2).bind fun bt145 => ((span_Of.f (-3) 4).bind fun bt147 => ((span_Plus.f k bt145.1 bt145.2 bt147.1 bt147.2).bind fun bt149 => (if (bt149.1 == (-2) && (bt149.2 == 6)) = true then ((span_Of.f (-3) 0).bind fun bt151 => ((span_Hull.f bt145.1 bt145.2 bt151.1 bt151.2).bind fun bt153 => (if (bt153.1 == (-3) && (bt153.2 == 2)) = true then ((span_Has.f bt145.1 bt145.2 2).bind fun t155 => (if t155 = true then ((span_Has.f bt145.1 bt145.2 3).bind fun t156 => (if t156 = true then (none) else ((span_Clip.f 1073741824).bind fun t157 => (if t157 = 1048576 then ((span_Of.f 3 2).bind fun bt158 => (some (bt158.1 == 0 && (bt158.2 == 0)))) else (none))))) else (none))) else (none)))) else (none))))) else (none)))
theorem signalboxlaw28_awake.mono : ∀ k, LeO (signalboxlaw28_awake.f k ) (signalboxlaw28_awake.f (k + 1) ) := by
  intro  k
  unfold signalboxlaw28_awake.f
  repeat' first
      | (with_reducible exact span_Plus.mono _ _ _ _ _)
      | (with_reducible exact LeO.refl _)
      | (with_reducible exact LeO.none _)
      | (with_reducible refine LeO.ite ?_ ?_)
      | (with_reducible refine LeO.bind ?_ (fun _ => ?_))
      | exact span_Plus.mono _ _ _ _ _
      | exact LeO.none _
      | refine LeO.ite ?_ ?_
      | refine LeO.bind ?_ (fun _ => ?_)
set_option maxHeartbeats 8000000 in
set_option maxRecDepth 100000 in
theorem signalboxlaw28_awake.calls (k : Nat)  (r : Bool) (w : World) (h : signalboxlaw28_awake.f k  = some r) :
    Calls Try.prog 29 #[] w fun e w' => e = .returned (.bool r) ∧ Below w.heap.size w w' := by
  have hu29 := Try.underlying29
  have HB := Aside0.mk (Below.refl w.heap.size w)
  have H : ((span_Of.f 0 2).bind fun bt141 => ((span_Loop.f bt141.1 bt141.2).bind fun bt143 => (if (bt143.1 == 0 && (bt143.2 == 1048576)) = true then ((span_Of.f 1 2).bind fun bt145 => ((span_Of.f (-3) 4).bind fun bt147 => ((span_Plus.f k bt145.1 bt145.2 bt147.1 bt147.2).bind fun bt149 => (if (bt149.1 == (-2) && (bt149.2 == 6)) = true then ((span_Of.f (-3) 0).bind fun bt151 => ((span_Hull.f bt145.1 bt145.2 bt151.1 bt151.2).bind fun bt153 => (if (bt153.1 == (-3) && (bt153.2 == 2)) = true then ((span_Has.f bt145.1 bt145.2 2).bind fun t155 => (if t155 = true then ((span_Has.f bt145.1 bt145.2 3).bind fun t156 => (if t156 = true then (none) else ((span_Clip.f 1073741824).bind fun t157 => (if t157 = 1048576 then ((span_Of.f 3 2).bind fun bt158 => (some (bt158.1 == 0 && (bt158.2 == 0)))) else (none))))) else (none))) else (none)))) else (none))))) else (none)))) = some r := h
  clear h
  replace H := Option.bind_eq_some_iff.mp H
  obtain ⟨⟨t141, t142⟩, A10, H⟩ := H
  replace H : ((span_Loop.f t141 t142).bind fun bt143 => (if (bt143.1 == 0 && (bt143.2 == 1048576)) = true then ((span_Of.f 1 2).bind fun bt145 => ((span_Of.f (-3) 4).bind fun bt147 => ((span_Plus.f k bt145.1 bt145.2 bt147.1 bt147.2).bind fun bt149 => (if (bt149.1 == (-2) && (bt149.2 == 6)) = true then ((span_Of.f (-3) 0).bind fun bt151 => ((span_Hull.f bt145.1 bt145.2 bt151.1 bt151.2).bind fun bt153 => (if (bt153.1 == (-3) && (bt153.2 == 2)) = true then ((span_Has.f bt145.1 bt145.2 2).bind fun t155 => (if t155 = true then ((span_Has.f bt145.1 bt145.2 3).bind fun t156 => (if t156 = true then (none) else ((span_Clip.f 1073741824).bind fun t157 => (if t157 = 1048576 then ((span_Of.f 3 2).bind fun bt158 => (some (bt158.1 == 0 && (bt158.2 == 0)))) else (none))))) else (none))) else (none)))) else (none))))) else (none))) = some r := H
  have A1 := Aside0.mk A10
  clear A10
  replace H := Option.bind_eq_some_iff.mp H
  obtain ⟨⟨t143, t144⟩, A20, H⟩ := H
  replace H : (if (t143 == 0 && (t144 == 1048576)) = true then ((span_Of.f 1 2).bind fun bt145 => ((span_Of.f (-3) 4).bind fun bt147 => ((span_Plus.f k bt145.1 bt145.2 bt147.1 bt147.2).bind fun bt149 => (if (bt149.1 == (-2) && (bt149.2 == 6)) = true then ((span_Of.f (-3) 0).bind fun bt151 => ((span_Hull.f bt145.1 bt145.2 bt151.1 bt151.2).bind fun bt153 => (if (bt153.1 == (-3) && (bt153.2 == 2)) = true then ((span_Has.f bt145.1 bt145.2 2).bind fun t155 => (if t155 = true then ((span_Has.f bt145.1 bt145.2 3).bind fun t156 => (if t156 = true then (none) else ((span_Clip.f 1073741824).bind fun t157 => (if t157 = 1048576 then ((span_Of.f 3 2).bind fun bt158 => (some (bt158.1 == 0 && (bt158.2 == 0)))) else (none))))) else (none))) else (none)))) else (none))))) else (none)) = some r := H
  have A2 := Aside0.mk A20
  clear A20
  by_cases c3 : (t143 == 0 && (t144 == 1048576)) = true
  · rw [if_pos c3] at H
    have c3b0 : (t143 == 0 && (t144 == 1048576)) = true := c3
    (try (have c3b1 : decide (t143 = 0 && (t144 == 1048576)) = true := by simpa using c3))
    (try (have c3b2 : (t143 == 0 && (t144 == 1048576)) = true := by simpa using c3))
    clear c3
    replace H := Option.bind_eq_some_iff.mp H
    obtain ⟨⟨t145, t146⟩, A40, H⟩ := H
    replace H : ((span_Of.f (-3) 4).bind fun bt147 => ((span_Plus.f k t145 t146 bt147.1 bt147.2).bind fun bt149 => (if (bt149.1 == (-2) && (bt149.2 == 6)) = true then ((span_Of.f (-3) 0).bind fun bt151 => ((span_Hull.f t145 t146 bt151.1 bt151.2).bind fun bt153 => (if (bt153.1 == (-3) && (bt153.2 == 2)) = true then ((span_Has.f t145 t146 2).bind fun t155 => (if t155 = true then ((span_Has.f t145 t146 3).bind fun t156 => (if t156 = true then (none) else ((span_Clip.f 1073741824).bind fun t157 => (if t157 = 1048576 then ((span_Of.f 3 2).bind fun bt158 => (some (bt158.1 == 0 && (bt158.2 == 0)))) else (none))))) else (none))) else (none)))) else (none)))) = some r := H
    have A4 := Aside0.mk A40
    clear A40
    replace H := Option.bind_eq_some_iff.mp H
    obtain ⟨⟨t147, t148⟩, A50, H⟩ := H
    replace H : ((span_Plus.f k t145 t146 t147 t148).bind fun bt149 => (if (bt149.1 == (-2) && (bt149.2 == 6)) = true then ((span_Of.f (-3) 0).bind fun bt151 => ((span_Hull.f t145 t146 bt151.1 bt151.2).bind fun bt153 => (if (bt153.1 == (-3) && (bt153.2 == 2)) = true then ((span_Has.f t145 t146 2).bind fun t155 => (if t155 = true then ((span_Has.f t145 t146 3).bind fun t156 => (if t156 = true then (none) else ((span_Clip.f 1073741824).bind fun t157 => (if t157 = 1048576 then ((span_Of.f 3 2).bind fun bt158 => (some (bt158.1 == 0 && (bt158.2 == 0)))) else (none))))) else (none))) else (none)))) else (none))) = some r := H
    have A5 := Aside0.mk A50
    clear A50
    replace H := Option.bind_eq_some_iff.mp H
    obtain ⟨⟨t149, t150⟩, A60, H⟩ := H
    replace H : (if (t149 == (-2) && (t150 == 6)) = true then ((span_Of.f (-3) 0).bind fun bt151 => ((span_Hull.f t145 t146 bt151.1 bt151.2).bind fun bt153 => (if (bt153.1 == (-3) && (bt153.2 == 2)) = true then ((span_Has.f t145 t146 2).bind fun t155 => (if t155 = true then ((span_Has.f t145 t146 3).bind fun t156 => (if t156 = true then (none) else ((span_Clip.f 1073741824).bind fun t157 => (if t157 = 1048576 then ((span_Of.f 3 2).bind fun bt158 => (some (bt158.1 == 0 && (bt158.2 == 0)))) else (none))))) else (none))) else (none)))) else (none)) = some r := H
    have A6 := Aside0.mk A60
    clear A60
    by_cases c7 : (t149 == (-2) && (t150 == 6)) = true
    · rw [if_pos c7] at H
      have c7b0 : (t149 == (-2) && (t150 == 6)) = true := c7
      (try (have c7b1 : decide (t149 = (-2) && (t150 == 6)) = true := by simpa using c7))
      (try (have c7b2 : (t149 == (-2) && (t150 == 6)) = true := by simpa using c7))
      clear c7
      replace H := Option.bind_eq_some_iff.mp H
      obtain ⟨⟨t151, t152⟩, A80, H⟩ := H
      replace H : ((span_Hull.f t145 t146 t151 t152).bind fun bt153 => (if (bt153.1 == (-3) && (bt153.2 == 2)) = true then ((span_Has.f t145 t146 2).bind fun t155 => (if t155 = true then ((span_Has.f t145 t146 3).bind fun t156 => (if t156 = true then (none) else ((span_Clip.f 1073741824).bind fun t157 => (if t157 = 1048576 then ((span_Of.f 3 2).bind fun bt158 => (some (bt158.1 == 0 && (bt158.2 == 0)))) else (none))))) else (none))) else (none))) = some r := H
      have A8 := Aside0.mk A80
      clear A80
      replace H := Option.bind_eq_some_iff.mp H
      obtain ⟨⟨t153, t154⟩, A90, H⟩ := H
      replace H : (if (t153 == (-3) && (t154 == 2)) = true then ((span_Has.f t145 t146 2).bind fun t155 => (if t155 = true then ((span_Has.f t145 t146 3).bind fun t156 => (if t156 = true then (none) else ((span_Clip.f 1073741824).bind fun t157 => (if t157 = 1048576 then ((span_Of.f 3 2).bind fun bt158 => (some (bt158.1 == 0 && (bt158.2 == 0)))) else (none))))) else (none))) else (none)) = some r := H
      have A9 := Aside0.mk A90
      clear A90
      by_cases c10 : (t153 == (-3) && (t154 == 2)) = true
      · rw [if_pos c10] at H
        have c10b0 : (t153 == (-3) && (t154 == 2)) = true := c10
        (try (have c10b1 : decide (t153 = (-3) && (t154 == 2)) = true := by simpa using c10))
        (try (have c10b2 : (t153 == (-3) && (t154 == 2)) = true := by simpa using c10))
        clear c10
        replace H := Option.bind_eq_some_iff.mp H
        obtain ⟨t155, A110, H⟩ := H
        replace H : (if t155 = true then ((span_Has.f t145 t146 3).bind fun t156 => (if t156 = true then (none) else ((span_Clip.f 1073741824).bind fun t157 => (if t157 = 1048576 then ((span_Of.f 3 2).bind fun bt158 => (some (bt158.1 == 0 && (bt158.2 == 0)))) else (none))))) else (none)) = some r := H
        have A11 := Aside0.mk A110
        clear A110
        by_cases c12 : t155 = true
        · subst c12
          have H1 : ((span_Has.f t145 t146 3).bind fun t156 => (if t156 = true then (none) else ((span_Clip.f 1073741824).bind fun t157 => (if t157 = 1048576 then ((span_Of.f 3 2).bind fun bt158 => (some (bt158.1 == 0 && (bt158.2 == 0)))) else (none))))) = some r := by rw [if_pos rfl] at H; exact H
          clear H
          have H := H1
          clear H1
          replace H := Option.bind_eq_some_iff.mp H
          obtain ⟨t156, A130, H⟩ := H
          replace H : (if t156 = true then (none) else ((span_Clip.f 1073741824).bind fun t157 => (if t157 = 1048576 then ((span_Of.f 3 2).bind fun bt158 => (some (bt158.1 == 0 && (bt158.2 == 0)))) else (none)))) = some r := H
          have A13 := Aside0.mk A130
          clear A130
          by_cases c14 : t156 = true
          · subst c14
            have H1 : (none) = some r := by rw [if_pos rfl] at H; exact H
            clear H
            have H := H1
            clear H1
            exact absurd H (by simp)
          · replace c14 := Bool.eq_false_iff.mpr c14
            subst c14
            have H1 : ((span_Clip.f 1073741824).bind fun t157 => (if t157 = 1048576 then ((span_Of.f 3 2).bind fun bt158 => (some (bt158.1 == 0 && (bt158.2 == 0)))) else (none))) = some r := by rw [if_neg (show ¬ (false = true) by decide)] at H; exact H
            clear H
            have H := H1
            clear H1
            replace H := Option.bind_eq_some_iff.mp H
            obtain ⟨t157, A150, H⟩ := H
            replace H : (if t157 = 1048576 then ((span_Of.f 3 2).bind fun bt158 => (some (bt158.1 == 0 && (bt158.2 == 0)))) else (none)) = some r := H
            have A15 := Aside0.mk A150
            clear A150
            by_cases c16 : t157 = 1048576
            · rw [if_pos c16] at H
              have c16b0 : (t157 == 1048576) = true := beq_iff_eq.mpr c16
              have c16b1 : (t157 != 1048576) = false := bne_eq_false_iff_eq.mpr c16
              clear c16
              replace H := Option.bind_eq_some_iff.mp H
              obtain ⟨⟨t158, t159⟩, A170, H⟩ := H
              replace H : (some (t158 == 0 && (t159 == 0))) = some r := H
              have A17 := Aside0.mk A170
              clear A170
              obtain rfl := Option.some.inj H
              go_enter Try.func29, Try.ntmps29
              go_wp2_with (first | ((with_reducible refine gate_callee (f := 16) rfl ?_); refine goesL_ (some 1) rfl rfl Try.func16 (by kernel_rfl) rfl #[.int .i64 0, .int .i64 2] rfl (by (try simp only [List.map_toArray, List.map_cons, List.map_nil]); first | done | rfl | (simp only [List.length_drop, List.length_take]; rfl)) ?_; (with_reducible refine (span_Of.calls 0 2 t141 t142 _ A1.out).mono ?_); rintro e w18 ⟨rfl, hb⟩; refine ⟨_, rfl, ?_⟩; have n0_ := Aside0.mk (below_step (by repeat (first | (with_reducible first | exact HB.out | apply below_alloc | apply pw_below_drewN | apply below_drew1) | exact HB.out)) hb); clear HB; have HB := n0_; clear n0_; (try clear hb); (try clear hb2); (try clear hk); (try clear hi)) | ((with_reducible refine gate_callee (f := 23) rfl ?_); refine goesL_ (some 2) rfl rfl Try.func23 (by kernel_rfl) rfl #[.agg #[.int .i64 t141, .int .i64 t142]] rfl (by (try simp only [List.map_toArray, List.map_cons, List.map_nil]); first | done | rfl | (simp only [List.length_drop, List.length_take]; rfl)) ?_; (with_reducible refine (span_Loop.calls t141 t142 t143 t144 _ A2.out).mono ?_); rintro e w19 ⟨rfl, hb⟩; refine ⟨_, rfl, ?_⟩; have n0_ := Aside0.mk (below_step (by repeat (first | (with_reducible first | exact HB.out | apply below_alloc | apply pw_below_drewN | apply below_drew1) | exact HB.out)) hb); clear HB; have HB := n0_; clear n0_; (try clear hb); (try clear hb2); (try clear hk); (try clear hi)) | (go_at_call 16; (with_reducible refine (span_Of.calls 1 2 t145 t146 _ A4.out).mono ?_); rintro e w20 ⟨rfl, hb⟩; have n0_ := Aside0.mk (below_step (by repeat (first | (with_reducible first | exact HB.out | apply below_alloc | apply pw_below_drewN | apply below_drew1) | exact HB.out)) hb); clear HB; have HB := n0_; clear n0_; (try clear hb); (try clear hb2); (try clear hk); (try clear hi)) | (go_at_call 16; (with_reducible refine (span_Of.calls (-3) 4 t147 t148 _ A5.out).mono ?_); rintro e w21 ⟨rfl, hb⟩; have n0_ := Aside0.mk (below_step (by repeat (first | (with_reducible first | exact HB.out | apply below_alloc | apply pw_below_drewN | apply below_drew1) | exact HB.out)) hb); clear HB; have HB := n0_; clear n0_; (try clear hb); (try clear hb2); (try clear hk); (try clear hi)) | (go_at_call 19; (with_reducible refine (span_Plus.calls k t145 t146 t147 t148 t149 t150 _ A6.out).mono ?_); rintro e w22 ⟨rfl, hb⟩; have n0_ := Aside0.mk (below_step (by repeat (first | (with_reducible first | exact HB.out | apply below_alloc | apply pw_below_drewN | apply below_drew1) | exact HB.out)) hb); clear HB; have HB := n0_; clear n0_; (try clear hb); (try clear hb2); (try clear hk); (try clear hi)) | (go_at_call 16; (with_reducible refine (span_Of.calls (-3) 0 t151 t152 _ A8.out).mono ?_); rintro e w23 ⟨rfl, hb⟩; have n0_ := Aside0.mk (below_step (by repeat (first | (with_reducible first | exact HB.out | apply below_alloc | apply pw_below_drewN | apply below_drew1) | exact HB.out)) hb); clear HB; have HB := n0_; clear n0_; (try clear hb); (try clear hb2); (try clear hk); (try clear hi)) | (go_at_call 21; (with_reducible refine (span_Hull.calls t145 t146 t151 t152 t153 t154 _ A9.out).mono ?_); rintro e w24 ⟨rfl, hb⟩; have n0_ := Aside0.mk (below_step (by repeat (first | (with_reducible first | exact HB.out | apply below_alloc | apply pw_below_drewN | apply below_drew1) | exact HB.out)) hb); clear HB; have HB := n0_; clear n0_; (try clear hb); (try clear hb2); (try clear hk); (try clear hi)) | (go_at_call 25; (with_reducible refine (span_Has.calls t145 t146 2 true _ A11.out).mono ?_); rintro e w25 ⟨rfl, hb⟩; have n0_ := Aside0.mk (below_step (by repeat (first | (with_reducible first | exact HB.out | apply below_alloc | apply pw_below_drewN | apply below_drew1) | exact HB.out)) hb); clear HB; have HB := n0_; clear n0_; (try clear hb); (try clear hb2); (try clear hk); (try clear hi)) | (go_at_call 25; (with_reducible refine (span_Has.calls t145 t146 3 false _ A13.out).mono ?_); rintro e w26 ⟨rfl, hb⟩; have n0_ := Aside0.mk (below_step (by repeat (first | (with_reducible first | exact HB.out | apply below_alloc | apply pw_below_drewN | apply below_drew1) | exact HB.out)) hb); clear HB; have HB := n0_; clear n0_; (try clear hb); (try clear hb2); (try clear hk); (try clear hi)) | (go_at_call 27; (with_reducible refine (span_Clip.calls 1073741824 t157 _ A15.out).mono ?_); rintro e w27 ⟨rfl, hb⟩; have n0_ := Aside0.mk (below_step (by repeat (first | (with_reducible first | exact HB.out | apply below_alloc | apply pw_below_drewN | apply below_drew1) | exact HB.out)) hb); clear HB; have HB := n0_; clear n0_; (try clear hb); (try clear hb2); (try clear hk); (try clear hi)) | (go_at_call 16; (with_reducible refine (span_Of.calls 3 2 t158 t159 _ A17.out).mono ?_); rintro e w28 ⟨rfl, hb⟩; have n0_ := Aside0.mk (below_step (by repeat (first | (with_reducible first | exact HB.out | apply below_alloc | apply pw_below_drewN | apply below_drew1) | exact HB.out)) hb); clear HB; have HB := n0_; clear n0_; (try clear hb); (try clear hb2); (try clear hk); (try clear hi)))
              go_ret
              exact ⟨by first | rfl | (simp [errW_none, errW_some] <;> rfl) | (simp [*, errW_none, errW_some] <;> rfl), by repeat (first | (with_reducible first | exact HB.out | apply below_alloc | apply pw_below_drewN | apply below_drew1) | exact HB.out)⟩
            · rw [if_neg c16] at H
              exact absurd H (by simp)
        · replace c12 := Bool.eq_false_iff.mpr c12
          subst c12
          have H1 : (none) = some r := by rw [if_neg (show ¬ (false = true) by decide)] at H; exact H
          clear H
          have H := H1
          clear H1
          exact absurd H (by simp)
      · rw [if_neg c10] at H
        exact absurd H (by simp)
    · rw [if_neg c7] at H
      exact absurd H (by simp)
  · rw [if_neg c3] at H
    exact absurd H (by simp)

end Go.Proofs.Ytfbcilmiagmijaa.PSpan
