-- Written by a program of this session (over the kit's printer): not typed by hand.
import Derived.Test.YtlngcnijlijplaaPBankx0
import Derived.Test.YtlngcnijlijplaaPBankx9
import Derived.Test.YtlngcnijlijplaaPBankx11
import Derived.Test.YtlngcnijlijplaaStateF
import Derived.BigQuiet
namespace Go.Proofs.Ytlngcnijlijplaa.PBank
open Go.RowKit Go.Proofs.YtlngcnijlijplaaW.PrintWords Go.Proofs.YtlngcnijlijplaaW.PrintLast Go.Proofs.YtlngcnijlijplaaW.PrintMore
attribute [local go_sem] max2_int min2_int max_two min_two max_three min_three max_four min_four   -- for this text's walks alone
set_option linter.unusedVariables false
set_option linter.unusedSimpArgs false

/-! ### signalboxlaw14_BankComes: function 7 -/
mutual
def signalboxlaw14_BankComes.j0 : Nat → Int → List Int → Int → Int → Int → Bool → Option (Bool)
  | 0, _, _, _, _, _, _ => none
  | k + 1, x0, x1, x2, x3, x4, x30 => if x30 = true then ((signalboxlaw14_awake.f k).bind fun t271 => (some t271)) else ((signalboxlaw14_state.f x0 x1).bind fun bt272 => ((bank_Safe.f k bt272.1 bt272.2.1 bt272.2.2).bind fun t281 => (if t281 = true then (if 0 < (bt272.1.length : Int) then (if 1 < (bt272.1.length : Int) then (signalboxlaw14_BankComes.l0 k x0 x2 x3 x4 bt272.1 bt272.2.1 bt272.2.2 (rd bt272.1 0) (rd bt272.1 1) 0) else (none)) else (none)) else ((signalboxlaw14_awake.f k).bind fun t282 => (some t282)))))
def signalboxlaw14_BankComes.l0 : Nat → Int → Int → Int → Int → List Int → List (List Int) → List (List Int) → Int → Int → Int → Option (Bool)
  | 0, _, _, _, _, _, _, _, _, _, _ => none
  | k + 1, x0, x2, x3, x4, x11, x12, x13, x14, x15, x16 => if x16 < x0 then (if 0 ≤ x16 then (if x16 < (x12.length : Int) then (if 0 < ((rd_L1 x12 x16).length : Int) then (if 1 < ((rd_L1 x12 x16).length : Int) then (signalboxlaw14_BankComes.l0 k x0 x2 x3 x4 x11 x12 x13 (wrap64 (x14 + (rd (rd_L1 x12 x16) 0))) (wrap64 (x15 + (rd (rd_L1 x12 x16) 1))) (wrap64 (x16 + 1))) else (none)) else (none)) else (none)) else (none)) else (if x2 > 0 then (if (wrap64 (x14 + 1)) = 0 then (none) else (signalboxlaw14_BankComes.j2 k x3 x4 x11 x12 x13 x15 (Int.tmod x2 (wrap64 (x14 + 1))))) else (signalboxlaw14_BankComes.j2 k x3 x4 x11 x12 x13 x15 0))
def signalboxlaw14_BankComes.j2 : Nat → Int → Int → List Int → List (List Int) → List (List Int) → Int → Int → Option (Bool)
  | 0, _, _, _, _, _, _, _ => none
  | k + 1, x3, x4, x11, x12, x13, x15, x17 => if x3 > 0 then (if (wrap64 (x15 + 1)) = 0 then (none) else (signalboxlaw14_BankComes.j3 k x4 x11 x12 x13 x17 (Int.tmod x3 (wrap64 (x15 + 1))))) else (signalboxlaw14_BankComes.j3 k x4 x11 x12 x13 x17 0)
def signalboxlaw14_BankComes.j3 : Nat → Int → List Int → List (List Int) → List (List Int) → Int → Int → Option (Bool)
  | 0, _, _, _, _, _, _ => none
  | k + 1, x4, x11, x12, x13, x17, x18 => (some (([] : List (List Int)) : List (List Int))).bind fun y289 => (if y289.length + x12.length < 5864062014805 then ((some (y289 ++ x12 : List (List Int))).bind fun y292 => (if y292.length < 5864062014805 then ((some (([] : List (List Int)) : List (List Int))).bind fun y301 => (if y301.length + x13.length < 5864062014805 then ((some (y301 ++ x13 : List (List Int))).bind fun y304 => (if y304.length < 5864062014805 then ((bank_Safe.f k x11 (y292 ++ [(([0, 0] : List Int))]) (y304 ++ [(([x17, x18] : List Int))])).bind fun t313 => (if t313 = true then (if x4 > 0 then (signalboxlaw14_BankComes.j4 k x11 x12 x13 (Int.tmod x4 20)) else (signalboxlaw14_BankComes.j4 k x11 x12 x13 0)) else (some false))) else (none))) else (none))) else (none))) else (none))
def signalboxlaw14_BankComes.j4 : Nat → List Int → List (List Int) → List (List Int) → Int → Option (Bool)
  | 0, _, _, _, _ => none
  | k + 1, x11, x12, x13, x19 => if 0 < (x11.length : Int) then (if 1 < (x11.length : Int) then ((bank_Safe.f k (([wrap64 ((rd x11 0) + x19), rd x11 1] : List Int)) x12 x13).bind fun t319 => (if t319 = true then ((signalboxlaw14_awake.f k).bind fun t320 => (some t320)) else (none))) else (none)) else (none)
end
def signalboxlaw14_BankComes.f (k : Nat) (a0 : Int) (l1 : List Int) (a2 : Int) (a3 : Int) (a4 : Int) : Option (Bool) := if a0 < 0 then (signalboxlaw14_BankComes.j0 k a0 l1 a2 a3 a4 true) else (if a0 > 12 then (signalboxlaw14_BankComes.j0 k a0 l1 a2 a3 a4 true) else (signalboxlaw14_BankComes.j0 k a0 l1 a2 a3 a4 (decide ((l1.length : Int) > 100))))
theorem signalboxlaw14_BankComes.mono_l : ∀ k, (∀ y0 y1 y2 y3 y4 y5, LeO (signalboxlaw14_BankComes.j0 k y0 y1 y2 y3 y4 y5) (signalboxlaw14_BankComes.j0 (k + 1) y0 y1 y2 y3 y4 y5)) ∧ (∀ y0 y1 y2 y3 y4 y5 y6 y7 y8 y9, LeO (signalboxlaw14_BankComes.l0 k y0 y1 y2 y3 y4 y5 y6 y7 y8 y9) (signalboxlaw14_BankComes.l0 (k + 1) y0 y1 y2 y3 y4 y5 y6 y7 y8 y9)) ∧ (∀ y0 y1 y2 y3 y4 y5 y6, LeO (signalboxlaw14_BankComes.j2 k y0 y1 y2 y3 y4 y5 y6) (signalboxlaw14_BankComes.j2 (k + 1) y0 y1 y2 y3 y4 y5 y6)) ∧ (∀ y0 y1 y2 y3 y4 y5, LeO (signalboxlaw14_BankComes.j3 k y0 y1 y2 y3 y4 y5) (signalboxlaw14_BankComes.j3 (k + 1) y0 y1 y2 y3 y4 y5)) ∧ (∀ y0 y1 y2 y3, LeO (signalboxlaw14_BankComes.j4 k y0 y1 y2 y3) (signalboxlaw14_BankComes.j4 (k + 1) y0 y1 y2 y3))
  | 0 => ⟨fun _ _ _ _ _ _ r h => by simp [signalboxlaw14_BankComes.j0] at h, fun _ _ _ _ _ _ _ _ _ _ r h => by simp [signalboxlaw14_BankComes.l0] at h, fun _ _ _ _ _ _ _ r h => by simp [signalboxlaw14_BankComes.j2] at h, fun _ _ _ _ _ _ r h => by simp [signalboxlaw14_BankComes.j3] at h, fun _ _ _ _ r h => by simp [signalboxlaw14_BankComes.j4] at h⟩
  | k + 1 => by
    obtain ⟨ih0, ih1, ih2, ih3, ih4⟩ := signalboxlaw14_BankComes.mono_l k
    refine ⟨?_, ?_, ?_, ?_, ?_⟩
    · intro y0 y1 y2 y3 y4 y5
      unfold signalboxlaw14_BankComes.j0
      repeat' first
      | (with_reducible exact ih0 _ _ _ _ _ _)
      | (with_reducible exact ih1 _ _ _ _ _ _ _ _ _ _)
      | (with_reducible exact ih2 _ _ _ _ _ _ _)
      | (with_reducible exact ih3 _ _ _ _ _ _)
      | (with_reducible exact ih4 _ _ _ _)
      | (with_reducible exact bank_Safe.mono _ _ _ _)
      | (with_reducible exact signalboxlaw14_awake.mono _)
      | (with_reducible exact LeO.refl _)
      | (with_reducible exact LeO.none _)
      | (with_reducible refine LeO.ite ?_ ?_)
      | (with_reducible refine LeO.bind ?_ (fun _ => ?_))
      | exact ih0 _ _ _ _ _ _
      | exact ih1 _ _ _ _ _ _ _ _ _ _
      | exact ih2 _ _ _ _ _ _ _
      | exact ih3 _ _ _ _ _ _
      | exact ih4 _ _ _ _
      | exact bank_Safe.mono _ _ _ _
      | exact signalboxlaw14_awake.mono _
      | exact LeO.none _
      | refine LeO.ite ?_ ?_
      | refine LeO.bind ?_ (fun _ => ?_)
    · intro y0 y1 y2 y3 y4 y5 y6 y7 y8 y9
      unfold signalboxlaw14_BankComes.l0
      repeat' first
      | (with_reducible exact ih0 _ _ _ _ _ _)
      | (with_reducible exact ih1 _ _ _ _ _ _ _ _ _ _)
      | (with_reducible exact ih2 _ _ _ _ _ _ _)
      | (with_reducible exact ih3 _ _ _ _ _ _)
      | (with_reducible exact ih4 _ _ _ _)
      | (with_reducible exact bank_Safe.mono _ _ _ _)
      | (with_reducible exact signalboxlaw14_awake.mono _)
      | (with_reducible exact LeO.refl _)
      | (with_reducible exact LeO.none _)
      | (with_reducible refine LeO.ite ?_ ?_)
      | (with_reducible refine LeO.bind ?_ (fun _ => ?_))
      | exact ih0 _ _ _ _ _ _
      | exact ih1 _ _ _ _ _ _ _ _ _ _
      | exact ih2 _ _ _ _ _ _ _
      | exact ih3 _ _ _ _ _ _
      | exact ih4 _ _ _ _
      | exact bank_Safe.mono _ _ _ _
      | exact signalboxlaw14_awake.mono _
      | exact LeO.none _
      | refine LeO.ite ?_ ?_
      | refine LeO.bind ?_ (fun _ => ?_)
    · intro y0 y1 y2 y3 y4 y5 y6
      unfold signalboxlaw14_BankComes.j2
      repeat' first
      | (with_reducible exact ih0 _ _ _ _ _ _)
      | (with_reducible exact ih1 _ _ _ _ _ _ _ _ _ _)
      | (with_reducible exact ih2 _ _ _ _ _ _ _)
      | (with_reducible exact ih3 _ _ _ _ _ _)
      | (with_reducible exact ih4 _ _ _ _)
      | (with_reducible exact bank_Safe.mono _ _ _ _)
      | (with_reducible exact signalboxlaw14_awake.mono _)
      | (with_reducible exact LeO.refl _)
      | (with_reducible exact LeO.none _)
      | (with_reducible refine LeO.ite ?_ ?_)
      | (with_reducible refine LeO.bind ?_ (fun _ => ?_))
      | exact ih0 _ _ _ _ _ _
      | exact ih1 _ _ _ _ _ _ _ _ _ _
      | exact ih2 _ _ _ _ _ _ _
      | exact ih3 _ _ _ _ _ _
      | exact ih4 _ _ _ _
      | exact bank_Safe.mono _ _ _ _
      | exact signalboxlaw14_awake.mono _
      | exact LeO.none _
      | refine LeO.ite ?_ ?_
      | refine LeO.bind ?_ (fun _ => ?_)
    · intro y0 y1 y2 y3 y4 y5
      unfold signalboxlaw14_BankComes.j3
      repeat' first
      | (with_reducible exact ih0 _ _ _ _ _ _)
      | (with_reducible exact ih1 _ _ _ _ _ _ _ _ _ _)
      | (with_reducible exact ih2 _ _ _ _ _ _ _)
      | (with_reducible exact ih3 _ _ _ _ _ _)
      | (with_reducible exact ih4 _ _ _ _)
      | (with_reducible exact bank_Safe.mono _ _ _ _)
      | (with_reducible exact signalboxlaw14_awake.mono _)
      | (with_reducible exact LeO.refl _)
      | (with_reducible exact LeO.none _)
      | (with_reducible refine LeO.ite ?_ ?_)
      | (with_reducible refine LeO.bind ?_ (fun _ => ?_))
      | exact ih0 _ _ _ _ _ _
      | exact ih1 _ _ _ _ _ _ _ _ _ _
      | exact ih2 _ _ _ _ _ _ _
      | exact ih3 _ _ _ _ _ _
      | exact ih4 _ _ _ _
      | exact bank_Safe.mono _ _ _ _
      | exact signalboxlaw14_awake.mono _
      | exact LeO.none _
      | refine LeO.ite ?_ ?_
      | refine LeO.bind ?_ (fun _ => ?_)
    · intro y0 y1 y2 y3
      unfold signalboxlaw14_BankComes.j4
      repeat' first
      | (with_reducible exact ih0 _ _ _ _ _ _)
      | (with_reducible exact ih1 _ _ _ _ _ _ _ _ _ _)
      | (with_reducible exact ih2 _ _ _ _ _ _ _)
      | (with_reducible exact ih3 _ _ _ _ _ _)
      | (with_reducible exact ih4 _ _ _ _)
      | (with_reducible exact bank_Safe.mono _ _ _ _)
      | (with_reducible exact signalboxlaw14_awake.mono _)
      | (with_reducible exact LeO.refl _)
      | (with_reducible exact LeO.none _)
      | (with_reducible refine LeO.ite ?_ ?_)
      | (with_reducible refine LeO.bind ?_ (fun _ => ?_))
      | exact ih0 _ _ _ _ _ _
      | exact ih1 _ _ _ _ _ _ _ _ _ _
      | exact ih2 _ _ _ _ _ _ _
      | exact ih3 _ _ _ _ _ _
      | exact ih4 _ _ _ _
      | exact bank_Safe.mono _ _ _ _
      | exact signalboxlaw14_awake.mono _
      | exact LeO.none _
      | refine LeO.ite ?_ ?_
      | refine LeO.bind ?_ (fun _ => ?_)
theorem signalboxlaw14_BankComes.mono : ∀ a0 a1 a2 a3 a4 k, LeO (signalboxlaw14_BankComes.f k a0 a1 a2 a3 a4) (signalboxlaw14_BankComes.f (k + 1) a0 a1 a2 a3 a4) := by
  intro a0 a1 a2 a3 a4 k
  obtain ⟨ih0, ih1, ih2, ih3, ih4⟩ := signalboxlaw14_BankComes.mono_l k
  unfold signalboxlaw14_BankComes.f
  repeat' first
      | (with_reducible exact ih0 _ _ _ _ _ _)
      | (with_reducible exact ih1 _ _ _ _ _ _ _ _ _ _)
      | (with_reducible exact ih2 _ _ _ _ _ _ _)
      | (with_reducible exact ih3 _ _ _ _ _ _)
      | (with_reducible exact ih4 _ _ _ _)
      | (with_reducible exact bank_Safe.mono _ _ _ _)
      | (with_reducible exact signalboxlaw14_awake.mono _)
      | (with_reducible exact LeO.refl _)
      | (with_reducible exact LeO.none _)
      | (with_reducible refine LeO.ite ?_ ?_)
      | (with_reducible refine LeO.bind ?_ (fun _ => ?_))
      | exact ih0 _ _ _ _ _ _
      | exact ih1 _ _ _ _ _ _ _ _ _ _
      | exact ih2 _ _ _ _ _ _ _
      | exact ih3 _ _ _ _ _ _
      | exact ih4 _ _ _ _
      | exact bank_Safe.mono _ _ _ _
      | exact signalboxlaw14_awake.mono _
      | exact LeO.none _
      | refine LeO.ite ?_ ?_
      | refine LeO.bind ?_ (fun _ => ?_)
def signalboxlaw14_BankComes.T22 : Bool × List (List Nat × List Nat) := (true, [([], []), ([0], [0]), ([1], [1]), ([], []), ([2, 3], [2, 3]), ([], []), ([5], [5]), ([6], [6]), ([4, 7], [4, 7]), ([], []), ([], []), ([8, 9, 10], [8, 9, 10]), ([11, 11], [11]), ([12, 12], [12]), ([12, 13], [12, 13]), ([14, 13, 0, 1, 2, 3, 4, 5, 6, 7, 8, 9, 10, 11, 12, 13, 14], [14])])
def signalboxlaw14_BankComes.B22 : List Nat := [0, 1, 3, 0, 15, 0, 32, 96, 255, 0, 0, 2047, 4095, 8191, 16383, 32767]
theorem signalboxlaw14_BankComes.tab22 : rtab .any (opsOf Try.f7 22) = signalboxlaw14_BankComes.T22 := by kernel_rfl
theorem signalboxlaw14_BankComes.bits22 : waitsOk signalboxlaw14_BankComes.T22.2 signalboxlaw14_BankComes.B22 = true := by kernel_rfl
set_option maxHeartbeats 8000000 in
set_option maxRecDepth 100000 in
theorem signalboxlaw14_BankComes.calls (k : Nat) (a0 : Int) (A1 : Option Addr) (c1 : Nat) (l1 : List Int) (a2 : Int) (a3 : Int) (a4 : Int) (r : Bool) (w : World) (hr1 : Kd.C (Kd.int .i64) w A1 l1.length l1) (hc1 : l1.length ≤ c1) (h : signalboxlaw14_BankComes.f k a0 l1 a2 a3 a4 = some r) :
    Calls Try.prog 7 #[.int .i64 a0, .slice A1 l1.length c1, .int .i64 a2, .int .i64 a3, .int .i64 a4] w fun e w' => e = .returned (.bool r) ∧ Below w.heap.size w w' := by
  have HR1 := Aside0.mk hr1
  have HC1 := Aside0.mk hc1
  clear hr1 hc1
  have HB := Aside0.mk (Below.refl w.heap.size w)
  have H : (if a0 < 0 then (signalboxlaw14_BankComes.j0 k a0 l1 a2 a3 a4 true) else (if a0 > 12 then (signalboxlaw14_BankComes.j0 k a0 l1 a2 a3 a4 true) else (signalboxlaw14_BankComes.j0 k a0 l1 a2 a3 a4 (decide ((l1.length : Int) > 100))))) = some r := h
  clear h
  have HC6 := Aside0.mk H
  clear H
  go_enter Try.func7, Try.ntmps7
  go_upto_region 1 with (fail)
  go_cut [30] (fun v30 wc => ∃ (kq : Nat) (x30_5 : Bool), v30 = .bool x30_5 ∧ Aside0 (signalboxlaw14_BankComes.j0 kq a0 l1 a2 a3 a4 x30_5 = some r) ∧ Aside0 (kq ≤ k) ∧ Aside0 (Below w.heap.size w wc))
  case first =>
    have H := HC6.out
    clear HC6
    by_cases c7 : a0 < 0
    · rw [if_pos c7] at H
      have c7b0 : decide (a0 < 0) = true := decide_eq_true c7
      clear c7
      (first | rw [c7b0] | (simp only [i64_w, i32_w]; rw [c7b0]) | skip)
      have H' := Aside0.mk H
      clear H
      go_wp2
      go_meet
      case rel => exact ⟨_, (true), (by first | rfl | (simp; done) | (simp [*]; done)), H', ⟨by first | omega | exact Nat.le_refl _⟩, ⟨by repeat (first | (with_reducible first | exact HB.out | apply below_alloc | apply pw_below_drewN | apply below_drew1) | exact HB.out)⟩⟩
    · rw [if_neg c7] at H
      have c7b0 : decide (a0 < 0) = false := decide_eq_false c7
      clear c7
      (first | rw [c7b0] | (simp only [i64_w, i32_w]; rw [c7b0]) | skip)
      by_cases c8 : a0 > 12
      · rw [if_pos c8] at H
        have c8b0 : decide (12 < a0) = true := decide_eq_true c8
        clear c8
        have H' := Aside0.mk H
        clear H
        go_wp2
        go_meet
        case rel => exact ⟨_, (true), (by first | rfl | (simp; done) | (simp [*]; done)), H', ⟨by first | omega | exact Nat.le_refl _⟩, ⟨by repeat (first | (with_reducible first | exact HB.out | apply below_alloc | apply pw_below_drewN | apply below_drew1) | exact HB.out)⟩⟩
      · rw [if_neg c8] at H
        have c8b0 : decide (12 < a0) = false := decide_eq_false c8
        clear c8
        have H' := Aside0.mk H
        clear H
        go_wp2
        go_meet
        case rel => exact ⟨_, (decide ((l1.length : Int) > 100)), (by first | rfl | (simp; done) | (simp [*]; done)), H', ⟨by first | omega | exact Nat.le_refl _⟩, ⟨by repeat (first | (with_reducible first | exact HB.out | apply below_alloc | apply pw_below_drewN | apply below_drew1) | exact HB.out)⟩⟩
  case rest =>
    clear HC6
    try clear c1
    try clear p2
    try clear c7
    try clear c7b0
    try clear c8
    try clear c8b0
    obtain ⟨kq, x30_5, rfl, HA, HJ5, HB⟩ := hcut
    cases kq with
    | zero => exact absurd HA.out (by simp [signalboxlaw14_BankComes.j0])
    | succ kj5 =>
      have H := HA.out
      clear HA
      simp only [signalboxlaw14_BankComes.j0] at H
      by_cases c9 : x30_5 = true
      · subst c9
        have H1 : ((signalboxlaw14_awake.f kj5).bind fun t271 => (some t271)) = some r := by rw [if_pos rfl] at H; exact H
        clear H
        have H := H1
        clear H1
        replace H := Option.bind_eq_some_iff.mp H
        obtain ⟨t271, A100, H⟩ := H
        replace H : (some t271) = some r := H
        have A10 := Aside0.mk A100
        clear A100
        obtain rfl := Option.some.inj H
        go_wp2_with (first | ((with_reducible refine gate_callee (f := 9) rfl ?_); refine goesL_ (some 31) rfl rfl Try.func9 (by kernel_rfl) rfl #[] rfl (by (try simp only [List.map_toArray, List.map_cons, List.map_nil]); first | done | kernel_rfl) ?_; (with_reducible refine (signalboxlaw14_awake.calls kj5  t271 _ A10.out).mono ?_); rintro e w11 ⟨rfl, hb⟩; refine ⟨_, rfl, ?_⟩; have n0_ := Aside0.mk (below_step (by repeat (first | (with_reducible first | exact HB.out | apply below_alloc | apply pw_below_drewN | apply below_drew1) | exact HB.out)) hb); clear HB; have HB := n0_; clear n0_; (try clear hb); (try clear hb2); (try clear hk); (try clear hi)))
        go_ret
        exact ⟨by first | rfl | (simp [errW_none, errW_some] <;> rfl) | (simp [*, errW_none, errW_some] <;> rfl), by repeat (first | (with_reducible first | exact HB.out | apply below_alloc | apply pw_below_drewN | apply below_drew1) | exact HB.out)⟩
      · replace c9 := Bool.eq_false_iff.mpr c9
        subst c9
        have H1 : ((signalboxlaw14_state.f a0 l1).bind fun bt272 => ((bank_Safe.f kj5 bt272.1 bt272.2.1 bt272.2.2).bind fun t281 => (if t281 = true then (if 0 < (bt272.1.length : Int) then (if 1 < (bt272.1.length : Int) then (signalboxlaw14_BankComes.l0 kj5 a0 a2 a3 a4 bt272.1 bt272.2.1 bt272.2.2 (rd bt272.1 0) (rd bt272.1 1) 0) else (none)) else (none)) else ((signalboxlaw14_awake.f kj5).bind fun t282 => (some t282))))) = some r := by rw [if_neg (show ¬ (false = true) by decide)] at H; exact H
        clear H
        have H := H1
        clear H1
        replace H := Option.bind_eq_some_iff.mp H
        obtain ⟨⟨t272, t273, t274⟩, A120, H⟩ := H
        replace H : ((bank_Safe.f kj5 t272 t273 t274).bind fun t281 => (if t281 = true then (if 0 < (t272.length : Int) then (if 1 < (t272.length : Int) then (signalboxlaw14_BankComes.l0 kj5 a0 a2 a3 a4 t272 t273 t274 (rd t272 0) (rd t272 1) 0) else (none)) else (none)) else ((signalboxlaw14_awake.f kj5).bind fun t282 => (some t282)))) = some r := H
        have A12 := Aside0.mk A120
        clear A120
        replace H := Option.bind_eq_some_iff.mp H
        obtain ⟨t281, A130, H⟩ := H
        replace H : (if t281 = true then (if 0 < (t272.length : Int) then (if 1 < (t272.length : Int) then (signalboxlaw14_BankComes.l0 kj5 a0 a2 a3 a4 t272 t273 t274 (rd t272 0) (rd t272 1) 0) else (none)) else (none)) else ((signalboxlaw14_awake.f kj5).bind fun t282 => (some t282))) = some r := H
        have A13 := Aside0.mk A130
        clear A130
        by_cases c14 : t281 = true
        · subst c14
          have H1 : (if 0 < (t272.length : Int) then (if 1 < (t272.length : Int) then (signalboxlaw14_BankComes.l0 kj5 a0 a2 a3 a4 t272 t273 t274 (rd t272 0) (rd t272 1) 0) else (none)) else (none)) = some r := by rw [if_pos rfl] at H; exact H
          clear H
          have H := H1
          clear H1
          by_cases c15 : 0 < (t272.length : Int)
          · rw [if_pos c15] at H
            have c15b0 : decide (0 < (t272.length : Int)) = true := decide_eq_true c15
            have c15b1 : decide (0 < t272.length) = true := decide_eq_true (by omega)
            clear c15
            by_cases c16 : 1 < (t272.length : Int)
            · rw [if_pos c16] at H
              have c16b0 : decide (1 < (t272.length : Int)) = true := decide_eq_true c16
              have c16b1 : decide (1 < t272.length) = true := decide_eq_true (by omega)
              clear c16
              have H' := Aside0.mk H
              clear H
              try go_wp2_with (first | ((with_reducible refine gate_callee (f := 16) rfl ?_); refine goesL_ (some 35) rfl rfl Try.func16 (by kernel_rfl) rfl #[.int .i64 a0, .slice A1 l1.length c1] rfl (by (try simp only [List.map_toArray, List.map_cons, List.map_nil]); first | done | kernel_rfl) ?_; (with_reducible refine (signalboxlaw14_state.callsF a0 _ _ l1 t272 t273 t274 _ ?side1 ?side2 A12.out).mono ?_); (case side1 => repeat (first | exact (Kd.C_below HR1.out HB.out) | (with_reducible refine Kd.C_alloc ?_ _) | (with_reducible refine Kd.C_drewN ?_ _) | (with_reducible refine Kd.C_drew ?_))); (case side2 => exact HC1.out); rintro e w17 ⟨v275, v277, v279, rfl, ho0, ho1, ho2, hb⟩; refine ⟨_, rfl, ?_⟩; have n0_ := Aside0.mk (Kd.R_lower ho0 (below_size (by repeat (first | (with_reducible first | exact HB.out | apply below_alloc | apply pw_below_drewN | apply below_drew1) | exact HB.out)))); have n1_ := Aside0.mk (Kd.N_lower (Kd.N_mono (ok' := fun k_ => some k_ ≠ (v275 : Value).ownBlock ∧ some k_ ≠ (v279 : Value).ownBlock) (Kd.R_N (Kd.R_bound ho1)) (fun k_ hk_ => ⟨hk_.1.1, hk_.1.2⟩)) (below_size (by repeat (first | (with_reducible first | exact HB.out | apply below_alloc | apply pw_below_drewN | apply below_drew1) | exact HB.out)))); have n2_ := Aside0.mk (Kd.N_lower (Kd.N_mono (ok' := fun k_ => some k_ ≠ (v275 : Value).ownBlock ∧ some k_ ≠ (v277 : Value).ownBlock) (Kd.R_N (Kd.R_bound ho2)) (fun k_ hk_ => ⟨hk_.1.1, hk_.1.2⟩)) (below_size (by repeat (first | (with_reducible first | exact HB.out | apply below_alloc | apply pw_below_drewN | apply below_drew1) | exact HB.out)))); have n3_ := Aside0.mk (below_step (by repeat (first | (with_reducible first | exact HB.out | apply below_alloc | apply pw_below_drewN | apply below_drew1) | exact HB.out)) hb); clear HB; have HO276 := n0_; have HO278 := n1_; have HO280 := n2_; have HB := n3_; clear n0_ n1_ n2_ n3_; (try clear hb); (try clear hb2); (try clear hk); (try clear hi); (try clear ho0); (try clear ho1); (try clear ho2); obtain ⟨Ao18, co18, eo18⟩ := Kd.R_slice HO276.out; subst eo18; obtain ⟨Ao19, co19, eo19⟩ := Kd.N_slice HO278.out; subst eo19; obtain ⟨Ao20, co20, eo20⟩ := Kd.N_slice HO280.out; subst eo20) | ((with_reducible refine gate_callee (f := 15) rfl ?_); refine goesL_ (some 42) rfl rfl Try.func15 (by kernel_rfl) rfl #[.slice Ao18 t272.length co18, .slice Ao19 t273.length co19, .slice Ao20 t274.length co20] rfl (by (try simp only [List.map_toArray, List.map_cons, List.map_nil]); first | done | kernel_rfl) ?_; (with_reducible refine (bank_Safe.calls kj5 _ _ t272 _ _ t273 _ _ t274 true _ ?side1 ?side2 ?side3 ?side4 ?side5 ?side6 A13.out).mono ?_); (case side1 => repeat (first | exact (Kd.R_reads' HO276.out).2.2 | (with_reducible refine Kd.C_alloc ?_ _) | (with_reducible refine Kd.C_drewN ?_ _) | (with_reducible refine Kd.C_drew ?_))); (case side2 => exact (Kd.R_reads' HO276.out).2.1); (case side3 => repeat (first | exact (Kd.N_reads' HO278.out).2.2 | (with_reducible refine Kd.C_alloc ?_ _) | (with_reducible refine Kd.C_drewN ?_ _) | (with_reducible refine Kd.C_drew ?_))); (case side4 => exact (Kd.N_reads' HO278.out).2.1); (case side5 => repeat (first | exact (Kd.N_reads' HO280.out).2.2 | (with_reducible refine Kd.C_alloc ?_ _) | (with_reducible refine Kd.C_drewN ?_ _) | (with_reducible refine Kd.C_drew ?_))); (case side6 => exact (Kd.N_reads' HO280.out).2.1); rintro e w21 ⟨rfl, hb⟩; refine ⟨_, rfl, ?_⟩; have n0_ := Aside0.mk (Kd.R_below (by (with_reducible repeat (first | apply Kd.R_alloc | apply Kd.R_drewN | apply Kd.R_drew)); exact HO276.out) hb); have n1_ := Aside0.mk (Kd.N_below (by (with_reducible repeat (first | apply Kd.N_alloc | apply Kd.N_drewN | apply Kd.N_drew)); exact HO278.out) hb); have n2_ := Aside0.mk (Kd.N_below (by (with_reducible repeat (first | apply Kd.N_alloc | apply Kd.N_drewN | apply Kd.N_drew)); exact HO280.out) hb); have n3_ := Aside0.mk (below_step (by repeat (first | (with_reducible first | exact HB.out | apply below_alloc | apply pw_below_drewN | apply below_drew1) | exact HB.out)) hb); clear HO276; clear HO278; clear HO280; clear HB; have HO276 := n0_; have HO278 := n1_; have HO280 := n2_; have HB := n3_; clear n0_ n1_ n2_ n3_; (try clear hb); (try clear hb2); (try clear hk); (try clear hi)))
              have p283 : 0 ≤ (0 : Int) := (by omega)
              have q283 : 0 < (t272.length : Int) := of_decide_eq_true (by first | (with_reducible assumption) | assumption)
              obtain ⟨ad283, e283, hx283_0⟩ := Kd.at_int (Kd.R_reads' HO276.out).2.2 0 p283 q283
              cases e283
              have qi283 : (0 < t272.length) = True := eq_true (by omega)
              (try rw [show ((0 : Int)).toNat = 0 from rfl] at hx283_0)
              (try rw [Addr.add_zero'] at hx283_0)
              replace p283 := eq_true p283
              replace q283 := eq_true q283
              have p284 : 0 ≤ (1 : Int) := (by omega)
              have q284 : 1 < (t272.length : Int) := of_decide_eq_true (by first | (with_reducible assumption) | assumption)
              obtain ⟨ad284, e284, hx284_0⟩ := Kd.at_int (Kd.R_reads' HO276.out).2.2 1 p284 q284
              obtain rfl : ad283 = ad284 := (by injection e284)
              (try simp only [show (1 : Int).toNat = 1 from rfl, Nat.reduceMul, Nat.reduceEqDiff, Go.Addr.add, ↓reduceIte] at hx284_0)
              have qi284 : (1 < t272.length) = True := eq_true (by omega)
              (try rw [show ((1 : Int)).toNat = 1 from rfl] at hx284_0)
              replace p284 := eq_true p284
              replace q284 := eq_true q284
              go_quiet (fail)
              try go_wp2
              go_loopg [14, 15, 16] kj5 (fun kq v14 v15 v16 w' => ∃ (x14_2 : Int) (x15_2 : Int) (x16_2 : Int), v14 = .int .i64 x14_2 ∧ v15 = .int .i64 x15_2 ∧ v16 = .int .i64 x16_2 ∧ Aside0 (signalboxlaw14_BankComes.l0 kq a0 a2 a3 a4 t272 t273 t274 x14_2 x15_2 x16_2 = some r) ∧ Aside0 (kq ≤ kj5) ∧ Aside0 (Kd.R (Kd.int .i64) 3 w' w.heap.size (fun _ => True) (.slice (some ad283) t272.length co18) t272) ∧ Aside0 (Kd.N (Kd.slice 3 (Kd.int .i64)) 22 w' w.heap.size (fun k_ => some k_ ≠ ((.slice (some ad283) t272.length co18) : Value).ownBlock ∧ some k_ ≠ ((.slice Ao20 t274.length co20) : Value).ownBlock) (.slice Ao19 t273.length co19) t273) ∧ Aside0 (Kd.N (Kd.slice 3 (Kd.int .i64)) 22 w' w.heap.size (fun k_ => some k_ ≠ ((.slice (some ad283) t272.length co18) : Value).ownBlock ∧ some k_ ≠ ((.slice Ao19 t273.length co19) : Value).ownBlock) (.slice Ao20 t274.length co20) t274) ∧ Aside0 (Below w.heap.size w w'))
              case atStart => exact ⟨(rd t272 0), (rd t272 1), (0), (by first | rfl | (simp; done) | (simp [*]; done)), (by first | rfl | (simp; done) | (simp [*]; done)), (by first | rfl | (simp; done) | (simp [*]; done)), H', ⟨Nat.le_refl _⟩, ⟨by (with_reducible repeat (first | apply Kd.R_alloc | apply Kd.R_drewN | apply Kd.R_drew)); exact HO276.out⟩, ⟨by (with_reducible repeat (first | apply Kd.N_alloc | apply Kd.N_drewN | apply Kd.N_drew)); exact HO278.out⟩, ⟨by (with_reducible repeat (first | apply Kd.N_alloc | apply Kd.N_drewN | apply Kd.N_drew)); exact HO280.out⟩, ⟨by repeat (first | (with_reducible first | exact HB.out | apply below_alloc | apply pw_below_drewN | apply below_drew1) | exact HB.out)⟩⟩
              case round =>
                clear H'
                try clear c1
                try clear p2
                try clear q2
                try clear hx2
                try clear qi2
                try clear c7
                try clear c7b0
                try clear c8
                try clear c8b0
                try clear c9
                try clear c14
                try clear c15
                try clear c15b0
                try clear c15b1
                try clear c16
                try clear c16b0
                try clear c16b1
                try clear hx283_0
                try clear hx284_0
                try clear p2
                try clear p283
                try clear p284
                try clear q283
                try clear q284
                obtain ⟨x14_2, x15_2, x16_2, rfl, rfl, rfl, HA, HK2, HO_11, HO_12, HO_13, HB⟩ := hrel
                cases gk with
                | zero => exact absurd HA.out (by simp [signalboxlaw14_BankComes.l0])
                | succ k2 =>
                  have H := HA.out
                  clear HA
                  simp only [signalboxlaw14_BankComes.l0] at H
                  by_cases c23 : x16_2 < a0
                  · rw [if_pos c23] at H
                    have c23b0 : decide (x16_2 < a0) = true := decide_eq_true c23
                    clear c23
                    by_cases c24 : 0 ≤ x16_2
                    · rw [if_pos c24] at H
                      have c24b0 : decide (0 ≤ x16_2) = true := decide_eq_true c24
                      clear c24
                      by_cases c25 : x16_2 < (t273.length : Int)
                      · rw [if_pos c25] at H
                        have c25b0 : decide (x16_2 < (t273.length : Int)) = true := decide_eq_true c25
                        clear c25
                        by_cases c26 : 0 < ((rd_L1 t273 x16_2).length : Int)
                        · rw [if_pos c26] at H
                          have c26b0 : decide (0 < ((rd_L1 t273 x16_2).length : Int)) = true := decide_eq_true c26
                          have c26b1 : decide (0 < (rd_L1 t273 x16_2).length) = true := decide_eq_true (by omega)
                          clear c26
                          by_cases c27 : 1 < ((rd_L1 t273 x16_2).length : Int)
                          · rw [if_pos c27] at H
                            have c27b0 : decide (1 < ((rd_L1 t273 x16_2).length : Int)) = true := decide_eq_true c27
                            have c27b1 : decide (1 < (rd_L1 t273 x16_2).length) = true := decide_eq_true (by omega)
                            clear c27
                            have H' := Aside0.mk H
                            clear H
                            try go_wp2
                            have p285 : 0 ≤ (x16_2 : Int) := of_decide_eq_true (by first | (with_reducible assumption) | assumption)
                            have q285 : x16_2 < (t273.length : Int) := of_decide_eq_true (by first | (with_reducible assumption) | assumption)
                            obtain ⟨ad285, A285_0, c285_0, e285, hx285_0, hl285_0, hi285_0⟩ := at_L1 (Kd.N_reads' HO_12.out).2.2 x16_2 p285 q285
                            cases e285
                            obtain ⟨ce285, hce285, hMe285, hcc285⟩ := Kd.N_get HO_12.out [] x16_2 p285 (by first | exact q285 | exact of_decide_eq_true (by first | (with_reducible assumption) | assumption) | (have e_ := (Kd.N_reads' HO_12.out).1; omega))
                            obtain ⟨ua285_0, uc285_0, rfl, ul285_0, ge285_0⟩ := Kd.FK_slice_open hMe285
                            have hv285_0 := hcc285 0 _ rfl
                            rw [Nat.add_zero, show ((Kd.slice 3 (Kd.int .i64))).sz = 1 from rfl, Nat.mul_one] at hv285_0
                            replace hv285_0 := Option.some.inj (hv285_0.symm.trans hx285_0)
                            injection hv285_0 with hva_ hvn_ hvc_
                            rw [hva_] at ge285_0
                            rw [hvc_] at ul285_0
                            have HL285_0 := Aside0.mk (show Kd.V (Kd.int .i64) 3 _ w.heap.size _ _ (rd_L1 t273 x16_2) from Kd.V_mk ul285_0 ge285_0)
                            clear hva_ hvn_ hvc_ ge285_0 ul285_0
                            clear hcc285 hce285
                            have HR285_0 := Aside0.mk hi285_0
                            have HC285_0 := Aside0.mk hl285_0
                            clear hi285_0 hl285_0
                            replace p285 := eq_true p285
                            replace q285 := eq_true q285
                            have p286 : 0 ≤ (0 : Int) := (by omega)
                            have q286 : 0 < ((rd_L1 t273 x16_2).length : Int) := of_decide_eq_true (by first | (with_reducible assumption) | assumption)
                            obtain ⟨ad286, e286, hx286_0⟩ := Kd.at_int (by repeat (first | (with_reducible exact HR285_0.out) | (with_reducible refine Kd.C_alloc ?_ _) | (with_reducible refine Kd.C_drewN ?_ _) | (with_reducible refine Kd.C_drew ?_) | exact HR285_0.out)) 0 p286 q286
                            cases e286
                            have qi286 : (0 < (rd_L1 t273 x16_2).length) = True := eq_true (by omega)
                            (try rw [show ((0 : Int)).toNat = 0 from rfl] at hx286_0)
                            (try rw [Addr.add_zero'] at hx286_0)
                            replace p286 := eq_true p286
                            replace q286 := eq_true q286
                            have p287 : 0 ≤ (x16_2 : Int) := of_decide_eq_true (by first | (with_reducible assumption) | assumption)
                            have q287 : x16_2 < (t273.length : Int) := of_decide_eq_true (by first | (with_reducible assumption) | assumption)
                            obtain ⟨ad287, A287_0, c287_0, e287, hx287_0, hl287_0, hi287_0⟩ := at_L1 (Kd.N_reads' HO_12.out).2.2 x16_2 p287 q287
                            obtain rfl : ad285 = ad287 := (by injection e287)
                            obtain ⟨ce287, hce287, hMe287, hcc287⟩ := Kd.N_get HO_12.out [] x16_2 p287 (by first | exact q287 | exact of_decide_eq_true (by first | (with_reducible assumption) | assumption) | (have e_ := (Kd.N_reads' HO_12.out).1; omega))
                            obtain ⟨ua287_0, uc287_0, rfl, ul287_0, ge287_0⟩ := Kd.FK_slice_open hMe287
                            have hv287_0 := hcc287 0 _ rfl
                            rw [Nat.add_zero, show ((Kd.slice 3 (Kd.int .i64))).sz = 1 from rfl, Nat.mul_one] at hv287_0
                            replace hv287_0 := Option.some.inj (hv287_0.symm.trans hx287_0)
                            injection hv287_0 with hva_ hvn_ hvc_
                            rw [hva_] at ge287_0
                            rw [hvc_] at ul287_0
                            have HL287_0 := Aside0.mk (show Kd.V (Kd.int .i64) 3 _ w.heap.size _ _ (rd_L1 t273 x16_2) from Kd.V_mk ul287_0 ge287_0)
                            clear hva_ hvn_ hvc_ ge287_0 ul287_0
                            clear hcc287 hce287
                            have HR287_0 := Aside0.mk hi287_0
                            have HC287_0 := Aside0.mk hl287_0
                            clear hi287_0 hl287_0
                            replace p287 := eq_true p287
                            replace q287 := eq_true q287
                            have ea_ := Option.some.inj (hx285_0.symm.trans hx287_0)
                            injection ea_ with ea_ en_ ec_
                            subst ea_
                            subst ec_
                            clear en_
                            have p288 : 0 ≤ (1 : Int) := (by omega)
                            have q288 : 1 < ((rd_L1 t273 x16_2).length : Int) := of_decide_eq_true (by first | (with_reducible assumption) | assumption)
                            obtain ⟨ad288, e288, hx288_0⟩ := Kd.at_int (by repeat (first | (with_reducible exact HR287_0.out) | (with_reducible refine Kd.C_alloc ?_ _) | (with_reducible refine Kd.C_drewN ?_ _) | (with_reducible refine Kd.C_drew ?_) | exact HR287_0.out)) 1 p288 q288
                            cases e288
                            (try simp only [show (1 : Int).toNat = 1 from rfl, Nat.reduceMul, Nat.reduceEqDiff, Go.Addr.add, ↓reduceIte] at hx288_0)
                            have qi288 : (1 < (rd_L1 t273 x16_2).length) = True := eq_true (by omega)
                            (try rw [show ((1 : Int)).toNat = 1 from rfl] at hx288_0)
                            replace p288 := eq_true p288
                            replace q288 := eq_true q288
                            go_quiet (fail)
                            try go_wp2
                            go_roundg k2
                            case measure => have := HJ5.out; have := HK2.out; omega
                            case rel => exact ⟨(wrap64 (x14_2 + (rd (rd_L1 t273 x16_2) 0))), (wrap64 (x15_2 + (rd (rd_L1 t273 x16_2) 1))), (wrap64 (x16_2 + 1)), (by first | rfl | (simp; done) | (simp [*]; done)), (by first | rfl | (simp; done) | (simp [*]; done)), (by first | rfl | (simp; done) | (simp [*]; done)), H', ⟨by have := HJ5.out; have := HK2.out; omega⟩, ⟨by (with_reducible repeat (first | apply Kd.R_alloc | apply Kd.R_drewN | apply Kd.R_drew)); exact HO_11.out⟩, ⟨by (with_reducible repeat (first | apply Kd.N_alloc | apply Kd.N_drewN | apply Kd.N_drew)); exact HO_12.out⟩, ⟨by (with_reducible repeat (first | apply Kd.N_alloc | apply Kd.N_drewN | apply Kd.N_drew)); exact HO_13.out⟩, ⟨by repeat (first | (with_reducible first | exact HB.out | apply below_alloc | apply pw_below_drewN | apply below_drew1) | exact HB.out)⟩⟩
                          · rw [if_neg c27] at H
                            exact absurd H (by simp)
                        · rw [if_neg c26] at H
                          exact absurd H (by simp)
                      · rw [if_neg c25] at H
                        exact absurd H (by simp)
                    · rw [if_neg c24] at H
                      exact absurd H (by simp)
                  · rw [if_neg c23] at H
                    have c23b0 : decide (x16_2 < a0) = false := decide_eq_false c23
                    clear c23
                    have HC29 := Aside0.mk H
                    clear H
                    go_upto_if 73 with (fail)
                    go_cut [17] (fun v17 wc => ∃ (kq : Nat) (x17_28 : Int), v17 = .int .i64 x17_28 ∧ Aside0 (signalboxlaw14_BankComes.j2 kq a3 a4 t272 t273 t274 x15_2 x17_28 = some r) ∧ Aside0 (kq ≤ k2) ∧ Aside0 (Kd.R (Kd.int .i64) 3 wc w.heap.size (fun _ => True) (.slice (some ad283) t272.length co18) t272) ∧ Aside0 (Kd.N (Kd.slice 3 (Kd.int .i64)) 22 wc w.heap.size (fun k_ => some k_ ≠ ((.slice (some ad283) t272.length co18) : Value).ownBlock ∧ some k_ ≠ ((.slice Ao20 t274.length co20) : Value).ownBlock) (.slice Ao19 t273.length co19) t273) ∧ Aside0 (Kd.N (Kd.slice 3 (Kd.int .i64)) 22 wc w.heap.size (fun k_ => some k_ ≠ ((.slice (some ad283) t272.length co18) : Value).ownBlock ∧ some k_ ≠ ((.slice Ao19 t273.length co19) : Value).ownBlock) (.slice Ao20 t274.length co20) t274) ∧ Aside0 (Below w.heap.size w wc))
                    case first =>
                      have H := HC29.out
                      clear HC29
                      by_cases c30 : a2 > 0
                      · rw [if_pos c30] at H
                        have c30b0 : decide (0 < a2) = true := decide_eq_true c30
                        clear c30
                        (first | rw [c30b0] | (simp only [i64_w, i32_w]; rw [c30b0]) | skip)
                        by_cases c31 : (wrap64 (x14_2 + 1)) = 0
                        · rw [if_pos c31] at H
                          exact absurd H (by simp)
                        · rw [if_neg c31] at H
                          have c31b0 : ((wrap64 (x14_2 + 1)) == 0) = false := beq_eq_false_iff_ne.mpr c31
                          have c31b1 : ((wrap64 (x14_2 + 1)) != 0) = true := bne_iff_ne.mpr c31
                          have H' := Aside0.mk H
                          clear H
                          go_wp2
                          go_meet
                          case rel => exact ⟨_, (Int.tmod a2 (wrap64 (x14_2 + 1))), (by first | rfl | (simp; done) | (simp [*]; done)), H', ⟨by have := HJ5.out; have := HK2.out; first | omega | exact Nat.le_refl _⟩, ⟨by (with_reducible repeat (first | apply Kd.R_alloc | apply Kd.R_drewN | apply Kd.R_drew)); exact HO_11.out⟩, ⟨by (with_reducible repeat (first | apply Kd.N_alloc | apply Kd.N_drewN | apply Kd.N_drew)); exact HO_12.out⟩, ⟨by (with_reducible repeat (first | apply Kd.N_alloc | apply Kd.N_drewN | apply Kd.N_drew)); exact HO_13.out⟩, ⟨by repeat (first | (with_reducible first | exact HB.out | apply below_alloc | apply pw_below_drewN | apply below_drew1) | exact HB.out)⟩⟩
                      · rw [if_neg c30] at H
                        have c30b0 : decide (0 < a2) = false := decide_eq_false c30
                        clear c30
                        (first | rw [c30b0] | (simp only [i64_w, i32_w]; rw [c30b0]) | skip)
                        have H' := Aside0.mk H
                        clear H
                        go_wp2
                        go_meet
                        case rel => exact ⟨_, (0), (by first | rfl | (simp; done) | (simp [*]; done)), H', ⟨by have := HJ5.out; have := HK2.out; first | omega | exact Nat.le_refl _⟩, ⟨by (with_reducible repeat (first | apply Kd.R_alloc | apply Kd.R_drewN | apply Kd.R_drew)); exact HO_11.out⟩, ⟨by (with_reducible repeat (first | apply Kd.N_alloc | apply Kd.N_drewN | apply Kd.N_drew)); exact HO_12.out⟩, ⟨by (with_reducible repeat (first | apply Kd.N_alloc | apply Kd.N_drewN | apply Kd.N_drew)); exact HO_13.out⟩, ⟨by repeat (first | (with_reducible first | exact HB.out | apply below_alloc | apply pw_below_drewN | apply below_drew1) | exact HB.out)⟩⟩
                    case rest =>
                      clear HC29
                      try clear c1
                      try clear c2
                      try clear p2
                      try clear q2
                      try clear hx2
                      try clear qi2
                      try clear c3
                      try clear p6
                      try clear c7
                      try clear c7b0
                      try clear c8
                      try clear c8b0
                      try clear c9
                      try clear c14
                      try clear c15
                      try clear c15b0
                      try clear c15b1
                      try clear c16
                      try clear c16b0
                      try clear c16b1
                      try clear c23
                      try clear c23b0
                      try clear c24
                      try clear c24b0
                      try clear c25
                      try clear c25b0
                      try clear c26
                      try clear c26b0
                      try clear c26b1
                      try clear c27
                      try clear c27b0
                      try clear c27b1
                      try clear c28
                      try clear p28
                      try clear q28
                      try clear hx28
                      try clear qi28
                      try clear c30
                      try clear c30b0
                      try clear c31
                      try clear c31b0
                      try clear c31b1
                      try clear hx283_0
                      try clear hx284_0
                      try clear hx285_0
                      try clear hx286_0
                      try clear hx287_0
                      try clear hx288_0
                      try clear p2
                      try clear p283
                      try clear p284
                      try clear p285
                      try clear p286
                      try clear p287
                      try clear p288
                      try clear q2
                      try clear q283
                      try clear q284
                      try clear q285
                      try clear q286
                      try clear q287
                      try clear q288
                      obtain ⟨kq, x17_28, rfl, HA, HJ28, HO_11, HO_12, HO_13, HB⟩ := hcut
                      cases kq with
                      | zero => exact absurd HA.out (by simp [signalboxlaw14_BankComes.j2])
                      | succ kj28 =>
                        have H := HA.out
                        clear HA
                        simp only [signalboxlaw14_BankComes.j2] at H
                        have HC32 := Aside0.mk H
                        clear H
                        go_upto_if 79 with (fail)
                        go_cut [18] (fun v18 wc => ∃ (kq : Nat) (x18_31 : Int), v18 = .int .i64 x18_31 ∧ Aside0 (signalboxlaw14_BankComes.j3 kq a4 t272 t273 t274 x17_28 x18_31 = some r) ∧ Aside0 (kq ≤ kj28) ∧ Aside0 (Kd.R (Kd.int .i64) 3 wc w.heap.size (fun _ => True) (.slice (some ad283) t272.length co18) t272) ∧ Aside0 (Kd.N (Kd.slice 3 (Kd.int .i64)) 22 wc w.heap.size (fun k_ => some k_ ≠ ((.slice (some ad283) t272.length co18) : Value).ownBlock ∧ some k_ ≠ ((.slice Ao20 t274.length co20) : Value).ownBlock) (.slice Ao19 t273.length co19) t273) ∧ Aside0 (Kd.N (Kd.slice 3 (Kd.int .i64)) 22 wc w.heap.size (fun k_ => some k_ ≠ ((.slice (some ad283) t272.length co18) : Value).ownBlock ∧ some k_ ≠ ((.slice Ao19 t273.length co19) : Value).ownBlock) (.slice Ao20 t274.length co20) t274) ∧ Aside0 (Below w.heap.size w wc))
                        case first =>
                          have H := HC32.out
                          clear HC32
                          by_cases c33 : a3 > 0
                          · rw [if_pos c33] at H
                            have c33b0 : decide (0 < a3) = true := decide_eq_true c33
                            clear c33
                            (first | rw [c33b0] | (simp only [i64_w, i32_w]; rw [c33b0]) | skip)
                            by_cases c34 : (wrap64 (x15_2 + 1)) = 0
                            · rw [if_pos c34] at H
                              exact absurd H (by simp)
                            · rw [if_neg c34] at H
                              have c34b0 : ((wrap64 (x15_2 + 1)) == 0) = false := beq_eq_false_iff_ne.mpr c34
                              have c34b1 : ((wrap64 (x15_2 + 1)) != 0) = true := bne_iff_ne.mpr c34
                              have H' := Aside0.mk H
                              clear H
                              go_wp2
                              go_meet
                              case rel => exact ⟨_, (Int.tmod a3 (wrap64 (x15_2 + 1))), (by first | rfl | (simp; done) | (simp [*]; done)), H', ⟨by have := HJ5.out; have := HK2.out; have := HJ28.out; first | omega | exact Nat.le_refl _⟩, ⟨by (with_reducible repeat (first | apply Kd.R_alloc | apply Kd.R_drewN | apply Kd.R_drew)); exact HO_11.out⟩, ⟨by (with_reducible repeat (first | apply Kd.N_alloc | apply Kd.N_drewN | apply Kd.N_drew)); exact HO_12.out⟩, ⟨by (with_reducible repeat (first | apply Kd.N_alloc | apply Kd.N_drewN | apply Kd.N_drew)); exact HO_13.out⟩, ⟨by repeat (first | (with_reducible first | exact HB.out | apply below_alloc | apply pw_below_drewN | apply below_drew1) | exact HB.out)⟩⟩
                          · rw [if_neg c33] at H
                            have c33b0 : decide (0 < a3) = false := decide_eq_false c33
                            clear c33
                            (first | rw [c33b0] | (simp only [i64_w, i32_w]; rw [c33b0]) | skip)
                            have H' := Aside0.mk H
                            clear H
                            go_wp2
                            go_meet
                            case rel => exact ⟨_, (0), (by first | rfl | (simp; done) | (simp [*]; done)), H', ⟨by have := HJ5.out; have := HK2.out; have := HJ28.out; first | omega | exact Nat.le_refl _⟩, ⟨by (with_reducible repeat (first | apply Kd.R_alloc | apply Kd.R_drewN | apply Kd.R_drew)); exact HO_11.out⟩, ⟨by (with_reducible repeat (first | apply Kd.N_alloc | apply Kd.N_drewN | apply Kd.N_drew)); exact HO_12.out⟩, ⟨by (with_reducible repeat (first | apply Kd.N_alloc | apply Kd.N_drewN | apply Kd.N_drew)); exact HO_13.out⟩, ⟨by repeat (first | (with_reducible first | exact HB.out | apply below_alloc | apply pw_below_drewN | apply below_drew1) | exact HB.out)⟩⟩
                        case rest =>
                          clear HC32
                          try clear c1
                          try clear c2
                          try clear p2
                          try clear q2
                          try clear hx2
                          try clear qi2
                          try clear c3
                          try clear p6
                          try clear c7
                          try clear c7b0
                          try clear c8
                          try clear c8b0
                          try clear c9
                          try clear c14
                          try clear c15
                          try clear c15b0
                          try clear c15b1
                          try clear c16
                          try clear c16b0
                          try clear c16b1
                          try clear c23
                          try clear c23b0
                          try clear c24
                          try clear c24b0
                          try clear c25
                          try clear c25b0
                          try clear c26
                          try clear c26b0
                          try clear c26b1
                          try clear c27
                          try clear c27b0
                          try clear c27b1
                          try clear c28
                          try clear p28
                          try clear q28
                          try clear hx28
                          try clear qi28
                          try clear c30
                          try clear c30b0
                          try clear c31
                          try clear c31b0
                          try clear c31b1
                          try clear c33
                          try clear c33b0
                          try clear c34
                          try clear c34b0
                          try clear c34b1
                          try clear hx283_0
                          try clear hx284_0
                          try clear hx285_0
                          try clear hx286_0
                          try clear hx287_0
                          try clear hx288_0
                          try clear p2
                          try clear p28
                          try clear p283
                          try clear p284
                          try clear p285
                          try clear p286
                          try clear p287
                          try clear p288
                          try clear p6
                          try clear q2
                          try clear q28
                          try clear q283
                          try clear q284
                          try clear q285
                          try clear q286
                          try clear q287
                          try clear q288
                          obtain ⟨kq, x18_31, rfl, HA, HJ31, HO_11, HO_12, HO_13, HB⟩ := hcut
                          cases kq with
                          | zero => exact absurd HA.out (by simp [signalboxlaw14_BankComes.j3])
                          | succ kj31 =>
                            have H := HA.out
                            clear HA
                            simp only [signalboxlaw14_BankComes.j3] at H
                            obtain ⟨y289, hy289⟩ : ∃ y_ : List (List Int), y_ = (([] : List (List Int))) := ⟨_, rfl⟩
                            replace H : (if y289.length + t273.length < 5864062014805 then ((some (y289 ++ t273 : List (List Int))).bind fun y292 => (if y292.length < 5864062014805 then ((some (([] : List (List Int)) : List (List Int))).bind fun y301 => (if y301.length + t274.length < 5864062014805 then ((some (y301 ++ t274 : List (List Int))).bind fun y304 => (if y304.length < 5864062014805 then ((bank_Safe.f kj31 t272 (y292 ++ [(([0, 0] : List Int))]) (y304 ++ [(([x17_28, x18_31] : List Int))])).bind fun t313 => (if t313 = true then (if a4 > 0 then (signalboxlaw14_BankComes.j4 kj31 t272 t273 t274 (Int.tmod a4 20)) else (signalboxlaw14_BankComes.j4 kj31 t272 t273 t274 0)) else (some false))) else (none))) else (none))) else (none))) else (none)) = some r := by first | (rw [hy289]; with_reducible exact H) | (have H2_ := (Option.bind_some _ _).symm.trans H; rw [hy289]; with_reducible exact H2_) | (have H2_ := (Option.bind_some _ _).symm.trans H; with_reducible exact H2_) | with_reducible exact H | (rw [hy289]; exact H) | exact H
                            have Ny289 := Aside0.mk hy289
                            clear hy289
                            by_cases c35 : y289.length + t273.length < 5864062014805
                            · rw [if_pos c35] at H
                              have LMc35 := Aside0.mk c35
                              clear c35
                              obtain ⟨y292, hy292⟩ : ∃ y_ : List (List Int), y_ = (y289 ++ t273) := ⟨_, rfl⟩
                              replace H : (if y292.length < 5864062014805 then ((some (([] : List (List Int)) : List (List Int))).bind fun y301 => (if y301.length + t274.length < 5864062014805 then ((some (y301 ++ t274 : List (List Int))).bind fun y304 => (if y304.length < 5864062014805 then ((bank_Safe.f kj31 t272 (y292 ++ [(([0, 0] : List Int))]) (y304 ++ [(([x17_28, x18_31] : List Int))])).bind fun t313 => (if t313 = true then (if a4 > 0 then (signalboxlaw14_BankComes.j4 kj31 t272 t273 t274 (Int.tmod a4 20)) else (signalboxlaw14_BankComes.j4 kj31 t272 t273 t274 0)) else (some false))) else (none))) else (none))) else (none)) = some r := by first | (rw [hy292]; with_reducible exact H) | (have H2_ := (Option.bind_some _ _).symm.trans H; rw [hy292]; with_reducible exact H2_) | (have H2_ := (Option.bind_some _ _).symm.trans H; with_reducible exact H2_) | with_reducible exact H | (rw [hy292]; exact H) | exact H
                              have Ny292 := Aside0.mk hy292
                              clear hy292
                              obtain ⟨y295, hy295⟩ : ∃ y_ : List Int, y_ = (([0, 0] : List Int)) := ⟨_, rfl⟩
                              replace H : (if y292.length < 5864062014805 then ((some (([] : List (List Int)) : List (List Int))).bind fun y301 => (if y301.length + t274.length < 5864062014805 then ((some (y301 ++ t274 : List (List Int))).bind fun y304 => (if y304.length < 5864062014805 then ((bank_Safe.f kj31 t272 (y292 ++ [y295]) (y304 ++ [(([x17_28, x18_31] : List Int))])).bind fun t313 => (if t313 = true then (if a4 > 0 then (signalboxlaw14_BankComes.j4 kj31 t272 t273 t274 (Int.tmod a4 20)) else (signalboxlaw14_BankComes.j4 kj31 t272 t273 t274 0)) else (some false))) else (none))) else (none))) else (none)) = some r := by first | (rw [hy295]; with_reducible exact H) | (have H2_ := (Option.bind_some _ _).symm.trans H; rw [hy295]; with_reducible exact H2_) | (have H2_ := (Option.bind_some _ _).symm.trans H; with_reducible exact H2_) | with_reducible exact H | (rw [hy295]; exact H) | exact H
                              have Ny295 := Aside0.mk hy295
                              clear hy295
                              by_cases c36 : y292.length < 5864062014805
                              · rw [if_pos c36] at H
                                have LMc36 := Aside0.mk c36
                                clear c36
                                obtain ⟨y298, hy298⟩ : ∃ y_ : List (List Int), y_ = (y292 ++ [y295]) := ⟨_, rfl⟩
                                replace H : ((some (([] : List (List Int)) : List (List Int))).bind fun y301 => (if y301.length + t274.length < 5864062014805 then ((some (y301 ++ t274 : List (List Int))).bind fun y304 => (if y304.length < 5864062014805 then ((bank_Safe.f kj31 t272 y298 (y304 ++ [(([x17_28, x18_31] : List Int))])).bind fun t313 => (if t313 = true then (if a4 > 0 then (signalboxlaw14_BankComes.j4 kj31 t272 t273 t274 (Int.tmod a4 20)) else (signalboxlaw14_BankComes.j4 kj31 t272 t273 t274 0)) else (some false))) else (none))) else (none))) = some r := by first | (rw [hy298]; with_reducible exact H) | (have H2_ := (Option.bind_some _ _).symm.trans H; rw [hy298]; with_reducible exact H2_) | (have H2_ := (Option.bind_some _ _).symm.trans H; with_reducible exact H2_) | with_reducible exact H | (rw [hy298]; exact H) | exact H
                                have Ny298 := Aside0.mk hy298
                                clear hy298
                                obtain ⟨y301, hy301⟩ : ∃ y_ : List (List Int), y_ = (([] : List (List Int))) := ⟨_, rfl⟩
                                replace H : (if y301.length + t274.length < 5864062014805 then ((some (y301 ++ t274 : List (List Int))).bind fun y304 => (if y304.length < 5864062014805 then ((bank_Safe.f kj31 t272 y298 (y304 ++ [(([x17_28, x18_31] : List Int))])).bind fun t313 => (if t313 = true then (if a4 > 0 then (signalboxlaw14_BankComes.j4 kj31 t272 t273 t274 (Int.tmod a4 20)) else (signalboxlaw14_BankComes.j4 kj31 t272 t273 t274 0)) else (some false))) else (none))) else (none)) = some r := by first | (rw [hy301]; with_reducible exact H) | (have H2_ := (Option.bind_some _ _).symm.trans H; rw [hy301]; with_reducible exact H2_) | (have H2_ := (Option.bind_some _ _).symm.trans H; with_reducible exact H2_) | with_reducible exact H | (rw [hy301]; exact H) | exact H
                                have Ny301 := Aside0.mk hy301
                                clear hy301
                                by_cases c37 : y301.length + t274.length < 5864062014805
                                · rw [if_pos c37] at H
                                  have LMc37 := Aside0.mk c37
                                  clear c37
                                  obtain ⟨y304, hy304⟩ : ∃ y_ : List (List Int), y_ = (y301 ++ t274) := ⟨_, rfl⟩
                                  replace H : (if y304.length < 5864062014805 then ((bank_Safe.f kj31 t272 y298 (y304 ++ [(([x17_28, x18_31] : List Int))])).bind fun t313 => (if t313 = true then (if a4 > 0 then (signalboxlaw14_BankComes.j4 kj31 t272 t273 t274 (Int.tmod a4 20)) else (signalboxlaw14_BankComes.j4 kj31 t272 t273 t274 0)) else (some false))) else (none)) = some r := by first | (rw [hy304]; with_reducible exact H) | (have H2_ := (Option.bind_some _ _).symm.trans H; rw [hy304]; with_reducible exact H2_) | (have H2_ := (Option.bind_some _ _).symm.trans H; with_reducible exact H2_) | with_reducible exact H | (rw [hy304]; exact H) | exact H
                                  have Ny304 := Aside0.mk hy304
                                  clear hy304
                                  obtain ⟨y307, hy307⟩ : ∃ y_ : List Int, y_ = (([x17_28, x18_31] : List Int)) := ⟨_, rfl⟩
                                  replace H : (if y304.length < 5864062014805 then ((bank_Safe.f kj31 t272 y298 (y304 ++ [y307])).bind fun t313 => (if t313 = true then (if a4 > 0 then (signalboxlaw14_BankComes.j4 kj31 t272 t273 t274 (Int.tmod a4 20)) else (signalboxlaw14_BankComes.j4 kj31 t272 t273 t274 0)) else (some false))) else (none)) = some r := by first | (rw [hy307]; with_reducible exact H) | (have H2_ := (Option.bind_some _ _).symm.trans H; rw [hy307]; with_reducible exact H2_) | (have H2_ := (Option.bind_some _ _).symm.trans H; with_reducible exact H2_) | with_reducible exact H | (rw [hy307]; exact H) | exact H
                                  have Ny307 := Aside0.mk hy307
                                  clear hy307
                                  by_cases c38 : y304.length < 5864062014805
                                  · rw [if_pos c38] at H
                                    have LMc38 := Aside0.mk c38
                                    clear c38
                                    obtain ⟨y310, hy310⟩ : ∃ y_ : List (List Int), y_ = (y304 ++ [y307]) := ⟨_, rfl⟩
                                    replace H : ((bank_Safe.f kj31 t272 y298 y310).bind fun t313 => (if t313 = true then (if a4 > 0 then (signalboxlaw14_BankComes.j4 kj31 t272 t273 t274 (Int.tmod a4 20)) else (signalboxlaw14_BankComes.j4 kj31 t272 t273 t274 0)) else (some false))) = some r := by first | (rw [hy310]; with_reducible exact H) | (have H2_ := (Option.bind_some _ _).symm.trans H; rw [hy310]; with_reducible exact H2_) | (have H2_ := (Option.bind_some _ _).symm.trans H; with_reducible exact H2_) | with_reducible exact H | (rw [hy310]; exact H) | exact H
                                    have Ny310 := Aside0.mk hy310
                                    clear hy310
                                    replace H := Option.bind_eq_some_iff.mp H
                                    obtain ⟨t313, A390, H⟩ := H
                                    replace H : (if t313 = true then (if a4 > 0 then (signalboxlaw14_BankComes.j4 kj31 t272 t273 t274 (Int.tmod a4 20)) else (signalboxlaw14_BankComes.j4 kj31 t272 t273 t274 0)) else (some false)) = some r := H
                                    have A39 := Aside0.mk A390
                                    clear A390
                                    by_cases c40 : t313 = true
                                    · subst c40
                                      have H1 : (if a4 > 0 then (signalboxlaw14_BankComes.j4 kj31 t272 t273 t274 (Int.tmod a4 20)) else (signalboxlaw14_BankComes.j4 kj31 t272 t273 t274 0)) = some r := by rw [if_pos rfl] at H; exact H
                                      clear H
                                      have H := H1
                                      clear H1
                                      have HC41 := Aside0.mk H
                                      clear H
                                      go_upto_if 102 with (first | ((with_reducible refine gate_dst (N := 85) rfl ?_); (try (refine gate_guard (by rfl) ?_; dsimp only)); refine Kd.N_lit (Kd.slice 3 (Kd.int .i64)) _ 22 ?hg (N' := 85) ?hd (xs := ([] : List (List Int))) (inner := []) (ok := (fun k_ => some k_ ≠ (.slice (some ad283) t272.length co18 : Value).ownBlock ∧ some k_ ≠ (.slice Ao19 t273.length co19 : Value).ownBlock ∧ some k_ ≠ (.slice Ao20 t274.length co20 : Value).ownBlock)) (okp := (fun k_ => some k_ ≠ (.slice (some ad283) t272.length co18 : Value).ownBlock ∧ some k_ ≠ (.slice Ao19 t273.length co19 : Value).ownBlock ∧ some k_ ≠ (.slice Ao20 t274.length co20 : Value).ownBlock)) ?hr ?hp (fun _ hk => hk) ((show ∀ k_, wc.heap.size ≤ k_ → (fun k_ => some k_ ≠ (.slice (some ad283) t272.length co18 : Value).ownBlock ∧ some k_ ≠ (.slice Ao19 t273.length co19 : Value).ownBlock ∧ some k_ ≠ (.slice Ao20 t274.length co20 : Value).ownBlock) k_ from fun k_ hk => ⟨Kd.fresh' (Kd.R_lt (by (with_reducible repeat (first | apply Kd.R_alloc | apply Kd.R_drewN | apply Kd.R_drew)); exact HO_11.out)) k_ hk, Kd.fresh' (Kd.N_lt (by (with_reducible repeat (first | apply Kd.N_alloc | apply Kd.N_drewN | apply Kd.N_drew)); exact HO_12.out)) k_ hk, Kd.fresh' (Kd.N_lt (by (with_reducible repeat (first | apply Kd.N_alloc | apply Kd.N_drewN | apply Kd.N_drew)); exact HO_13.out)) k_ hk⟩) _ (Nat.le_refl _)) (Below.refl _ _) (Nat.le_refl _) (by simp) ?_; (case hd => rfl); (case hg => rfl); (case hr => first | (go_simp; done) | (go_simp; rfl)); (case hp => exact (Reps.none _ _)); intro v290 w42 ho43 hb hg_ hnew_; clear hg_ hnew_; (first | rw [← Ny289.out] at ho43 | (simp only [Int.reduceToNat] at ho43; rw [← Ny289.out] at ho43)); have n0_ := Aside0.mk (Kd.R_below (by (with_reducible repeat (first | apply Kd.R_alloc | apply Kd.R_drewN | apply Kd.R_drew)); exact HO_11.out) hb); have n1_ := Aside0.mk (Kd.N_elder' (by (with_reducible repeat (first | apply Kd.N_alloc | apply Kd.N_drewN | apply Kd.N_drew)); exact HO_12.out) (Kd.N_base ho43) hb); have n2_ := Aside0.mk (Kd.N_elder' (by (with_reducible repeat (first | apply Kd.N_alloc | apply Kd.N_drewN | apply Kd.N_drew)); exact HO_13.out) (Kd.N_base ho43) hb); have n3_ := Aside0.mk (Kd.N_lower ho43 (below_size (by repeat (first | (with_reducible first | exact HB.out | apply below_alloc | apply pw_below_drewN | apply below_drew1) | exact HB.out)))); have n4_ := Aside0.mk (below_step (by repeat (first | (with_reducible first | exact HB.out | apply below_alloc | apply pw_below_drewN | apply below_drew1) | exact HB.out)) hb); clear HO_11; clear HO_12; clear HO_13; clear HB; have HO_11 := n0_; have HO_12 := n1_; have HO_13 := n2_; have HO291 := n3_; have HB := n4_; clear n0_ n1_ n2_ n3_ n4_; clear hb ho43; (try (refine wpl_norm (a' := ?_) ?na ?_; (case na => (simp only [Act.put, List.setIfInBounds_toArray, List.set_cons_zero, List.set_cons_succ]; rfl))))) | ((with_reducible refine gate_builtin (b := .append) (xs := #[.tmp 85, .tmp 86]) rfl ?_); (try (refine gate_guard (by rfl) ?_; dsimp only)); at_builtin; refine Kd.N_append_rows (Kd.slice 3 (Kd.int .i64)) (w0 := w) w.heap.size rfl (.tmp 85) (.tmp 86) 23 22 (.slice none 0 0) 24 rfl Try.underlying23 info22 rfl (by decide) (by omega) v290 y289 t273 _ _ _ (fun k_ => some k_ ≠ (.slice (some ad283) t272.length co18 : Value).ownBlock ∧ some k_ ≠ (.slice Ao20 t274.length co20 : Value).ownBlock) (fun k_ => ((fun k_ => some k_ ≠ (.slice (some ad283) t272.length co18 : Value).ownBlock ∧ some k_ ≠ (.slice Ao20 t274.length co20 : Value).ownBlock)) k_ ∧ some k_ ≠ (v290 : Value).ownBlock) rfl rfl ?aO ?aR (fun _ hk => hk) ?aF ?aB ?aS ?aL ?_; (case aR => exact (by skip; exact Kd.N_F (Kd.N_mono (ok' := (fun k_ => ((fun k_ => some k_ ≠ (.slice (some ad283) t272.length co18 : Value).ownBlock ∧ some k_ ≠ (.slice Ao20 t274.length co20 : Value).ownBlock)) k_ ∧ some k_ ≠ (v290 : Value).ownBlock)) (HO_12.out) (fun k_ hk => ⟨⟨hk.1.1, hk.1.2⟩, hk.2⟩)))); (case aB => exact (by repeat (first | (with_reducible first | exact HB.out | apply below_alloc | apply pw_below_drewN | apply below_drew1) | exact HB.out))); (case aF => exact (fun k_ hk => ⟨Kd.fresh' (Kd.R_lt (by (with_reducible repeat (first | apply Kd.R_alloc | apply Kd.R_drewN | apply Kd.R_drew)); exact HO_11.out)) k_ hk, Kd.fresh' (Kd.N_lt (by (with_reducible repeat (first | apply Kd.N_alloc | apply Kd.N_drewN | apply Kd.N_drew)); exact HO_13.out)) k_ hk⟩)); (case aO => exact (by (with_reducible repeat (first | apply Kd.N_alloc | apply Kd.N_drewN | apply Kd.N_drew)); exact Kd.N_mono HO291.out (fun _ hk => ⟨hk.1, hk.2.2⟩))); (case aS => exact (below_size (by repeat (first | (with_reducible first | exact HB.out | apply below_alloc | apply pw_below_drewN | apply below_drew1) | exact HB.out)))); (case aL => have := LMc35.out; omega); intro v293 w44 ho hb hg hat; rw [← Ny292.out] at ho; have n0_ := Aside0.mk (Kd.R_over' (by (with_reducible repeat (first | apply Kd.R_alloc | apply Kd.R_drewN | apply Kd.R_drew)); exact HO_11.out) (Kd.N_typed (by (with_reducible repeat (first | apply Kd.N_alloc | apply Kd.N_drewN | apply Kd.N_drew)); exact HO291.out)) (by decide) hg); have n1_ := Aside0.mk (Kd.N_afterv (ok := (fun k_ => some k_ ≠ (.slice (some ad283) t272.length co18 : Value).ownBlock ∧ some k_ ≠ (.slice Ao20 t274.length co20 : Value).ownBlock)) (by (with_reducible repeat (first | apply Kd.N_alloc | apply Kd.N_drewN | apply Kd.N_drew)); exact HO_12.out) hg hat); have n2_ := Aside0.mk (Kd.N_afterv (ok := (fun k_ => some k_ ≠ (.slice (some ad283) t272.length co18 : Value).ownBlock ∧ some k_ ≠ (.slice Ao19 t273.length co19 : Value).ownBlock)) (by (with_reducible repeat (first | apply Kd.N_alloc | apply Kd.N_drewN | apply Kd.N_drew)); exact HO_13.out) hg hat); have n3_ := Aside0.mk (hb); have n4_ := Aside0.mk (ho); clear HO_11; clear HO_12; clear HO_13; clear HB; clear HO291; have HO_11 := n0_; have HO_12 := n1_; have HO_13 := n2_; have HB := n3_; have HO294 := n4_; clear n0_ n1_ n2_ n3_ n4_; clear ho hb hg hat) | ((with_reducible refine gate_dst (N := 88) rfl ?_); (try (refine gate_guard (by rfl) ?_; dsimp only)); refine Kd.R_lit (Kd.int .i64) _ 3 ?hg (N := 88) ?hd (xs := ([0, 0] : List Int)) (inner := [.int .i64 0, .int .i64 0]) (ok := fun _ => True) (okp := fun _ => True) ?hr ?hp (fun _ hk => hk) trivial (Below.refl _ _) (Nat.le_refl _) (by simp) ?_; (case hd => rfl); (case hg => rfl); (case hr => first | (go_simp; done) | (go_simp; rfl)); (case hp => exact (Reps.one (show Kd.M (Kd.int .i64) _ _ _ 0 [.int .i64 0] from rfl) (Reps.one (show Kd.M (Kd.int .i64) _ _ _ 0 [.int .i64 0] from rfl) (Reps.none _ _)))); intro v296 w45 ho46 hb hg_ hnew_; clear hg_ hnew_; (first | rw [← Ny295.out] at ho46 | (simp only [Int.reduceToNat] at ho46; rw [← Ny295.out] at ho46)); have n0_ := Aside0.mk (Kd.R_elder' (by (with_reducible repeat (first | apply Kd.R_alloc | apply Kd.R_drewN | apply Kd.R_drew)); exact HO_11.out) (Kd.R_base ho46) hb); have n1_ := Aside0.mk (Kd.N_elder' (by (with_reducible repeat (first | apply Kd.N_alloc | apply Kd.N_drewN | apply Kd.N_drew)); exact HO_12.out) (Kd.R_base ho46) hb); have n2_ := Aside0.mk (Kd.N_elder' (by (with_reducible repeat (first | apply Kd.N_alloc | apply Kd.N_drewN | apply Kd.N_drew)); exact HO_13.out) (Kd.R_base ho46) hb); have n3_ := Aside0.mk (Kd.N_elder' (by (with_reducible repeat (first | apply Kd.N_alloc | apply Kd.N_drewN | apply Kd.N_drew)); exact HO294.out) (Kd.R_base ho46) hb); have n4_ := Aside0.mk (Kd.R_lower (Kd.R_new' ho46 (Kd.R_lt (by (with_reducible repeat (first | apply Kd.R_alloc | apply Kd.R_drewN | apply Kd.R_drew)); exact HO_11.out))) (below_size (by repeat (first | (with_reducible first | exact HB.out | apply below_alloc | apply pw_below_drewN | apply below_drew1) | exact HB.out)))); have n5_ := Aside0.mk (below_step (by repeat (first | (with_reducible first | exact HB.out | apply below_alloc | apply pw_below_drewN | apply below_drew1) | exact HB.out)) hb); clear HO_11; clear HO_12; clear HO_13; clear HO294; clear HB; have HO_11 := n0_; have HO_12 := n1_; have HO_13 := n2_; have HO294 := n3_; have HO297 := n4_; have HB := n5_; clear n0_ n1_ n2_ n3_ n4_ n5_; clear hb ho46; (try (refine wpl_norm (a' := ?_) ?na ?_; (case na => (simp only [Act.put, List.setIfInBounds_toArray, List.set_cons_zero, List.set_cons_succ]; rfl)))); obtain ⟨Ao48, co48, eo48⟩ := Kd.R_slice HO297.out; subst eo48) | ((with_reducible refine gate_builtin (b := .append) (xs := #[.tmp 87, .tmp 89]) rfl ?_); (try (refine gate_guard (by rfl) ?_; dsimp only)); at_builtin; refine Kd.N_append (Kd.slice 3 (Kd.int .i64)) (w0 := w) w.heap.size rfl (.tmp 87) (.tmp 89) 23 22 (.slice none 0 0) 24 rfl Try.underlying23 info22 rfl (by decide) (by omega) v293 y292 y295 [.slice Ao48 y295.length co48] (fun k_ => some k_ ≠ (.slice (some ad283) t272.length co18 : Value).ownBlock ∧ some k_ ≠ (.slice Ao20 t274.length co20 : Value).ownBlock) (fun k_ => ((fun k_ => some k_ ≠ (.slice (some ad283) t272.length co18 : Value).ownBlock ∧ some k_ ≠ (.slice Ao20 t274.length co20 : Value).ownBlock)) k_ ∧ some k_ ≠ (v293 : Value).ownBlock) rfl rfl ?aP (fun _ hk => hk) ?aF ?aO ?aB ?aS ?aL ?_; (case aP => exact (Kd.FK_slice_mk (Kd.R_reads' (Kd.R_mono (ok' := (fun k_ => ((fun k_ => some k_ ≠ (.slice (some ad283) t272.length co18 : Value).ownBlock ∧ some k_ ≠ (.slice Ao20 t274.length co20 : Value).ownBlock)) k_ ∧ some k_ ≠ (v293 : Value).ownBlock)) (Kd.R_apart' (Kd.R_apart' (HO297.out) (Kd.N_typed HO_13.out) (by decide)) (Kd.N_typed HO294.out) (by decide)) (fun k_ hk => ⟨⟨hk.1.1.2, hk.1.2⟩, hk.2⟩))).2.1 (Kd.R_F (Kd.R_mono (ok' := (fun k_ => ((fun k_ => some k_ ≠ (.slice (some ad283) t272.length co18 : Value).ownBlock ∧ some k_ ≠ (.slice Ao20 t274.length co20 : Value).ownBlock)) k_ ∧ some k_ ≠ (v293 : Value).ownBlock)) (Kd.R_apart' (Kd.R_apart' (HO297.out) (Kd.N_typed HO_13.out) (by decide)) (Kd.N_typed HO294.out) (by decide)) (fun k_ hk => ⟨⟨hk.1.1.2, hk.1.2⟩, hk.2⟩))))); (case aB => exact (by repeat (first | (with_reducible first | exact HB.out | apply below_alloc | apply pw_below_drewN | apply below_drew1) | exact HB.out))); (case aF => exact (fun k_ hk => ⟨Kd.fresh' (Kd.R_lt (by (with_reducible repeat (first | apply Kd.R_alloc | apply Kd.R_drewN | apply Kd.R_drew)); exact HO_11.out)) k_ hk, Kd.fresh' (Kd.N_lt (by (with_reducible repeat (first | apply Kd.N_alloc | apply Kd.N_drewN | apply Kd.N_drew)); exact HO_13.out)) k_ hk⟩)); (case aO => exact (by (with_reducible repeat (first | apply Kd.N_alloc | apply Kd.N_drewN | apply Kd.N_drew)); exact Kd.N_mono HO294.out (fun _ hk => ⟨hk.1.1, hk.1.2⟩))); (case aS => exact (below_size (by repeat (first | (with_reducible first | exact HB.out | apply below_alloc | apply pw_below_drewN | apply below_drew1) | exact HB.out)))); (case aL => have := LMc36.out; omega); intro v299 w47 ho hb hg hat; rw [← Ny298.out] at ho; have n0_ := Aside0.mk (Kd.R_over' (by (with_reducible repeat (first | apply Kd.R_alloc | apply Kd.R_drewN | apply Kd.R_drew)); exact HO_11.out) (Kd.N_typed (by (with_reducible repeat (first | apply Kd.N_alloc | apply Kd.N_drewN | apply Kd.N_drew)); exact HO294.out)) (by decide) hg); have n1_ := Aside0.mk (Kd.N_afterv (ok := (fun k_ => some k_ ≠ (.slice (some ad283) t272.length co18 : Value).ownBlock ∧ some k_ ≠ (.slice Ao20 t274.length co20 : Value).ownBlock ∧ some k_ ≠ (.slice Ao48 y295.length co48 : Value).ownBlock)) (by (with_reducible repeat (first | apply Kd.N_alloc | apply Kd.N_drewN | apply Kd.N_drew)); exact Kd.N_mono HO_12.out (fun _ hk => ⟨⟨hk.1.1.1, ⟨hk.1.1.2, hk.2⟩⟩, hk.1.2⟩)) hg hat); have n2_ := Aside0.mk (Kd.N_afterv (ok := (fun k_ => some k_ ≠ (.slice (some ad283) t272.length co18 : Value).ownBlock ∧ some k_ ≠ (.slice Ao19 t273.length co19 : Value).ownBlock ∧ some k_ ≠ (.slice Ao48 y295.length co48 : Value).ownBlock)) (by (with_reducible repeat (first | apply Kd.N_alloc | apply Kd.N_drewN | apply Kd.N_drew)); exact Kd.N_mono HO_13.out (fun _ hk => ⟨⟨hk.1.1.1, ⟨hk.1.1.2, hk.2⟩⟩, hk.1.2⟩)) hg hat); have n3_ := Aside0.mk (hb); have n4_ := Aside0.mk (ho); clear HO_11; clear HO_12; clear HO_13; clear HB; clear HO294; clear HO297; have HO_11 := n0_; have HO_12 := n1_; have HO_13 := n2_; have HB := n3_; have HO300 := n4_; clear n0_ n1_ n2_ n3_ n4_; clear ho hb hg hat) | ((with_reducible refine gate_dst (N := 91) rfl ?_); (try (refine gate_guard (by rfl) ?_; dsimp only)); refine Kd.N_lit (Kd.slice 3 (Kd.int .i64)) _ 22 ?hg (N' := 91) ?hd (xs := ([] : List (List Int))) (inner := []) (ok := (fun k_ => some k_ ≠ (.slice (some ad283) t272.length co18 : Value).ownBlock ∧ some k_ ≠ (.slice Ao19 t273.length co19 : Value).ownBlock ∧ some k_ ≠ (.slice Ao20 t274.length co20 : Value).ownBlock ∧ some k_ ≠ (v299 : Value).ownBlock)) (okp := (fun k_ => some k_ ≠ (.slice (some ad283) t272.length co18 : Value).ownBlock ∧ some k_ ≠ (.slice Ao19 t273.length co19 : Value).ownBlock ∧ some k_ ≠ (.slice Ao20 t274.length co20 : Value).ownBlock ∧ some k_ ≠ (v299 : Value).ownBlock)) ?hr ?hp (fun _ hk => hk) ((show ∀ k_, w47.heap.size ≤ k_ → (fun k_ => some k_ ≠ (.slice (some ad283) t272.length co18 : Value).ownBlock ∧ some k_ ≠ (.slice Ao19 t273.length co19 : Value).ownBlock ∧ some k_ ≠ (.slice Ao20 t274.length co20 : Value).ownBlock ∧ some k_ ≠ (v299 : Value).ownBlock) k_ from fun k_ hk => ⟨Kd.fresh' (Kd.R_lt (by (with_reducible repeat (first | apply Kd.R_alloc | apply Kd.R_drewN | apply Kd.R_drew)); exact HO_11.out)) k_ hk, Kd.fresh' (Kd.N_lt (by (with_reducible repeat (first | apply Kd.N_alloc | apply Kd.N_drewN | apply Kd.N_drew)); exact HO_12.out)) k_ hk, Kd.fresh' (Kd.N_lt (by (with_reducible repeat (first | apply Kd.N_alloc | apply Kd.N_drewN | apply Kd.N_drew)); exact HO_13.out)) k_ hk, Kd.fresh' (Kd.N_lt (by (with_reducible repeat (first | apply Kd.N_alloc | apply Kd.N_drewN | apply Kd.N_drew)); exact HO300.out)) k_ hk⟩) _ (Nat.le_refl _)) (Below.refl _ _) (Nat.le_refl _) (by simp) ?_; (case hd => rfl); (case hg => rfl); (case hr => first | (go_simp; done) | (go_simp; rfl)); (case hp => exact (Reps.none _ _)); intro v302 w49 ho50 hb hg_ hnew_; clear hg_ hnew_; (first | rw [← Ny301.out] at ho50 | (simp only [Int.reduceToNat] at ho50; rw [← Ny301.out] at ho50)); have n0_ := Aside0.mk (Kd.R_below (by (with_reducible repeat (first | apply Kd.R_alloc | apply Kd.R_drewN | apply Kd.R_drew)); exact HO_11.out) hb); have n1_ := Aside0.mk (Kd.N_elder' (by (with_reducible repeat (first | apply Kd.N_alloc | apply Kd.N_drewN | apply Kd.N_drew)); exact HO_12.out) (Kd.N_base ho50) hb); have n2_ := Aside0.mk (Kd.N_elder' (by (with_reducible repeat (first | apply Kd.N_alloc | apply Kd.N_drewN | apply Kd.N_drew)); exact HO_13.out) (Kd.N_base ho50) hb); have n3_ := Aside0.mk (Kd.N_elder' (by (with_reducible repeat (first | apply Kd.N_alloc | apply Kd.N_drewN | apply Kd.N_drew)); exact HO300.out) (Kd.N_base ho50) hb); have n4_ := Aside0.mk (Kd.N_lower ho50 (below_size (by repeat (first | (with_reducible first | exact HB.out | apply below_alloc | apply pw_below_drewN | apply below_drew1) | exact HB.out)))); have n5_ := Aside0.mk (below_step (by repeat (first | (with_reducible first | exact HB.out | apply below_alloc | apply pw_below_drewN | apply below_drew1) | exact HB.out)) hb); clear HO_11; clear HO_12; clear HO_13; clear HO300; clear HB; have HO_11 := n0_; have HO_12 := n1_; have HO_13 := n2_; have HO300 := n3_; have HO303 := n4_; have HB := n5_; clear n0_ n1_ n2_ n3_ n4_ n5_; clear hb ho50; (try (refine wpl_norm (a' := ?_) ?na ?_; (case na => (simp only [Act.put, List.setIfInBounds_toArray, List.set_cons_zero, List.set_cons_succ]; rfl))))) | ((with_reducible refine gate_builtin (b := .append) (xs := #[.tmp 91, .tmp 92]) rfl ?_); (try (refine gate_guard (by rfl) ?_; dsimp only)); at_builtin; refine Kd.N_append_rows (Kd.slice 3 (Kd.int .i64)) (w0 := w) w.heap.size rfl (.tmp 91) (.tmp 92) 23 22 (.slice none 0 0) 24 rfl Try.underlying23 info22 rfl (by decide) (by omega) v302 y301 t274 _ _ _ (fun k_ => some k_ ≠ (.slice (some ad283) t272.length co18 : Value).ownBlock ∧ some k_ ≠ (.slice Ao19 t273.length co19 : Value).ownBlock ∧ some k_ ≠ (v299 : Value).ownBlock) (fun k_ => ((fun k_ => some k_ ≠ (.slice (some ad283) t272.length co18 : Value).ownBlock ∧ some k_ ≠ (.slice Ao19 t273.length co19 : Value).ownBlock ∧ some k_ ≠ (v299 : Value).ownBlock)) k_ ∧ some k_ ≠ (v302 : Value).ownBlock) rfl rfl ?aO ?aR (fun _ hk => hk) ?aF ?aB ?aS ?aL ?_; (case aR => exact (by skip; exact Kd.N_F (Kd.N_mono (ok' := (fun k_ => ((fun k_ => some k_ ≠ (.slice (some ad283) t272.length co18 : Value).ownBlock ∧ some k_ ≠ (.slice Ao19 t273.length co19 : Value).ownBlock ∧ some k_ ≠ (v299 : Value).ownBlock)) k_ ∧ some k_ ≠ (v302 : Value).ownBlock)) (HO_13.out) (fun k_ hk => ⟨⟨hk.1.1.1, ⟨hk.1.1.2.1, hk.1.2⟩⟩, hk.2⟩)))); (case aB => exact (by repeat (first | (with_reducible first | exact HB.out | apply below_alloc | apply pw_below_drewN | apply below_drew1) | exact HB.out))); (case aF => exact (fun k_ hk => ⟨Kd.fresh' (Kd.R_lt (by (with_reducible repeat (first | apply Kd.R_alloc | apply Kd.R_drewN | apply Kd.R_drew)); exact HO_11.out)) k_ hk, Kd.fresh' (Kd.N_lt (by (with_reducible repeat (first | apply Kd.N_alloc | apply Kd.N_drewN | apply Kd.N_drew)); exact HO_12.out)) k_ hk, Kd.fresh' (Kd.N_lt (by (with_reducible repeat (first | apply Kd.N_alloc | apply Kd.N_drewN | apply Kd.N_drew)); exact HO300.out)) k_ hk⟩)); (case aO => exact (by (with_reducible repeat (first | apply Kd.N_alloc | apply Kd.N_drewN | apply Kd.N_drew)); exact Kd.N_mono HO303.out (fun _ hk => ⟨hk.1, ⟨hk.2.1, hk.2.2.2⟩⟩))); (case aS => exact (below_size (by repeat (first | (with_reducible first | exact HB.out | apply below_alloc | apply pw_below_drewN | apply below_drew1) | exact HB.out)))); (case aL => have := LMc37.out; omega); intro v305 w51 ho hb hg hat; rw [← Ny304.out] at ho; have n0_ := Aside0.mk (Kd.R_over' (by (with_reducible repeat (first | apply Kd.R_alloc | apply Kd.R_drewN | apply Kd.R_drew)); exact HO_11.out) (Kd.N_typed (by (with_reducible repeat (first | apply Kd.N_alloc | apply Kd.N_drewN | apply Kd.N_drew)); exact HO303.out)) (by decide) hg); have n1_ := Aside0.mk (Kd.N_afterv (ok := (fun k_ => some k_ ≠ (.slice (some ad283) t272.length co18 : Value).ownBlock ∧ some k_ ≠ (.slice Ao20 t274.length co20 : Value).ownBlock ∧ some k_ ≠ (v299 : Value).ownBlock)) (by (with_reducible repeat (first | apply Kd.N_alloc | apply Kd.N_drewN | apply Kd.N_drew)); exact Kd.N_mono HO_12.out (fun _ hk => ⟨⟨hk.1.1.1, ⟨hk.1.1.2.1, hk.1.2⟩⟩, hk.2⟩)) hg hat); have n2_ := Aside0.mk (Kd.N_afterv (ok := (fun k_ => some k_ ≠ (.slice (some ad283) t272.length co18 : Value).ownBlock ∧ some k_ ≠ (.slice Ao19 t273.length co19 : Value).ownBlock ∧ some k_ ≠ (v299 : Value).ownBlock)) (by (with_reducible repeat (first | apply Kd.N_alloc | apply Kd.N_drewN | apply Kd.N_drew)); exact Kd.N_mono HO_13.out (fun _ hk => ⟨⟨hk.1.1.1, ⟨hk.1.1.2.1, hk.1.2⟩⟩, hk.2⟩)) hg hat); have n3_ := Aside0.mk (Kd.N_afterv (ok := (fun k_ => some k_ ≠ (.slice (some ad283) t272.length co18 : Value).ownBlock ∧ some k_ ≠ (.slice Ao20 t274.length co20 : Value).ownBlock)) (by (with_reducible repeat (first | apply Kd.N_alloc | apply Kd.N_drewN | apply Kd.N_drew)); exact HO300.out) hg hat); have n4_ := Aside0.mk (hb); have n5_ := Aside0.mk (ho); clear HO_11; clear HO_12; clear HO_13; clear HO300; clear HB; clear HO303; have HO_11 := n0_; have HO_12 := n1_; have HO_13 := n2_; have HO300 := n3_; have HB := n4_; have HO306 := n5_; clear n0_ n1_ n2_ n3_ n4_ n5_; clear ho hb hg hat) | ((with_reducible refine gate_dst (N := 96) rfl ?_); (try (refine gate_guard (by rfl) ?_; dsimp only)); refine Kd.R_lit (Kd.int .i64) _ 3 ?hg (N := 96) ?hd (xs := ([x17_28, x18_31] : List Int)) (inner := [.int .i64 x17_28, .int .i64 x18_31]) (ok := fun _ => True) (okp := fun _ => True) ?hr ?hp (fun _ hk => hk) trivial (Below.refl _ _) (Nat.le_refl _) (by simp) ?_; (case hd => rfl); (case hg => rfl); (case hr => first | (go_simp; done) | (go_simp; rfl)); (case hp => exact (Reps.one (show Kd.M (Kd.int .i64) _ _ _ x17_28 [.int .i64 x17_28] from rfl) (Reps.one (show Kd.M (Kd.int .i64) _ _ _ x18_31 [.int .i64 x18_31] from rfl) (Reps.none _ _)))); intro v308 w52 ho53 hb hg_ hnew_; clear hg_ hnew_; (first | rw [← Ny307.out] at ho53 | (simp only [Int.reduceToNat] at ho53; rw [← Ny307.out] at ho53)); have n0_ := Aside0.mk (Kd.R_elder' (by (with_reducible repeat (first | apply Kd.R_alloc | apply Kd.R_drewN | apply Kd.R_drew)); exact HO_11.out) (Kd.R_base ho53) hb); have n1_ := Aside0.mk (Kd.N_elder' (by (with_reducible repeat (first | apply Kd.N_alloc | apply Kd.N_drewN | apply Kd.N_drew)); exact HO_12.out) (Kd.R_base ho53) hb); have n2_ := Aside0.mk (Kd.N_elder' (by (with_reducible repeat (first | apply Kd.N_alloc | apply Kd.N_drewN | apply Kd.N_drew)); exact HO_13.out) (Kd.R_base ho53) hb); have n3_ := Aside0.mk (Kd.N_elder' (by (with_reducible repeat (first | apply Kd.N_alloc | apply Kd.N_drewN | apply Kd.N_drew)); exact HO300.out) (Kd.R_base ho53) hb); have n4_ := Aside0.mk (Kd.N_elder' (by (with_reducible repeat (first | apply Kd.N_alloc | apply Kd.N_drewN | apply Kd.N_drew)); exact HO306.out) (Kd.R_base ho53) hb); have n5_ := Aside0.mk (Kd.R_lower (Kd.R_new' ho53 (Kd.R_lt (by (with_reducible repeat (first | apply Kd.R_alloc | apply Kd.R_drewN | apply Kd.R_drew)); exact HO_11.out))) (below_size (by repeat (first | (with_reducible first | exact HB.out | apply below_alloc | apply pw_below_drewN | apply below_drew1) | exact HB.out)))); have n6_ := Aside0.mk (below_step (by repeat (first | (with_reducible first | exact HB.out | apply below_alloc | apply pw_below_drewN | apply below_drew1) | exact HB.out)) hb); clear HO_11; clear HO_12; clear HO_13; clear HO300; clear HO306; clear HB; have HO_11 := n0_; have HO_12 := n1_; have HO_13 := n2_; have HO300 := n3_; have HO306 := n4_; have HO309 := n5_; have HB := n6_; clear n0_ n1_ n2_ n3_ n4_ n5_ n6_; clear hb ho53; (try (refine wpl_norm (a' := ?_) ?na ?_; (case na => (simp only [Act.put, List.setIfInBounds_toArray, List.set_cons_zero, List.set_cons_succ]; rfl)))); obtain ⟨Ao55, co55, eo55⟩ := Kd.R_slice HO309.out; subst eo55) | ((with_reducible refine gate_builtin (b := .append) (xs := #[.tmp 93, .tmp 97]) rfl ?_); (try (refine gate_guard (by rfl) ?_; dsimp only)); at_builtin; refine Kd.N_append (Kd.slice 3 (Kd.int .i64)) (w0 := w) w.heap.size rfl (.tmp 93) (.tmp 97) 23 22 (.slice none 0 0) 24 rfl Try.underlying23 info22 rfl (by decide) (by omega) v305 y304 y307 [.slice Ao55 y307.length co55] (fun k_ => some k_ ≠ (.slice (some ad283) t272.length co18 : Value).ownBlock ∧ some k_ ≠ (.slice Ao19 t273.length co19 : Value).ownBlock ∧ some k_ ≠ (v299 : Value).ownBlock) (fun k_ => ((fun k_ => some k_ ≠ (.slice (some ad283) t272.length co18 : Value).ownBlock ∧ some k_ ≠ (.slice Ao19 t273.length co19 : Value).ownBlock ∧ some k_ ≠ (v299 : Value).ownBlock)) k_ ∧ some k_ ≠ (v305 : Value).ownBlock) rfl rfl ?aP (fun _ hk => hk) ?aF ?aO ?aB ?aS ?aL ?_; (case aP => exact (Kd.FK_slice_mk (Kd.R_reads' (Kd.R_mono (ok' := (fun k_ => ((fun k_ => some k_ ≠ (.slice (some ad283) t272.length co18 : Value).ownBlock ∧ some k_ ≠ (.slice Ao19 t273.length co19 : Value).ownBlock ∧ some k_ ≠ (v299 : Value).ownBlock)) k_ ∧ some k_ ≠ (v305 : Value).ownBlock)) (Kd.R_apart' (Kd.R_apart' (Kd.R_apart' (HO309.out) (Kd.N_typed HO_12.out) (by decide)) (Kd.N_typed HO300.out) (by decide)) (Kd.N_typed HO306.out) (by decide)) (fun k_ hk => ⟨⟨hk.1.1.1.2, ⟨hk.1.1.2, hk.1.2⟩⟩, hk.2⟩))).2.1 (Kd.R_F (Kd.R_mono (ok' := (fun k_ => ((fun k_ => some k_ ≠ (.slice (some ad283) t272.length co18 : Value).ownBlock ∧ some k_ ≠ (.slice Ao19 t273.length co19 : Value).ownBlock ∧ some k_ ≠ (v299 : Value).ownBlock)) k_ ∧ some k_ ≠ (v305 : Value).ownBlock)) (Kd.R_apart' (Kd.R_apart' (Kd.R_apart' (HO309.out) (Kd.N_typed HO_12.out) (by decide)) (Kd.N_typed HO300.out) (by decide)) (Kd.N_typed HO306.out) (by decide)) (fun k_ hk => ⟨⟨hk.1.1.1.2, ⟨hk.1.1.2, hk.1.2⟩⟩, hk.2⟩))))); (case aB => exact (by repeat (first | (with_reducible first | exact HB.out | apply below_alloc | apply pw_below_drewN | apply below_drew1) | exact HB.out))); (case aF => exact (fun k_ hk => ⟨Kd.fresh' (Kd.R_lt (by (with_reducible repeat (first | apply Kd.R_alloc | apply Kd.R_drewN | apply Kd.R_drew)); exact HO_11.out)) k_ hk, Kd.fresh' (Kd.N_lt (by (with_reducible repeat (first | apply Kd.N_alloc | apply Kd.N_drewN | apply Kd.N_drew)); exact HO_12.out)) k_ hk, Kd.fresh' (Kd.N_lt (by (with_reducible repeat (first | apply Kd.N_alloc | apply Kd.N_drewN | apply Kd.N_drew)); exact HO300.out)) k_ hk⟩)); (case aO => exact (by (with_reducible repeat (first | apply Kd.N_alloc | apply Kd.N_drewN | apply Kd.N_drew)); exact Kd.N_mono HO306.out (fun _ hk => ⟨hk.1.1, ⟨hk.1.2.1, hk.1.2.2⟩⟩))); (case aS => exact (below_size (by repeat (first | (with_reducible first | exact HB.out | apply below_alloc | apply pw_below_drewN | apply below_drew1) | exact HB.out)))); (case aL => have := LMc38.out; omega); intro v311 w54 ho hb hg hat; rw [← Ny310.out] at ho; have n0_ := Aside0.mk (Kd.R_over' (by (with_reducible repeat (first | apply Kd.R_alloc | apply Kd.R_drewN | apply Kd.R_drew)); exact HO_11.out) (Kd.N_typed (by (with_reducible repeat (first | apply Kd.N_alloc | apply Kd.N_drewN | apply Kd.N_drew)); exact HO306.out)) (by decide) hg); have n1_ := Aside0.mk (Kd.N_afterv (ok := (fun k_ => some k_ ≠ (.slice (some ad283) t272.length co18 : Value).ownBlock ∧ some k_ ≠ (.slice Ao20 t274.length co20 : Value).ownBlock ∧ some k_ ≠ (v299 : Value).ownBlock ∧ some k_ ≠ (.slice Ao55 y307.length co55 : Value).ownBlock)) (by (with_reducible repeat (first | apply Kd.N_alloc | apply Kd.N_drewN | apply Kd.N_drew)); exact Kd.N_mono HO_12.out (fun _ hk => ⟨⟨hk.1.1.1, ⟨hk.1.1.2.1, ⟨hk.1.1.2.2, hk.2⟩⟩⟩, hk.1.2⟩)) hg hat); have n2_ := Aside0.mk (Kd.N_afterv (ok := (fun k_ => some k_ ≠ (.slice (some ad283) t272.length co18 : Value).ownBlock ∧ some k_ ≠ (.slice Ao19 t273.length co19 : Value).ownBlock ∧ some k_ ≠ (v299 : Value).ownBlock ∧ some k_ ≠ (.slice Ao55 y307.length co55 : Value).ownBlock)) (by (with_reducible repeat (first | apply Kd.N_alloc | apply Kd.N_drewN | apply Kd.N_drew)); exact Kd.N_mono HO_13.out (fun _ hk => ⟨⟨hk.1.1.1, ⟨hk.1.1.2.1, ⟨hk.1.1.2.2, hk.2⟩⟩⟩, hk.1.2⟩)) hg hat); have n3_ := Aside0.mk (Kd.N_afterv (ok := (fun k_ => some k_ ≠ (.slice (some ad283) t272.length co18 : Value).ownBlock ∧ some k_ ≠ (.slice Ao20 t274.length co20 : Value).ownBlock ∧ some k_ ≠ (.slice Ao55 y307.length co55 : Value).ownBlock)) (by (with_reducible repeat (first | apply Kd.N_alloc | apply Kd.N_drewN | apply Kd.N_drew)); exact Kd.N_mono HO300.out (fun _ hk => ⟨⟨hk.1.1.1, ⟨hk.1.1.2, hk.2⟩⟩, hk.1.2⟩)) hg hat); have n4_ := Aside0.mk (hb); have n5_ := Aside0.mk (ho); clear HO_11; clear HO_12; clear HO_13; clear HO300; clear HB; clear HO306; clear HO309; have HO_11 := n0_; have HO_12 := n1_; have HO_13 := n2_; have HO300 := n3_; have HB := n4_; have HO312 := n5_; clear n0_ n1_ n2_ n3_ n4_ n5_; clear ho hb hg hat; obtain ⟨Ao56, co56, eo56⟩ := Kd.N_slice HO300.out; subst eo56; obtain ⟨Ao57, co57, eo57⟩ := Kd.N_slice HO312.out; subst eo57) | ((with_reducible refine gate_callee (f := 15) rfl ?_); refine goesL_ (some 99) rfl rfl Try.func15 (by kernel_rfl) rfl #[.slice (some ad283) t272.length co18, .slice Ao56 y298.length co56, .slice Ao57 y310.length co57] rfl (by (try simp only [List.map_toArray, List.map_cons, List.map_nil]); first | done | kernel_rfl) ?_; (with_reducible refine (bank_Safe.calls kj31 _ _ t272 _ _ y298 _ _ y310 true _ ?side1 ?side2 ?side3 ?side4 ?side5 ?side6 A39.out).mono ?_); (case side1 => repeat (first | exact (Kd.R_reads' HO_11.out).2.2 | (with_reducible refine Kd.C_alloc ?_ _) | (with_reducible refine Kd.C_drewN ?_ _) | (with_reducible refine Kd.C_drew ?_))); (case side2 => exact (Kd.R_reads' HO_11.out).2.1); (case side3 => repeat (first | exact (Kd.N_reads' HO300.out).2.2 | (with_reducible refine Kd.C_alloc ?_ _) | (with_reducible refine Kd.C_drewN ?_ _) | (with_reducible refine Kd.C_drew ?_))); (case side4 => exact (Kd.N_reads' HO300.out).2.1); (case side5 => repeat (first | exact (Kd.N_reads' HO312.out).2.2 | (with_reducible refine Kd.C_alloc ?_ _) | (with_reducible refine Kd.C_drewN ?_ _) | (with_reducible refine Kd.C_drew ?_))); (case side6 => exact (Kd.N_reads' HO312.out).2.1); rintro e w58 ⟨rfl, hb⟩; refine ⟨_, rfl, ?_⟩; have n0_ := Aside0.mk (Kd.R_below (by (with_reducible repeat (first | apply Kd.R_alloc | apply Kd.R_drewN | apply Kd.R_drew)); exact HO_11.out) hb); have n1_ := Aside0.mk (Kd.N_below (by (with_reducible repeat (first | apply Kd.N_alloc | apply Kd.N_drewN | apply Kd.N_drew)); exact HO_12.out) hb); have n2_ := Aside0.mk (Kd.N_below (by (with_reducible repeat (first | apply Kd.N_alloc | apply Kd.N_drewN | apply Kd.N_drew)); exact HO_13.out) hb); have n3_ := Aside0.mk (Kd.N_below (by (with_reducible repeat (first | apply Kd.N_alloc | apply Kd.N_drewN | apply Kd.N_drew)); exact HO300.out) hb); have n4_ := Aside0.mk (Kd.N_below (by (with_reducible repeat (first | apply Kd.N_alloc | apply Kd.N_drewN | apply Kd.N_drew)); exact HO312.out) hb); have n5_ := Aside0.mk (below_step (by repeat (first | (with_reducible first | exact HB.out | apply below_alloc | apply pw_below_drewN | apply below_drew1) | exact HB.out)) hb); clear HO_11; clear HO_12; clear HO_13; clear HO300; clear HO312; clear HB; have HO_11 := n0_; have HO_12 := n1_; have HO_13 := n2_; have HO300 := n3_; have HO312 := n4_; have HB := n5_; clear n0_ n1_ n2_ n3_ n4_ n5_; (try clear hb); (try clear hb2); (try clear hk); (try clear hi)))
                                      (try simp only [Act.put, List.setIfInBounds_toArray, List.set_cons_zero, List.set_cons_succ])
                                      go_cut [19] (fun v19 wc => ∃ (kq : Nat) (x19_40 : Int), v19 = .int .i64 x19_40 ∧ Aside0 (signalboxlaw14_BankComes.j4 kq t272 t273 t274 x19_40 = some r) ∧ Aside0 (kq ≤ kj31) ∧ Aside0 (Kd.R (Kd.int .i64) 3 wc w.heap.size (fun _ => True) (.slice (some ad283) t272.length co18) t272) ∧ Aside0 (Kd.N (Kd.slice 3 (Kd.int .i64)) 22 wc w.heap.size (fun k_ => some k_ ≠ ((.slice (some ad283) t272.length co18) : Value).ownBlock ∧ some k_ ≠ ((.slice Ao20 t274.length co20) : Value).ownBlock) (.slice Ao19 t273.length co19) t273) ∧ Aside0 (Kd.N (Kd.slice 3 (Kd.int .i64)) 22 wc w.heap.size (fun k_ => some k_ ≠ ((.slice (some ad283) t272.length co18) : Value).ownBlock ∧ some k_ ≠ ((.slice Ao19 t273.length co19) : Value).ownBlock) (.slice Ao20 t274.length co20) t274) ∧ Aside0 (Below w.heap.size w wc))
                                      case first =>
                                        have H := HC41.out
                                        clear HC41
                                        by_cases c59 : a4 > 0
                                        · rw [if_pos c59] at H
                                          have c59b0 : decide (0 < a4) = true := decide_eq_true c59
                                          clear c59
                                          (first | rw [c59b0] | (simp only [i64_w, i32_w]; rw [c59b0]) | skip)
                                          have H' := Aside0.mk H
                                          clear H
                                          go_wp2
                                          go_meet
                                          case rel => exact ⟨_, (Int.tmod a4 20), (by first | rfl | (simp; done) | (simp [*]; done)), H', ⟨by have := HJ5.out; have := HK2.out; have := HJ28.out; have := HJ31.out; first | omega | exact Nat.le_refl _⟩, ⟨by (with_reducible repeat (first | apply Kd.R_alloc | apply Kd.R_drewN | apply Kd.R_drew)); exact Kd.R_mono HO_11.out (fun _ hk => trivial)⟩, ⟨by (with_reducible repeat (first | apply Kd.N_alloc | apply Kd.N_drewN | apply Kd.N_drew)); exact Kd.N_mono HO_12.out (fun _ hk => ⟨hk.1.1, hk.1.2.1⟩)⟩, ⟨by (with_reducible repeat (first | apply Kd.N_alloc | apply Kd.N_drewN | apply Kd.N_drew)); exact Kd.N_mono HO_13.out (fun _ hk => ⟨hk.1.1, hk.1.2.1⟩)⟩, ⟨by repeat (first | (with_reducible first | exact HB.out | apply below_alloc | apply pw_below_drewN | apply below_drew1) | exact HB.out)⟩⟩
                                        · rw [if_neg c59] at H
                                          have c59b0 : decide (0 < a4) = false := decide_eq_false c59
                                          clear c59
                                          (first | rw [c59b0] | (simp only [i64_w, i32_w]; rw [c59b0]) | skip)
                                          have H' := Aside0.mk H
                                          clear H
                                          go_wp2
                                          go_meet
                                          case rel => exact ⟨_, (0), (by first | rfl | (simp; done) | (simp [*]; done)), H', ⟨by have := HJ5.out; have := HK2.out; have := HJ28.out; have := HJ31.out; first | omega | exact Nat.le_refl _⟩, ⟨by (with_reducible repeat (first | apply Kd.R_alloc | apply Kd.R_drewN | apply Kd.R_drew)); exact Kd.R_mono HO_11.out (fun _ hk => trivial)⟩, ⟨by (with_reducible repeat (first | apply Kd.N_alloc | apply Kd.N_drewN | apply Kd.N_drew)); exact Kd.N_mono HO_12.out (fun _ hk => ⟨hk.1.1, hk.1.2.1⟩)⟩, ⟨by (with_reducible repeat (first | apply Kd.N_alloc | apply Kd.N_drewN | apply Kd.N_drew)); exact Kd.N_mono HO_13.out (fun _ hk => ⟨hk.1.1, hk.1.2.1⟩)⟩, ⟨by repeat (first | (with_reducible first | exact HB.out | apply below_alloc | apply pw_below_drewN | apply below_drew1) | exact HB.out)⟩⟩
                                      case rest =>
                                        clear HC41
                                        try clear c1
                                        try clear c2
                                        try clear p2
                                        try clear q2
                                        try clear hx2
                                        try clear qi2
                                        try clear c3
                                        try clear c4
                                        try clear c5
                                        try clear p6
                                        try clear c7
                                        try clear c7b0
                                        try clear c8
                                        try clear c8b0
                                        try clear c9
                                        try clear c14
                                        try clear c15
                                        try clear c15b0
                                        try clear c15b1
                                        try clear c16
                                        try clear c16b0
                                        try clear c16b1
                                        try clear c23
                                        try clear c23b0
                                        try clear c24
                                        try clear c24b0
                                        try clear c25
                                        try clear c25b0
                                        try clear c26
                                        try clear c26b0
                                        try clear c26b1
                                        try clear c27
                                        try clear c27b0
                                        try clear c27b1
                                        try clear c28
                                        try clear p28
                                        try clear q28
                                        try clear hx28
                                        try clear qi28
                                        try clear c30
                                        try clear c30b0
                                        try clear c31
                                        try clear c31b0
                                        try clear c31b1
                                        try clear c33
                                        try clear c33b0
                                        try clear c34
                                        try clear c34b0
                                        try clear c34b1
                                        try clear c35
                                        try clear c36
                                        try clear c37
                                        try clear c38
                                        try clear c40
                                        try clear c59
                                        try clear c59b0
                                        try clear hx283_0
                                        try clear hx284_0
                                        try clear hx285_0
                                        try clear hx286_0
                                        try clear hx287_0
                                        try clear hx288_0
                                        try clear p2
                                        try clear p28
                                        try clear p283
                                        try clear p284
                                        try clear p285
                                        try clear p286
                                        try clear p287
                                        try clear p288
                                        try clear p6
                                        try clear q2
                                        try clear q28
                                        try clear q283
                                        try clear q284
                                        try clear q285
                                        try clear q286
                                        try clear q287
                                        try clear q288
                                        obtain ⟨kq, x19_40, rfl, HA, HJ40, HO_11, HO_12, HO_13, HB⟩ := hcut
                                        cases kq with
                                        | zero => exact absurd HA.out (by simp [signalboxlaw14_BankComes.j4])
                                        | succ kj40 =>
                                          have H := HA.out
                                          clear HA
                                          simp only [signalboxlaw14_BankComes.j4] at H
                                          by_cases c60 : 0 < (t272.length : Int)
                                          · rw [if_pos c60] at H
                                            have c60b0 : decide (0 < (t272.length : Int)) = true := decide_eq_true c60
                                            have c60b1 : decide (0 < t272.length) = true := decide_eq_true (by omega)
                                            clear c60
                                            by_cases c61 : 1 < (t272.length : Int)
                                            · rw [if_pos c61] at H
                                              have c61b0 : decide (1 < (t272.length : Int)) = true := decide_eq_true c61
                                              have c61b1 : decide (1 < t272.length) = true := decide_eq_true (by omega)
                                              clear c61
                                              obtain ⟨y316, hy316⟩ : ∃ y_ : List Int, y_ = (([wrap64 ((rd t272 0) + x19_40), rd t272 1] : List Int)) := ⟨_, rfl⟩
                                              replace H : ((bank_Safe.f kj40 y316 t273 t274).bind fun t319 => (if t319 = true then ((signalboxlaw14_awake.f kj40).bind fun t320 => (some t320)) else (none))) = some r := by first | (rw [hy316]; with_reducible exact H) | (have H2_ := (Option.bind_some _ _).symm.trans H; rw [hy316]; with_reducible exact H2_) | (have H2_ := (Option.bind_some _ _).symm.trans H; with_reducible exact H2_) | with_reducible exact H | (rw [hy316]; exact H) | exact H
                                              have Ny316 := Aside0.mk hy316
                                              clear hy316
                                              replace H := Option.bind_eq_some_iff.mp H
                                              obtain ⟨t319, A620, H⟩ := H
                                              replace H : (if t319 = true then ((signalboxlaw14_awake.f kj40).bind fun t320 => (some t320)) else (none)) = some r := H
                                              have A62 := Aside0.mk A620
                                              clear A620
                                              by_cases c63 : t319 = true
                                              · subst c63
                                                have H1 : ((signalboxlaw14_awake.f kj40).bind fun t320 => (some t320)) = some r := by rw [if_pos rfl] at H; exact H
                                                clear H
                                                have H := H1
                                                clear H1
                                                replace H := Option.bind_eq_some_iff.mp H
                                                obtain ⟨t320, A640, H⟩ := H
                                                replace H : (some t320) = some r := H
                                                have A64 := Aside0.mk A640
                                                clear A640
                                                obtain rfl := Option.some.inj H
                                                try go_wp2
                                                have n0_ := Aside0.mk (Kd.R_drew HO_11.out)
                                                have n1_ := Aside0.mk (Kd.N_drew HO_12.out)
                                                have n2_ := Aside0.mk (Kd.N_drew HO_13.out)
                                                have n3_ := Aside0.mk (below_drew1 HB.out)
                                                clear HO_11
                                                clear HO_12
                                                clear HO_13
                                                clear HB
                                                have HO_11 := n0_
                                                have HO_12 := n1_
                                                have HO_13 := n2_
                                                have HB := n3_
                                                clear n0_ n1_ n2_ n3_
                                                have p314 : 0 ≤ (0 : Int) := (by omega)
                                                have q314 : 0 < (t272.length : Int) := of_decide_eq_true (by first | (with_reducible assumption) | assumption)
                                                obtain ⟨ad314, e314, hx314_0⟩ := Kd.at_int (Kd.R_reads' HO_11.out).2.2 0 p314 q314
                                                obtain rfl : ad283 = ad314 := (by injection e314)
                                                have qi314 : (0 < t272.length) = True := eq_true (by omega)
                                                (try rw [show ((0 : Int)).toNat = 0 from rfl] at hx314_0)
                                                (try rw [Addr.add_zero'] at hx314_0)
                                                replace p314 := eq_true p314
                                                replace q314 := eq_true q314
                                                have p315 : 0 ≤ (1 : Int) := (by omega)
                                                have q315 : 1 < (t272.length : Int) := of_decide_eq_true (by first | (with_reducible assumption) | assumption)
                                                obtain ⟨ad315, e315, hx315_0⟩ := Kd.at_int (Kd.R_reads' HO_11.out).2.2 1 p315 q315
                                                obtain rfl : ad283 = ad315 := (by injection e315)
                                                (try simp only [show (1 : Int).toNat = 1 from rfl, Nat.reduceMul, Nat.reduceEqDiff, Go.Addr.add, ↓reduceIte] at hx315_0)
                                                have qi315 : (1 < t272.length) = True := eq_true (by omega)
                                                (try rw [show ((1 : Int)).toNat = 1 from rfl] at hx315_0)
                                                replace p315 := eq_true p315
                                                replace q315 := eq_true q315
                                                refine start_ (n := 16) (S := fun w' => w'.cell? ad283 = some (.int .i64 (rd t272 0)) ∧ w'.cell? ⟨ad283.block, ad283.off + 1, none⟩ = some (.int .i64 (rd t272 1))) (ds := []) #[false, false, false, false, false, false, false, false, false, false, false, false, false, false, false, false] (by kernel_rfl) rfl rfl ⟨hx314_0, hx315_0⟩ (fun hHeld => ?_); refine with_tabW signalboxlaw14_BankComes.tab22 signalboxlaw14_BankComes.bits22 (fun HT_ HW_ => ?_)
                                                generalize wc.drew = w65 at HO_11 HO_12 HO_13 HB hx314_0 hx315_0 hHeld ⊢
                                                refine pure_ (i := 0) (N := some 105) (v := ?_) (a' := ?_) #[true, false, false, false, false, false, false, false, false, false, false, false, false, false, false, false] rfl rfl (any_of HT_.out (by kernel_rfl)) (fun _ _ _ h => h) (Or.inl ⟨by rfl, ?_⟩) ?_ ?_
                                                rotate_left
                                                · intro w'
                                                  go_simp
                                                  with_reducible rfl
                                                rotate_left
                                                · simp only [Act.put, List.setIfInBounds_toArray, List.set_cons_zero, List.set_cons_succ, i64_w, i32_w]
                                                  rfl
                                                refine pure_ (i := 1) (N := some 106) (v := ?_) (a' := ?_) #[true, true, false, false, false, false, false, false, false, false, false, false, false, false, false, false] rfl rfl (any_of HT_.out (by kernel_rfl)) (fun _ _ _ h => h) (Or.inl ⟨by rfl, ?_⟩) ?_ ?_
                                                rotate_left
                                                · intro w'
                                                  go_simp
                                                  with_reducible rfl
                                                rotate_left
                                                · simp only [Act.put, List.setIfInBounds_toArray, List.set_cons_zero, List.set_cons_succ, i64_w, i32_w]
                                                  rfl
                                                refine pure_ (i := 3) (N := some 108) (v := ?_) (a' := ?_) #[true, true, false, true, false, false, false, false, false, false, false, false, false, false, false, false] rfl rfl (any_of HT_.out (by kernel_rfl)) (fun _ _ _ h => h) (Or.inl ⟨by rfl, ?_⟩) ?_ ?_
                                                rotate_left
                                                · intro w'
                                                  go_simp
                                                  with_reducible rfl
                                                rotate_left
                                                · simp only [Act.put, List.setIfInBounds_toArray, List.set_cons_zero, List.set_cons_succ, i64_w, i32_w]
                                                  rfl
                                                refine pure_ (i := 5) (N := some 110) (v := ?_) (a' := ?_) #[true, true, false, true, false, true, false, false, false, false, false, false, false, false, false, false] rfl rfl (any_of HT_.out (by kernel_rfl)) (fun _ _ _ h => h) (Or.inl ⟨by rfl, ?_⟩) ?_ ?_
                                                rotate_left
                                                · intro w'
                                                  go_simp
                                                  with_reducible rfl
                                                rotate_left
                                                · simp only [Act.put, List.setIfInBounds_toArray, List.set_cons_zero, List.set_cons_succ, i64_w, i32_w]
                                                  rfl
                                                refine pure_ (i := 6) (N := some 111) (v := ?_) (a' := ?_) #[true, true, false, true, false, true, true, false, false, false, false, false, false, false, false, false] rfl rfl (any_of HT_.out (by kernel_rfl)) (fun _ _ _ h => h) (Or.inl ⟨by rfl, ?_⟩) ?_ ?_
                                                rotate_left
                                                · intro w'
                                                  go_simp
                                                  with_reducible rfl
                                                rotate_left
                                                · simp only [Act.put, List.setIfInBounds_toArray, List.set_cons_zero, List.set_cons_succ, i64_w, i32_w]
                                                  rfl
                                                refine pure_ (i := 9) (N := some 114) (v := ?_) (a' := ?_) #[true, true, false, true, false, true, true, false, false, true, false, false, false, false, false, false] rfl rfl (any_of HT_.out (by kernel_rfl)) (fun _ _ _ h => h) (Or.inl ⟨by rfl, ?_⟩) ?_ ?_
                                                rotate_left
                                                · intro w'
                                                  go_simp
                                                  with_reducible rfl
                                                rotate_left
                                                · simp only [Act.put, List.setIfInBounds_toArray, List.set_cons_zero, List.set_cons_succ, i64_w, i32_w]
                                                  rfl
                                                refine pure_ (i := 10) (N := some 115) (v := ?_) (a' := ?_) #[true, true, false, true, false, true, true, false, false, true, true, false, false, false, false, false] rfl rfl (any_of HT_.out (by kernel_rfl)) (fun _ _ _ h => h) (Or.inl ⟨by rfl, ?_⟩) ?_ ?_
                                                rotate_left
                                                · intro w'
                                                  go_simp
                                                  with_reducible rfl
                                                rotate_left
                                                · simp only [Act.put, List.setIfInBounds_toArray, List.set_cons_zero, List.set_cons_succ, i64_w, i32_w]
                                                  rfl
                                                refine take_ (i := 2) (N := some 107) (v := ?_) (a' := ?_) #[true, true, true, true, false, true, true, false, false, true, true, false, false, false, false, false] rfl rfl (take_ofW HT_.out HW_.out (by kernel_rfl)) (fun _ _ _ h => h) (Or.inl ⟨by rfl, ?_⟩) hHeld ?_ ?_
                                                rotate_left
                                                · rintro w' ⟨s0, s1⟩
                                                  go_simp
                                                  with_reducible rfl
                                                rotate_left
                                                · simp only [Act.put, List.setIfInBounds_toArray, List.set_cons_zero, List.set_cons_succ, i64_w, i32_w]
                                                  rfl
                                                refine pure_ (i := 4) (N := some 109) (v := ?_) (a' := ?_) #[true, true, true, true, true, true, true, false, false, true, true, false, false, false, false, false] rfl rfl (any_of HT_.out (by kernel_rfl)) (fun _ _ _ h => h) (Or.inl ⟨by rfl, ?_⟩) ?_ ?_
                                                rotate_left
                                                · intro w'
                                                  go_simp
                                                  with_reducible rfl
                                                rotate_left
                                                · simp only [Act.put, List.setIfInBounds_toArray, List.set_cons_zero, List.set_cons_succ, i64_w, i32_w]
                                                  rfl
                                                refine take_ (i := 7) (N := some 112) (v := ?_) (a' := ?_) #[true, true, true, true, true, true, true, true, false, true, true, false, false, false, false, false] rfl rfl (take_ofW HT_.out HW_.out (by kernel_rfl)) (fun _ _ _ h => h) (Or.inl ⟨by rfl, ?_⟩) hHeld ?_ ?_
                                                rotate_left
                                                · rintro w' ⟨s0, s1⟩
                                                  go_simp
                                                  with_reducible rfl
                                                rotate_left
                                                · simp only [Act.put, List.setIfInBounds_toArray, List.set_cons_zero, List.set_cons_succ, i64_w, i32_w]
                                                  rfl
                                                refine one_ (i := 8) (N := some 113) #[true, true, true, true, true, true, true, true, true, true, true, false, false, false, false, false] rfl rfl (one_of HT_.out (by kernel_rfl)) (by decide) (fun K hK => ?_)
                                                refine Kd.R_lit_step (Kd.int .i64) _ 3 ?hg (N := 113) ?hd (xs := ([wrap64 ((rd t272 0) + x19_40), rd t272 1] : List Int)) (inner := [.int .i64 (wrap64 ((rd t272 0) + x19_40)), .int .i64 (rd t272 1)]) (ok := fun _ => True) (okp := fun _ => True) ?hr ?hp (fun _ hk => hk) trivial (Below.refl _ _) (Nat.le_refl _) (by simp) ?_; (case hd => rfl); (case hg => rfl); (case hr => first | (go_simp; done) | (go_simp; rfl)); (case hp => exact (Reps.one (show Kd.M (Kd.int .i64) _ _ _ (wrap64 ((rd t272 0) + x19_40)) [.int .i64 (wrap64 ((rd t272 0) + x19_40))] from rfl) (Reps.one (show Kd.M (Kd.int .i64) _ _ _ (rd t272 1) [.int .i64 (rd t272 1)] from rfl) (Reps.none _ _))))
                                                intro v317 w66 ho67 hb hg_ hnew_
                                                have HS0_ := (hb.cell (World.block_lt_of_cell? _ _ (hHeld.1))).trans (hHeld.1)
                                                have HS1_ := (hb.cell (World.block_lt_of_cell? _ _ (hHeld.2))).trans (hHeld.2)
                                                clear hg_ hnew_
                                                (first | rw [← Ny316.out] at ho67 | (simp only [Int.reduceToNat] at ho67; rw [← Ny316.out] at ho67))
                                                have n0_ := Aside0.mk (Kd.R_elder' (by (with_reducible repeat (first | apply Kd.R_alloc | apply Kd.R_drewN | apply Kd.R_drew)); exact HO_11.out) (Kd.R_base ho67) hb)
                                                have n1_ := Aside0.mk (Kd.N_elder' (by (with_reducible repeat (first | apply Kd.N_alloc | apply Kd.N_drewN | apply Kd.N_drew)); exact HO_12.out) (Kd.R_base ho67) hb)
                                                have n2_ := Aside0.mk (Kd.N_elder' (by (with_reducible repeat (first | apply Kd.N_alloc | apply Kd.N_drewN | apply Kd.N_drew)); exact HO_13.out) (Kd.R_base ho67) hb)
                                                have n3_ := Aside0.mk (Kd.R_lower (Kd.R_new' ho67 (Kd.R_lt (by (with_reducible repeat (first | apply Kd.R_alloc | apply Kd.R_drewN | apply Kd.R_drew)); exact HO_11.out))) (below_size (by repeat (first | (with_reducible first | exact HB.out | apply below_alloc | apply pw_below_drewN | apply below_drew1) | exact HB.out))))
                                                have n4_ := Aside0.mk (below_step (by repeat (first | (with_reducible first | exact HB.out | apply below_alloc | apply pw_below_drewN | apply below_drew1) | exact HB.out)) hb)
                                                clear HO_11
                                                clear HO_12
                                                clear HO_13
                                                clear HB
                                                have HO_11 := n0_
                                                have HO_12 := n1_
                                                have HO_13 := n2_
                                                have HO318 := n3_
                                                have HB := n4_
                                                clear n0_ n1_ n2_ n3_ n4_
                                                clear hb ho67
                                                obtain ⟨Ao68, co68, eo68⟩ := Kd.R_slice HO318.out
                                                (first | subst eo68 | (injection eo68 with f1_ f2_ f3_; have f4_ := f1_.symm; have f5_ := f3_.symm; clear f1_ f2_ f3_; subst f4_; subst f5_))
                                                refine hK.out _ _ ⟨HS0_, HS1_⟩ (fun hHeld => ?_)
                                                clear hK K
                                                refine norm_ (a' := ?_) ?_ ?_
                                                rotate_left
                                                · show Act.put _ (some 113) _ = _
                                                  simp only [Act.put, List.setIfInBounds_toArray, List.set_cons_zero, List.set_cons_succ, i64_w, i32_w]
                                                  rfl
                                                refine one_ (i := 11) (N := some 116) #[true, true, true, true, true, true, true, true, true, true, true, true, false, false, false, false] rfl rfl (one_of HT_.out (by kernel_rfl)) (by decide) (fun K hK => ?_)
                                                refine goes_ Try.func15 (by kernel_rfl) rfl #[.slice Ao68 y316.length co68, .slice Ao19 t273.length co19, .slice Ao20 t274.length co20] (by rfl) rfl rfl (by (try simp only [List.map_toArray, List.map_cons, List.map_nil]); first | done | kernel_rfl) ?_
                                                with_reducible refine (bank_Safe.calls kj40 _ _ y316 _ _ t273 _ _ t274 true _ ?side1 ?side2 ?side3 ?side4 ?side5 ?side6 A62.out).mono ?_
                                                (case side1 => repeat (first | exact (Kd.R_reads' HO318.out).2.2 | (with_reducible refine Kd.C_alloc ?_ _) | (with_reducible refine Kd.C_drewN ?_ _) | (with_reducible refine Kd.C_drew ?_)))
                                                (case side2 => exact (Kd.R_reads' HO318.out).2.1)
                                                (case side3 => repeat (first | exact (Kd.N_reads' HO_12.out).2.2 | (with_reducible refine Kd.C_alloc ?_ _) | (with_reducible refine Kd.C_drewN ?_ _) | (with_reducible refine Kd.C_drew ?_)))
                                                (case side4 => exact (Kd.N_reads' HO_12.out).2.1)
                                                (case side5 => repeat (first | exact (Kd.N_reads' HO_13.out).2.2 | (with_reducible refine Kd.C_alloc ?_ _) | (with_reducible refine Kd.C_drewN ?_ _) | (with_reducible refine Kd.C_drew ?_)))
                                                (case side6 => exact (Kd.N_reads' HO_13.out).2.1)
                                                rintro e w69 ⟨rfl, hb⟩
                                                have HS0_ := (hb.cell (World.block_lt_of_cell? _ _ (hHeld.1))).trans (hHeld.1)
                                                have HS1_ := (hb.cell (World.block_lt_of_cell? _ _ (hHeld.2))).trans (hHeld.2)
                                                refine ⟨_, rfl, ?_⟩
                                                have n0_ := Aside0.mk (Kd.R_below (by (with_reducible repeat (first | apply Kd.R_alloc | apply Kd.R_drewN | apply Kd.R_drew)); exact HO_11.out) hb)
                                                have n1_ := Aside0.mk (Kd.N_below (by (with_reducible repeat (first | apply Kd.N_alloc | apply Kd.N_drewN | apply Kd.N_drew)); exact HO_12.out) hb)
                                                have n2_ := Aside0.mk (Kd.N_below (by (with_reducible repeat (first | apply Kd.N_alloc | apply Kd.N_drewN | apply Kd.N_drew)); exact HO_13.out) hb)
                                                have n3_ := Aside0.mk (Kd.R_below (by (with_reducible repeat (first | apply Kd.R_alloc | apply Kd.R_drewN | apply Kd.R_drew)); exact HO318.out) hb)
                                                have n4_ := Aside0.mk (below_step (by repeat (first | (with_reducible first | exact HB.out | apply below_alloc | apply pw_below_drewN | apply below_drew1) | exact HB.out)) hb)
                                                clear HO_11
                                                clear HO_12
                                                clear HO_13
                                                clear HO318
                                                clear HB
                                                have HO_11 := n0_
                                                have HO_12 := n1_
                                                have HO_13 := n2_
                                                have HO318 := n3_
                                                have HB := n4_
                                                clear n0_ n1_ n2_ n3_ n4_
                                                (try clear hb)
                                                (try clear hb2)
                                                (try clear hk)
                                                (try clear hi)
                                                refine hK.out _ _ ⟨HS0_, HS1_⟩ (fun hHeld => ?_)
                                                clear hK K
                                                refine norm_ (a' := ?_) ?_ ?_
                                                rotate_left
                                                · show Act.put _ (some 116) _ = _
                                                  simp only [Act.put, List.setIfInBounds_toArray, List.set_cons_zero, List.set_cons_succ, i64_w, i32_w]
                                                  rfl
                                                refine pure_ (i := 12) (N := some 117) (v := ?_) (a' := ?_) #[true, true, true, true, true, true, true, true, true, true, true, true, true, false, false, false] rfl rfl (any_of HT_.out (by kernel_rfl)) (fun _ _ _ h => h) (Or.inl ⟨by rfl, ?_⟩) ?_ ?_
                                                rotate_left
                                                · intro w'
                                                  go_simp
                                                  with_reducible rfl
                                                rotate_left
                                                · simp only [Act.put, List.setIfInBounds_toArray, List.set_cons_zero, List.set_cons_succ, i64_w, i32_w]
                                                  rfl
                                                refine one_ (i := 13) (N := some 118) #[true, true, true, true, true, true, true, true, true, true, true, true, true, true, false, false] rfl rfl (one_of HT_.out (by kernel_rfl)) (by decide) (fun K hK => ?_)
                                                refine goes_ Try.func9 (by kernel_rfl) rfl #[] (by rfl) rfl rfl (by (try simp only [List.map_toArray, List.map_cons, List.map_nil]); first | done | kernel_rfl) ?_
                                                with_reducible refine (signalboxlaw14_awake.calls kj40  t320 _ A64.out).mono ?_
                                                rintro e w70 ⟨rfl, hb⟩
                                                have HS0_ := (hb.cell (World.block_lt_of_cell? _ _ (hHeld.1))).trans (hHeld.1)
                                                have HS1_ := (hb.cell (World.block_lt_of_cell? _ _ (hHeld.2))).trans (hHeld.2)
                                                refine ⟨_, rfl, ?_⟩
                                                have n0_ := Aside0.mk (Kd.R_below (by (with_reducible repeat (first | apply Kd.R_alloc | apply Kd.R_drewN | apply Kd.R_drew)); exact HO_11.out) hb)
                                                have n1_ := Aside0.mk (Kd.N_below (by (with_reducible repeat (first | apply Kd.N_alloc | apply Kd.N_drewN | apply Kd.N_drew)); exact HO_12.out) hb)
                                                have n2_ := Aside0.mk (Kd.N_below (by (with_reducible repeat (first | apply Kd.N_alloc | apply Kd.N_drewN | apply Kd.N_drew)); exact HO_13.out) hb)
                                                have n3_ := Aside0.mk (Kd.R_below (by (with_reducible repeat (first | apply Kd.R_alloc | apply Kd.R_drewN | apply Kd.R_drew)); exact HO318.out) hb)
                                                have n4_ := Aside0.mk (below_step (by repeat (first | (with_reducible first | exact HB.out | apply below_alloc | apply pw_below_drewN | apply below_drew1) | exact HB.out)) hb)
                                                clear HO_11
                                                clear HO_12
                                                clear HO_13
                                                clear HO318
                                                clear HB
                                                have HO_11 := n0_
                                                have HO_12 := n1_
                                                have HO_13 := n2_
                                                have HO318 := n3_
                                                have HB := n4_
                                                clear n0_ n1_ n2_ n3_ n4_
                                                (try clear hb)
                                                (try clear hb2)
                                                (try clear hk)
                                                (try clear hi)
                                                refine hK.out _ _ ⟨HS0_, HS1_⟩ (fun hHeld => ?_)
                                                clear hK K
                                                refine norm_ (a' := ?_) ?_ ?_
                                                rotate_left
                                                · show Act.put _ (some 118) _ = _
                                                  simp only [Act.put, List.setIfInBounds_toArray, List.set_cons_zero, List.set_cons_succ, i64_w, i32_w]
                                                  rfl
                                                refine pure_ (i := 14) (N := some 119) (v := ?_) (a' := ?_) #[true, true, true, true, true, true, true, true, true, true, true, true, true, true, true, false] rfl rfl (any_of HT_.out (by kernel_rfl)) (fun _ _ _ h => h) (Or.inl ⟨by rfl, ?_⟩) ?_ ?_
                                                rotate_left
                                                · intro w'
                                                  go_simp
                                                  with_reducible rfl
                                                rotate_left
                                                · simp only [Act.put, List.setIfInBounds_toArray, List.set_cons_zero, List.set_cons_succ, i64_w, i32_w]
                                                  rfl
                                                refine pure_ (i := 15) (N := some 10) (v := ?_) (a' := ?_) #[true, true, true, true, true, true, true, true, true, true, true, true, true, true, true, true] rfl rfl (any_of HT_.out (by kernel_rfl)) (fun _ _ _ h => h) (Or.inl ⟨by rfl, ?_⟩) ?_ ?_
                                                rotate_left
                                                · intro w'
                                                  go_simp
                                                  with_reducible rfl
                                                rotate_left
                                                · simp only [Act.put, List.setIfInBounds_toArray, List.set_cons_zero, List.set_cons_succ, i64_w, i32_w]
                                                  rfl
                                                refine done_ (done_of HT_.out (by kernel_rfl)) ?_
                                                try go_wp2
                                                go_ret
                                                exact ⟨by first | rfl | (simp [errW_none, errW_some] <;> rfl) | (simp [*, errW_none, errW_some] <;> rfl), by repeat (first | (with_reducible first | exact HB.out | apply below_alloc | apply pw_below_drewN | apply below_drew1) | exact HB.out)⟩
                                              · replace c63 := Bool.eq_false_iff.mpr c63
                                                subst c63
                                                have H1 : (none) = some r := by rw [if_neg (show ¬ (false = true) by decide)] at H; exact H
                                                clear H
                                                have H := H1
                                                clear H1
                                                exact absurd H (by simp)
                                            · rw [if_neg c61] at H
                                              exact absurd H (by simp)
                                          · rw [if_neg c60] at H
                                            exact absurd H (by simp)
                                    · replace c40 := Bool.eq_false_iff.mpr c40
                                      subst c40
                                      have H1 : (some false) = some r := by rw [if_neg (show ¬ (false = true) by decide)] at H; exact H
                                      clear H
                                      have H := H1
                                      clear H1
                                      obtain rfl := Option.some.inj H
                                      go_wp2_with (first | ((with_reducible refine gate_dst (N := 85) rfl ?_); (try (refine gate_guard (by rfl) ?_; dsimp only)); refine Kd.N_lit (Kd.slice 3 (Kd.int .i64)) _ 22 ?hg (N' := 85) ?hd (xs := ([] : List (List Int))) (inner := []) (ok := (fun k_ => some k_ ≠ (.slice (some ad283) t272.length co18 : Value).ownBlock ∧ some k_ ≠ (.slice Ao19 t273.length co19 : Value).ownBlock ∧ some k_ ≠ (.slice Ao20 t274.length co20 : Value).ownBlock)) (okp := (fun k_ => some k_ ≠ (.slice (some ad283) t272.length co18 : Value).ownBlock ∧ some k_ ≠ (.slice Ao19 t273.length co19 : Value).ownBlock ∧ some k_ ≠ (.slice Ao20 t274.length co20 : Value).ownBlock)) ?hr ?hp (fun _ hk => hk) ((show ∀ k_, wc.heap.size ≤ k_ → (fun k_ => some k_ ≠ (.slice (some ad283) t272.length co18 : Value).ownBlock ∧ some k_ ≠ (.slice Ao19 t273.length co19 : Value).ownBlock ∧ some k_ ≠ (.slice Ao20 t274.length co20 : Value).ownBlock) k_ from fun k_ hk => ⟨Kd.fresh' (Kd.R_lt (by (with_reducible repeat (first | apply Kd.R_alloc | apply Kd.R_drewN | apply Kd.R_drew)); exact HO_11.out)) k_ hk, Kd.fresh' (Kd.N_lt (by (with_reducible repeat (first | apply Kd.N_alloc | apply Kd.N_drewN | apply Kd.N_drew)); exact HO_12.out)) k_ hk, Kd.fresh' (Kd.N_lt (by (with_reducible repeat (first | apply Kd.N_alloc | apply Kd.N_drewN | apply Kd.N_drew)); exact HO_13.out)) k_ hk⟩) _ (Nat.le_refl _)) (Below.refl _ _) (Nat.le_refl _) (by simp) ?_; (case hd => rfl); (case hg => rfl); (case hr => first | (go_simp; done) | (go_simp; rfl)); (case hp => exact (Reps.none _ _)); intro v290 w71 ho72 hb hg_ hnew_; clear hg_ hnew_; (first | rw [← Ny289.out] at ho72 | (simp only [Int.reduceToNat] at ho72; rw [← Ny289.out] at ho72)); have n0_ := Aside0.mk (Kd.R_below (by (with_reducible repeat (first | apply Kd.R_alloc | apply Kd.R_drewN | apply Kd.R_drew)); exact HO_11.out) hb); have n1_ := Aside0.mk (Kd.N_elder' (by (with_reducible repeat (first | apply Kd.N_alloc | apply Kd.N_drewN | apply Kd.N_drew)); exact HO_12.out) (Kd.N_base ho72) hb); have n2_ := Aside0.mk (Kd.N_elder' (by (with_reducible repeat (first | apply Kd.N_alloc | apply Kd.N_drewN | apply Kd.N_drew)); exact HO_13.out) (Kd.N_base ho72) hb); have n3_ := Aside0.mk (Kd.N_lower ho72 (below_size (by repeat (first | (with_reducible first | exact HB.out | apply below_alloc | apply pw_below_drewN | apply below_drew1) | exact HB.out)))); have n4_ := Aside0.mk (below_step (by repeat (first | (with_reducible first | exact HB.out | apply below_alloc | apply pw_below_drewN | apply below_drew1) | exact HB.out)) hb); clear HO_11; clear HO_12; clear HO_13; clear HB; have HO_11 := n0_; have HO_12 := n1_; have HO_13 := n2_; have HO291 := n3_; have HB := n4_; clear n0_ n1_ n2_ n3_ n4_; clear hb ho72; (try (refine wpl_norm (a' := ?_) ?na ?_; (case na => (simp only [Act.put, List.setIfInBounds_toArray, List.set_cons_zero, List.set_cons_succ]; rfl))))) | ((with_reducible refine gate_builtin (b := .append) (xs := #[.tmp 85, .tmp 86]) rfl ?_); (try (refine gate_guard (by rfl) ?_; dsimp only)); at_builtin; refine Kd.N_append_rows (Kd.slice 3 (Kd.int .i64)) (w0 := w) w.heap.size rfl (.tmp 85) (.tmp 86) 23 22 (.slice none 0 0) 24 rfl Try.underlying23 info22 rfl (by decide) (by omega) v290 y289 t273 _ _ _ (fun k_ => some k_ ≠ (.slice (some ad283) t272.length co18 : Value).ownBlock ∧ some k_ ≠ (.slice Ao20 t274.length co20 : Value).ownBlock) (fun k_ => ((fun k_ => some k_ ≠ (.slice (some ad283) t272.length co18 : Value).ownBlock ∧ some k_ ≠ (.slice Ao20 t274.length co20 : Value).ownBlock)) k_ ∧ some k_ ≠ (v290 : Value).ownBlock) rfl rfl ?aO ?aR (fun _ hk => hk) ?aF ?aB ?aS ?aL ?_; (case aR => exact (by skip; exact Kd.N_F (Kd.N_mono (ok' := (fun k_ => ((fun k_ => some k_ ≠ (.slice (some ad283) t272.length co18 : Value).ownBlock ∧ some k_ ≠ (.slice Ao20 t274.length co20 : Value).ownBlock)) k_ ∧ some k_ ≠ (v290 : Value).ownBlock)) (HO_12.out) (fun k_ hk => ⟨⟨hk.1.1, hk.1.2⟩, hk.2⟩)))); (case aB => exact (by repeat (first | (with_reducible first | exact HB.out | apply below_alloc | apply pw_below_drewN | apply below_drew1) | exact HB.out))); (case aF => exact (fun k_ hk => ⟨Kd.fresh' (Kd.R_lt (by (with_reducible repeat (first | apply Kd.R_alloc | apply Kd.R_drewN | apply Kd.R_drew)); exact HO_11.out)) k_ hk, Kd.fresh' (Kd.N_lt (by (with_reducible repeat (first | apply Kd.N_alloc | apply Kd.N_drewN | apply Kd.N_drew)); exact HO_13.out)) k_ hk⟩)); (case aO => exact (by (with_reducible repeat (first | apply Kd.N_alloc | apply Kd.N_drewN | apply Kd.N_drew)); exact Kd.N_mono HO291.out (fun _ hk => ⟨hk.1, hk.2.2⟩))); (case aS => exact (below_size (by repeat (first | (with_reducible first | exact HB.out | apply below_alloc | apply pw_below_drewN | apply below_drew1) | exact HB.out)))); (case aL => have := LMc35.out; omega); intro v293 w73 ho hb hg hat; rw [← Ny292.out] at ho; have n0_ := Aside0.mk (Kd.R_over' (by (with_reducible repeat (first | apply Kd.R_alloc | apply Kd.R_drewN | apply Kd.R_drew)); exact HO_11.out) (Kd.N_typed (by (with_reducible repeat (first | apply Kd.N_alloc | apply Kd.N_drewN | apply Kd.N_drew)); exact HO291.out)) (by decide) hg); have n1_ := Aside0.mk (Kd.N_afterv (ok := (fun k_ => some k_ ≠ (.slice (some ad283) t272.length co18 : Value).ownBlock ∧ some k_ ≠ (.slice Ao20 t274.length co20 : Value).ownBlock)) (by (with_reducible repeat (first | apply Kd.N_alloc | apply Kd.N_drewN | apply Kd.N_drew)); exact HO_12.out) hg hat); have n2_ := Aside0.mk (Kd.N_afterv (ok := (fun k_ => some k_ ≠ (.slice (some ad283) t272.length co18 : Value).ownBlock ∧ some k_ ≠ (.slice Ao19 t273.length co19 : Value).ownBlock)) (by (with_reducible repeat (first | apply Kd.N_alloc | apply Kd.N_drewN | apply Kd.N_drew)); exact HO_13.out) hg hat); have n3_ := Aside0.mk (hb); have n4_ := Aside0.mk (ho); clear HO_11; clear HO_12; clear HO_13; clear HB; clear HO291; have HO_11 := n0_; have HO_12 := n1_; have HO_13 := n2_; have HB := n3_; have HO294 := n4_; clear n0_ n1_ n2_ n3_ n4_; clear ho hb hg hat) | ((with_reducible refine gate_dst (N := 88) rfl ?_); (try (refine gate_guard (by rfl) ?_; dsimp only)); refine Kd.R_lit (Kd.int .i64) _ 3 ?hg (N := 88) ?hd (xs := ([0, 0] : List Int)) (inner := [.int .i64 0, .int .i64 0]) (ok := fun _ => True) (okp := fun _ => True) ?hr ?hp (fun _ hk => hk) trivial (Below.refl _ _) (Nat.le_refl _) (by simp) ?_; (case hd => rfl); (case hg => rfl); (case hr => first | (go_simp; done) | (go_simp; rfl)); (case hp => exact (Reps.one (show Kd.M (Kd.int .i64) _ _ _ 0 [.int .i64 0] from rfl) (Reps.one (show Kd.M (Kd.int .i64) _ _ _ 0 [.int .i64 0] from rfl) (Reps.none _ _)))); intro v296 w74 ho75 hb hg_ hnew_; clear hg_ hnew_; (first | rw [← Ny295.out] at ho75 | (simp only [Int.reduceToNat] at ho75; rw [← Ny295.out] at ho75)); have n0_ := Aside0.mk (Kd.R_elder' (by (with_reducible repeat (first | apply Kd.R_alloc | apply Kd.R_drewN | apply Kd.R_drew)); exact HO_11.out) (Kd.R_base ho75) hb); have n1_ := Aside0.mk (Kd.N_elder' (by (with_reducible repeat (first | apply Kd.N_alloc | apply Kd.N_drewN | apply Kd.N_drew)); exact HO_12.out) (Kd.R_base ho75) hb); have n2_ := Aside0.mk (Kd.N_elder' (by (with_reducible repeat (first | apply Kd.N_alloc | apply Kd.N_drewN | apply Kd.N_drew)); exact HO_13.out) (Kd.R_base ho75) hb); have n3_ := Aside0.mk (Kd.N_elder' (by (with_reducible repeat (first | apply Kd.N_alloc | apply Kd.N_drewN | apply Kd.N_drew)); exact HO294.out) (Kd.R_base ho75) hb); have n4_ := Aside0.mk (Kd.R_lower (Kd.R_new' ho75 (Kd.R_lt (by (with_reducible repeat (first | apply Kd.R_alloc | apply Kd.R_drewN | apply Kd.R_drew)); exact HO_11.out))) (below_size (by repeat (first | (with_reducible first | exact HB.out | apply below_alloc | apply pw_below_drewN | apply below_drew1) | exact HB.out)))); have n5_ := Aside0.mk (below_step (by repeat (first | (with_reducible first | exact HB.out | apply below_alloc | apply pw_below_drewN | apply below_drew1) | exact HB.out)) hb); clear HO_11; clear HO_12; clear HO_13; clear HO294; clear HB; have HO_11 := n0_; have HO_12 := n1_; have HO_13 := n2_; have HO294 := n3_; have HO297 := n4_; have HB := n5_; clear n0_ n1_ n2_ n3_ n4_ n5_; clear hb ho75; (try (refine wpl_norm (a' := ?_) ?na ?_; (case na => (simp only [Act.put, List.setIfInBounds_toArray, List.set_cons_zero, List.set_cons_succ]; rfl)))); obtain ⟨Ao77, co77, eo77⟩ := Kd.R_slice HO297.out; subst eo77) | ((with_reducible refine gate_builtin (b := .append) (xs := #[.tmp 87, .tmp 89]) rfl ?_); (try (refine gate_guard (by rfl) ?_; dsimp only)); at_builtin; refine Kd.N_append (Kd.slice 3 (Kd.int .i64)) (w0 := w) w.heap.size rfl (.tmp 87) (.tmp 89) 23 22 (.slice none 0 0) 24 rfl Try.underlying23 info22 rfl (by decide) (by omega) v293 y292 y295 [.slice Ao77 y295.length co77] (fun k_ => some k_ ≠ (.slice (some ad283) t272.length co18 : Value).ownBlock ∧ some k_ ≠ (.slice Ao20 t274.length co20 : Value).ownBlock) (fun k_ => ((fun k_ => some k_ ≠ (.slice (some ad283) t272.length co18 : Value).ownBlock ∧ some k_ ≠ (.slice Ao20 t274.length co20 : Value).ownBlock)) k_ ∧ some k_ ≠ (v293 : Value).ownBlock) rfl rfl ?aP (fun _ hk => hk) ?aF ?aO ?aB ?aS ?aL ?_; (case aP => exact (Kd.FK_slice_mk (Kd.R_reads' (Kd.R_mono (ok' := (fun k_ => ((fun k_ => some k_ ≠ (.slice (some ad283) t272.length co18 : Value).ownBlock ∧ some k_ ≠ (.slice Ao20 t274.length co20 : Value).ownBlock)) k_ ∧ some k_ ≠ (v293 : Value).ownBlock)) (Kd.R_apart' (Kd.R_apart' (HO297.out) (Kd.N_typed HO_13.out) (by decide)) (Kd.N_typed HO294.out) (by decide)) (fun k_ hk => ⟨⟨hk.1.1.2, hk.1.2⟩, hk.2⟩))).2.1 (Kd.R_F (Kd.R_mono (ok' := (fun k_ => ((fun k_ => some k_ ≠ (.slice (some ad283) t272.length co18 : Value).ownBlock ∧ some k_ ≠ (.slice Ao20 t274.length co20 : Value).ownBlock)) k_ ∧ some k_ ≠ (v293 : Value).ownBlock)) (Kd.R_apart' (Kd.R_apart' (HO297.out) (Kd.N_typed HO_13.out) (by decide)) (Kd.N_typed HO294.out) (by decide)) (fun k_ hk => ⟨⟨hk.1.1.2, hk.1.2⟩, hk.2⟩))))); (case aB => exact (by repeat (first | (with_reducible first | exact HB.out | apply below_alloc | apply pw_below_drewN | apply below_drew1) | exact HB.out))); (case aF => exact (fun k_ hk => ⟨Kd.fresh' (Kd.R_lt (by (with_reducible repeat (first | apply Kd.R_alloc | apply Kd.R_drewN | apply Kd.R_drew)); exact HO_11.out)) k_ hk, Kd.fresh' (Kd.N_lt (by (with_reducible repeat (first | apply Kd.N_alloc | apply Kd.N_drewN | apply Kd.N_drew)); exact HO_13.out)) k_ hk⟩)); (case aO => exact (by (with_reducible repeat (first | apply Kd.N_alloc | apply Kd.N_drewN | apply Kd.N_drew)); exact Kd.N_mono HO294.out (fun _ hk => ⟨hk.1.1, hk.1.2⟩))); (case aS => exact (below_size (by repeat (first | (with_reducible first | exact HB.out | apply below_alloc | apply pw_below_drewN | apply below_drew1) | exact HB.out)))); (case aL => have := LMc36.out; omega); intro v299 w76 ho hb hg hat; rw [← Ny298.out] at ho; have n0_ := Aside0.mk (Kd.R_over' (by (with_reducible repeat (first | apply Kd.R_alloc | apply Kd.R_drewN | apply Kd.R_drew)); exact HO_11.out) (Kd.N_typed (by (with_reducible repeat (first | apply Kd.N_alloc | apply Kd.N_drewN | apply Kd.N_drew)); exact HO294.out)) (by decide) hg); have n1_ := Aside0.mk (Kd.N_afterv (ok := (fun k_ => some k_ ≠ (.slice (some ad283) t272.length co18 : Value).ownBlock ∧ some k_ ≠ (.slice Ao20 t274.length co20 : Value).ownBlock ∧ some k_ ≠ (.slice Ao77 y295.length co77 : Value).ownBlock)) (by (with_reducible repeat (first | apply Kd.N_alloc | apply Kd.N_drewN | apply Kd.N_drew)); exact Kd.N_mono HO_12.out (fun _ hk => ⟨⟨hk.1.1.1, ⟨hk.1.1.2, hk.2⟩⟩, hk.1.2⟩)) hg hat); have n2_ := Aside0.mk (Kd.N_afterv (ok := (fun k_ => some k_ ≠ (.slice (some ad283) t272.length co18 : Value).ownBlock ∧ some k_ ≠ (.slice Ao19 t273.length co19 : Value).ownBlock ∧ some k_ ≠ (.slice Ao77 y295.length co77 : Value).ownBlock)) (by (with_reducible repeat (first | apply Kd.N_alloc | apply Kd.N_drewN | apply Kd.N_drew)); exact Kd.N_mono HO_13.out (fun _ hk => ⟨⟨hk.1.1.1, ⟨hk.1.1.2, hk.2⟩⟩, hk.1.2⟩)) hg hat); have n3_ := Aside0.mk (hb); have n4_ := Aside0.mk (ho); clear HO_11; clear HO_12; clear HO_13; clear HB; clear HO294; clear HO297; have HO_11 := n0_; have HO_12 := n1_; have HO_13 := n2_; have HB := n3_; have HO300 := n4_; clear n0_ n1_ n2_ n3_ n4_; clear ho hb hg hat) | ((with_reducible refine gate_dst (N := 91) rfl ?_); (try (refine gate_guard (by rfl) ?_; dsimp only)); refine Kd.N_lit (Kd.slice 3 (Kd.int .i64)) _ 22 ?hg (N' := 91) ?hd (xs := ([] : List (List Int))) (inner := []) (ok := (fun k_ => some k_ ≠ (.slice (some ad283) t272.length co18 : Value).ownBlock ∧ some k_ ≠ (.slice Ao19 t273.length co19 : Value).ownBlock ∧ some k_ ≠ (.slice Ao20 t274.length co20 : Value).ownBlock ∧ some k_ ≠ (v299 : Value).ownBlock)) (okp := (fun k_ => some k_ ≠ (.slice (some ad283) t272.length co18 : Value).ownBlock ∧ some k_ ≠ (.slice Ao19 t273.length co19 : Value).ownBlock ∧ some k_ ≠ (.slice Ao20 t274.length co20 : Value).ownBlock ∧ some k_ ≠ (v299 : Value).ownBlock)) ?hr ?hp (fun _ hk => hk) ((show ∀ k_, w76.heap.size ≤ k_ → (fun k_ => some k_ ≠ (.slice (some ad283) t272.length co18 : Value).ownBlock ∧ some k_ ≠ (.slice Ao19 t273.length co19 : Value).ownBlock ∧ some k_ ≠ (.slice Ao20 t274.length co20 : Value).ownBlock ∧ some k_ ≠ (v299 : Value).ownBlock) k_ from fun k_ hk => ⟨Kd.fresh' (Kd.R_lt (by (with_reducible repeat (first | apply Kd.R_alloc | apply Kd.R_drewN | apply Kd.R_drew)); exact HO_11.out)) k_ hk, Kd.fresh' (Kd.N_lt (by (with_reducible repeat (first | apply Kd.N_alloc | apply Kd.N_drewN | apply Kd.N_drew)); exact HO_12.out)) k_ hk, Kd.fresh' (Kd.N_lt (by (with_reducible repeat (first | apply Kd.N_alloc | apply Kd.N_drewN | apply Kd.N_drew)); exact HO_13.out)) k_ hk, Kd.fresh' (Kd.N_lt (by (with_reducible repeat (first | apply Kd.N_alloc | apply Kd.N_drewN | apply Kd.N_drew)); exact HO300.out)) k_ hk⟩) _ (Nat.le_refl _)) (Below.refl _ _) (Nat.le_refl _) (by simp) ?_; (case hd => rfl); (case hg => rfl); (case hr => first | (go_simp; done) | (go_simp; rfl)); (case hp => exact (Reps.none _ _)); intro v302 w78 ho79 hb hg_ hnew_; clear hg_ hnew_; (first | rw [← Ny301.out] at ho79 | (simp only [Int.reduceToNat] at ho79; rw [← Ny301.out] at ho79)); have n0_ := Aside0.mk (Kd.R_below (by (with_reducible repeat (first | apply Kd.R_alloc | apply Kd.R_drewN | apply Kd.R_drew)); exact HO_11.out) hb); have n1_ := Aside0.mk (Kd.N_elder' (by (with_reducible repeat (first | apply Kd.N_alloc | apply Kd.N_drewN | apply Kd.N_drew)); exact HO_12.out) (Kd.N_base ho79) hb); have n2_ := Aside0.mk (Kd.N_elder' (by (with_reducible repeat (first | apply Kd.N_alloc | apply Kd.N_drewN | apply Kd.N_drew)); exact HO_13.out) (Kd.N_base ho79) hb); have n3_ := Aside0.mk (Kd.N_elder' (by (with_reducible repeat (first | apply Kd.N_alloc | apply Kd.N_drewN | apply Kd.N_drew)); exact HO300.out) (Kd.N_base ho79) hb); have n4_ := Aside0.mk (Kd.N_lower ho79 (below_size (by repeat (first | (with_reducible first | exact HB.out | apply below_alloc | apply pw_below_drewN | apply below_drew1) | exact HB.out)))); have n5_ := Aside0.mk (below_step (by repeat (first | (with_reducible first | exact HB.out | apply below_alloc | apply pw_below_drewN | apply below_drew1) | exact HB.out)) hb); clear HO_11; clear HO_12; clear HO_13; clear HO300; clear HB; have HO_11 := n0_; have HO_12 := n1_; have HO_13 := n2_; have HO300 := n3_; have HO303 := n4_; have HB := n5_; clear n0_ n1_ n2_ n3_ n4_ n5_; clear hb ho79; (try (refine wpl_norm (a' := ?_) ?na ?_; (case na => (simp only [Act.put, List.setIfInBounds_toArray, List.set_cons_zero, List.set_cons_succ]; rfl))))) | ((with_reducible refine gate_builtin (b := .append) (xs := #[.tmp 91, .tmp 92]) rfl ?_); (try (refine gate_guard (by rfl) ?_; dsimp only)); at_builtin; refine Kd.N_append_rows (Kd.slice 3 (Kd.int .i64)) (w0 := w) w.heap.size rfl (.tmp 91) (.tmp 92) 23 22 (.slice none 0 0) 24 rfl Try.underlying23 info22 rfl (by decide) (by omega) v302 y301 t274 _ _ _ (fun k_ => some k_ ≠ (.slice (some ad283) t272.length co18 : Value).ownBlock ∧ some k_ ≠ (.slice Ao19 t273.length co19 : Value).ownBlock ∧ some k_ ≠ (v299 : Value).ownBlock) (fun k_ => ((fun k_ => some k_ ≠ (.slice (some ad283) t272.length co18 : Value).ownBlock ∧ some k_ ≠ (.slice Ao19 t273.length co19 : Value).ownBlock ∧ some k_ ≠ (v299 : Value).ownBlock)) k_ ∧ some k_ ≠ (v302 : Value).ownBlock) rfl rfl ?aO ?aR (fun _ hk => hk) ?aF ?aB ?aS ?aL ?_; (case aR => exact (by skip; exact Kd.N_F (Kd.N_mono (ok' := (fun k_ => ((fun k_ => some k_ ≠ (.slice (some ad283) t272.length co18 : Value).ownBlock ∧ some k_ ≠ (.slice Ao19 t273.length co19 : Value).ownBlock ∧ some k_ ≠ (v299 : Value).ownBlock)) k_ ∧ some k_ ≠ (v302 : Value).ownBlock)) (HO_13.out) (fun k_ hk => ⟨⟨hk.1.1.1, ⟨hk.1.1.2.1, hk.1.2⟩⟩, hk.2⟩)))); (case aB => exact (by repeat (first | (with_reducible first | exact HB.out | apply below_alloc | apply pw_below_drewN | apply below_drew1) | exact HB.out))); (case aF => exact (fun k_ hk => ⟨Kd.fresh' (Kd.R_lt (by (with_reducible repeat (first | apply Kd.R_alloc | apply Kd.R_drewN | apply Kd.R_drew)); exact HO_11.out)) k_ hk, Kd.fresh' (Kd.N_lt (by (with_reducible repeat (first | apply Kd.N_alloc | apply Kd.N_drewN | apply Kd.N_drew)); exact HO_12.out)) k_ hk, Kd.fresh' (Kd.N_lt (by (with_reducible repeat (first | apply Kd.N_alloc | apply Kd.N_drewN | apply Kd.N_drew)); exact HO300.out)) k_ hk⟩)); (case aO => exact (by (with_reducible repeat (first | apply Kd.N_alloc | apply Kd.N_drewN | apply Kd.N_drew)); exact Kd.N_mono HO303.out (fun _ hk => ⟨hk.1, ⟨hk.2.1, hk.2.2.2⟩⟩))); (case aS => exact (below_size (by repeat (first | (with_reducible first | exact HB.out | apply below_alloc | apply pw_below_drewN | apply below_drew1) | exact HB.out)))); (case aL => have := LMc37.out; omega); intro v305 w80 ho hb hg hat; rw [← Ny304.out] at ho; have n0_ := Aside0.mk (Kd.R_over' (by (with_reducible repeat (first | apply Kd.R_alloc | apply Kd.R_drewN | apply Kd.R_drew)); exact HO_11.out) (Kd.N_typed (by (with_reducible repeat (first | apply Kd.N_alloc | apply Kd.N_drewN | apply Kd.N_drew)); exact HO303.out)) (by decide) hg); have n1_ := Aside0.mk (Kd.N_afterv (ok := (fun k_ => some k_ ≠ (.slice (some ad283) t272.length co18 : Value).ownBlock ∧ some k_ ≠ (.slice Ao20 t274.length co20 : Value).ownBlock ∧ some k_ ≠ (v299 : Value).ownBlock)) (by (with_reducible repeat (first | apply Kd.N_alloc | apply Kd.N_drewN | apply Kd.N_drew)); exact Kd.N_mono HO_12.out (fun _ hk => ⟨⟨hk.1.1.1, ⟨hk.1.1.2.1, hk.1.2⟩⟩, hk.2⟩)) hg hat); have n2_ := Aside0.mk (Kd.N_afterv (ok := (fun k_ => some k_ ≠ (.slice (some ad283) t272.length co18 : Value).ownBlock ∧ some k_ ≠ (.slice Ao19 t273.length co19 : Value).ownBlock ∧ some k_ ≠ (v299 : Value).ownBlock)) (by (with_reducible repeat (first | apply Kd.N_alloc | apply Kd.N_drewN | apply Kd.N_drew)); exact Kd.N_mono HO_13.out (fun _ hk => ⟨⟨hk.1.1.1, ⟨hk.1.1.2.1, hk.1.2⟩⟩, hk.2⟩)) hg hat); have n3_ := Aside0.mk (Kd.N_afterv (ok := (fun k_ => some k_ ≠ (.slice (some ad283) t272.length co18 : Value).ownBlock ∧ some k_ ≠ (.slice Ao20 t274.length co20 : Value).ownBlock)) (by (with_reducible repeat (first | apply Kd.N_alloc | apply Kd.N_drewN | apply Kd.N_drew)); exact HO300.out) hg hat); have n4_ := Aside0.mk (hb); have n5_ := Aside0.mk (ho); clear HO_11; clear HO_12; clear HO_13; clear HO300; clear HB; clear HO303; have HO_11 := n0_; have HO_12 := n1_; have HO_13 := n2_; have HO300 := n3_; have HB := n4_; have HO306 := n5_; clear n0_ n1_ n2_ n3_ n4_ n5_; clear ho hb hg hat) | ((with_reducible refine gate_dst (N := 96) rfl ?_); (try (refine gate_guard (by rfl) ?_; dsimp only)); refine Kd.R_lit (Kd.int .i64) _ 3 ?hg (N := 96) ?hd (xs := ([x17_28, x18_31] : List Int)) (inner := [.int .i64 x17_28, .int .i64 x18_31]) (ok := fun _ => True) (okp := fun _ => True) ?hr ?hp (fun _ hk => hk) trivial (Below.refl _ _) (Nat.le_refl _) (by simp) ?_; (case hd => rfl); (case hg => rfl); (case hr => first | (go_simp; done) | (go_simp; rfl)); (case hp => exact (Reps.one (show Kd.M (Kd.int .i64) _ _ _ x17_28 [.int .i64 x17_28] from rfl) (Reps.one (show Kd.M (Kd.int .i64) _ _ _ x18_31 [.int .i64 x18_31] from rfl) (Reps.none _ _)))); intro v308 w81 ho82 hb hg_ hnew_; clear hg_ hnew_; (first | rw [← Ny307.out] at ho82 | (simp only [Int.reduceToNat] at ho82; rw [← Ny307.out] at ho82)); have n0_ := Aside0.mk (Kd.R_elder' (by (with_reducible repeat (first | apply Kd.R_alloc | apply Kd.R_drewN | apply Kd.R_drew)); exact HO_11.out) (Kd.R_base ho82) hb); have n1_ := Aside0.mk (Kd.N_elder' (by (with_reducible repeat (first | apply Kd.N_alloc | apply Kd.N_drewN | apply Kd.N_drew)); exact HO_12.out) (Kd.R_base ho82) hb); have n2_ := Aside0.mk (Kd.N_elder' (by (with_reducible repeat (first | apply Kd.N_alloc | apply Kd.N_drewN | apply Kd.N_drew)); exact HO_13.out) (Kd.R_base ho82) hb); have n3_ := Aside0.mk (Kd.N_elder' (by (with_reducible repeat (first | apply Kd.N_alloc | apply Kd.N_drewN | apply Kd.N_drew)); exact HO300.out) (Kd.R_base ho82) hb); have n4_ := Aside0.mk (Kd.N_elder' (by (with_reducible repeat (first | apply Kd.N_alloc | apply Kd.N_drewN | apply Kd.N_drew)); exact HO306.out) (Kd.R_base ho82) hb); have n5_ := Aside0.mk (Kd.R_lower (Kd.R_new' ho82 (Kd.R_lt (by (with_reducible repeat (first | apply Kd.R_alloc | apply Kd.R_drewN | apply Kd.R_drew)); exact HO_11.out))) (below_size (by repeat (first | (with_reducible first | exact HB.out | apply below_alloc | apply pw_below_drewN | apply below_drew1) | exact HB.out)))); have n6_ := Aside0.mk (below_step (by repeat (first | (with_reducible first | exact HB.out | apply below_alloc | apply pw_below_drewN | apply below_drew1) | exact HB.out)) hb); clear HO_11; clear HO_12; clear HO_13; clear HO300; clear HO306; clear HB; have HO_11 := n0_; have HO_12 := n1_; have HO_13 := n2_; have HO300 := n3_; have HO306 := n4_; have HO309 := n5_; have HB := n6_; clear n0_ n1_ n2_ n3_ n4_ n5_ n6_; clear hb ho82; (try (refine wpl_norm (a' := ?_) ?na ?_; (case na => (simp only [Act.put, List.setIfInBounds_toArray, List.set_cons_zero, List.set_cons_succ]; rfl)))); obtain ⟨Ao84, co84, eo84⟩ := Kd.R_slice HO309.out; subst eo84) | ((with_reducible refine gate_builtin (b := .append) (xs := #[.tmp 93, .tmp 97]) rfl ?_); (try (refine gate_guard (by rfl) ?_; dsimp only)); at_builtin; refine Kd.N_append (Kd.slice 3 (Kd.int .i64)) (w0 := w) w.heap.size rfl (.tmp 93) (.tmp 97) 23 22 (.slice none 0 0) 24 rfl Try.underlying23 info22 rfl (by decide) (by omega) v305 y304 y307 [.slice Ao84 y307.length co84] (fun k_ => some k_ ≠ (.slice (some ad283) t272.length co18 : Value).ownBlock ∧ some k_ ≠ (.slice Ao19 t273.length co19 : Value).ownBlock ∧ some k_ ≠ (v299 : Value).ownBlock) (fun k_ => ((fun k_ => some k_ ≠ (.slice (some ad283) t272.length co18 : Value).ownBlock ∧ some k_ ≠ (.slice Ao19 t273.length co19 : Value).ownBlock ∧ some k_ ≠ (v299 : Value).ownBlock)) k_ ∧ some k_ ≠ (v305 : Value).ownBlock) rfl rfl ?aP (fun _ hk => hk) ?aF ?aO ?aB ?aS ?aL ?_; (case aP => exact (Kd.FK_slice_mk (Kd.R_reads' (Kd.R_mono (ok' := (fun k_ => ((fun k_ => some k_ ≠ (.slice (some ad283) t272.length co18 : Value).ownBlock ∧ some k_ ≠ (.slice Ao19 t273.length co19 : Value).ownBlock ∧ some k_ ≠ (v299 : Value).ownBlock)) k_ ∧ some k_ ≠ (v305 : Value).ownBlock)) (Kd.R_apart' (Kd.R_apart' (Kd.R_apart' (HO309.out) (Kd.N_typed HO_12.out) (by decide)) (Kd.N_typed HO300.out) (by decide)) (Kd.N_typed HO306.out) (by decide)) (fun k_ hk => ⟨⟨hk.1.1.1.2, ⟨hk.1.1.2, hk.1.2⟩⟩, hk.2⟩))).2.1 (Kd.R_F (Kd.R_mono (ok' := (fun k_ => ((fun k_ => some k_ ≠ (.slice (some ad283) t272.length co18 : Value).ownBlock ∧ some k_ ≠ (.slice Ao19 t273.length co19 : Value).ownBlock ∧ some k_ ≠ (v299 : Value).ownBlock)) k_ ∧ some k_ ≠ (v305 : Value).ownBlock)) (Kd.R_apart' (Kd.R_apart' (Kd.R_apart' (HO309.out) (Kd.N_typed HO_12.out) (by decide)) (Kd.N_typed HO300.out) (by decide)) (Kd.N_typed HO306.out) (by decide)) (fun k_ hk => ⟨⟨hk.1.1.1.2, ⟨hk.1.1.2, hk.1.2⟩⟩, hk.2⟩))))); (case aB => exact (by repeat (first | (with_reducible first | exact HB.out | apply below_alloc | apply pw_below_drewN | apply below_drew1) | exact HB.out))); (case aF => exact (fun k_ hk => ⟨Kd.fresh' (Kd.R_lt (by (with_reducible repeat (first | apply Kd.R_alloc | apply Kd.R_drewN | apply Kd.R_drew)); exact HO_11.out)) k_ hk, Kd.fresh' (Kd.N_lt (by (with_reducible repeat (first | apply Kd.N_alloc | apply Kd.N_drewN | apply Kd.N_drew)); exact HO_12.out)) k_ hk, Kd.fresh' (Kd.N_lt (by (with_reducible repeat (first | apply Kd.N_alloc | apply Kd.N_drewN | apply Kd.N_drew)); exact HO300.out)) k_ hk⟩)); (case aO => exact (by (with_reducible repeat (first | apply Kd.N_alloc | apply Kd.N_drewN | apply Kd.N_drew)); exact Kd.N_mono HO306.out (fun _ hk => ⟨hk.1.1, ⟨hk.1.2.1, hk.1.2.2⟩⟩))); (case aS => exact (below_size (by repeat (first | (with_reducible first | exact HB.out | apply below_alloc | apply pw_below_drewN | apply below_drew1) | exact HB.out)))); (case aL => have := LMc38.out; omega); intro v311 w83 ho hb hg hat; rw [← Ny310.out] at ho; have n0_ := Aside0.mk (Kd.R_over' (by (with_reducible repeat (first | apply Kd.R_alloc | apply Kd.R_drewN | apply Kd.R_drew)); exact HO_11.out) (Kd.N_typed (by (with_reducible repeat (first | apply Kd.N_alloc | apply Kd.N_drewN | apply Kd.N_drew)); exact HO306.out)) (by decide) hg); have n1_ := Aside0.mk (Kd.N_afterv (ok := (fun k_ => some k_ ≠ (.slice (some ad283) t272.length co18 : Value).ownBlock ∧ some k_ ≠ (.slice Ao20 t274.length co20 : Value).ownBlock ∧ some k_ ≠ (v299 : Value).ownBlock ∧ some k_ ≠ (.slice Ao84 y307.length co84 : Value).ownBlock)) (by (with_reducible repeat (first | apply Kd.N_alloc | apply Kd.N_drewN | apply Kd.N_drew)); exact Kd.N_mono HO_12.out (fun _ hk => ⟨⟨hk.1.1.1, ⟨hk.1.1.2.1, ⟨hk.1.1.2.2, hk.2⟩⟩⟩, hk.1.2⟩)) hg hat); have n2_ := Aside0.mk (Kd.N_afterv (ok := (fun k_ => some k_ ≠ (.slice (some ad283) t272.length co18 : Value).ownBlock ∧ some k_ ≠ (.slice Ao19 t273.length co19 : Value).ownBlock ∧ some k_ ≠ (v299 : Value).ownBlock ∧ some k_ ≠ (.slice Ao84 y307.length co84 : Value).ownBlock)) (by (with_reducible repeat (first | apply Kd.N_alloc | apply Kd.N_drewN | apply Kd.N_drew)); exact Kd.N_mono HO_13.out (fun _ hk => ⟨⟨hk.1.1.1, ⟨hk.1.1.2.1, ⟨hk.1.1.2.2, hk.2⟩⟩⟩, hk.1.2⟩)) hg hat); have n3_ := Aside0.mk (Kd.N_afterv (ok := (fun k_ => some k_ ≠ (.slice (some ad283) t272.length co18 : Value).ownBlock ∧ some k_ ≠ (.slice Ao20 t274.length co20 : Value).ownBlock ∧ some k_ ≠ (.slice Ao84 y307.length co84 : Value).ownBlock)) (by (with_reducible repeat (first | apply Kd.N_alloc | apply Kd.N_drewN | apply Kd.N_drew)); exact Kd.N_mono HO300.out (fun _ hk => ⟨⟨hk.1.1.1, ⟨hk.1.1.2, hk.2⟩⟩, hk.1.2⟩)) hg hat); have n4_ := Aside0.mk (hb); have n5_ := Aside0.mk (ho); clear HO_11; clear HO_12; clear HO_13; clear HO300; clear HB; clear HO306; clear HO309; have HO_11 := n0_; have HO_12 := n1_; have HO_13 := n2_; have HO300 := n3_; have HB := n4_; have HO312 := n5_; clear n0_ n1_ n2_ n3_ n4_ n5_; clear ho hb hg hat; obtain ⟨Ao85, co85, eo85⟩ := Kd.N_slice HO300.out; subst eo85; obtain ⟨Ao86, co86, eo86⟩ := Kd.N_slice HO312.out; subst eo86) | ((with_reducible refine gate_callee (f := 15) rfl ?_); refine goesL_ (some 99) rfl rfl Try.func15 (by kernel_rfl) rfl #[.slice (some ad283) t272.length co18, .slice Ao85 y298.length co85, .slice Ao86 y310.length co86] rfl (by (try simp only [List.map_toArray, List.map_cons, List.map_nil]); first | done | kernel_rfl) ?_; (with_reducible refine (bank_Safe.calls kj31 _ _ t272 _ _ y298 _ _ y310 false _ ?side1 ?side2 ?side3 ?side4 ?side5 ?side6 A39.out).mono ?_); (case side1 => repeat (first | exact (Kd.R_reads' HO_11.out).2.2 | (with_reducible refine Kd.C_alloc ?_ _) | (with_reducible refine Kd.C_drewN ?_ _) | (with_reducible refine Kd.C_drew ?_))); (case side2 => exact (Kd.R_reads' HO_11.out).2.1); (case side3 => repeat (first | exact (Kd.N_reads' HO300.out).2.2 | (with_reducible refine Kd.C_alloc ?_ _) | (with_reducible refine Kd.C_drewN ?_ _) | (with_reducible refine Kd.C_drew ?_))); (case side4 => exact (Kd.N_reads' HO300.out).2.1); (case side5 => repeat (first | exact (Kd.N_reads' HO312.out).2.2 | (with_reducible refine Kd.C_alloc ?_ _) | (with_reducible refine Kd.C_drewN ?_ _) | (with_reducible refine Kd.C_drew ?_))); (case side6 => exact (Kd.N_reads' HO312.out).2.1); rintro e w87 ⟨rfl, hb⟩; refine ⟨_, rfl, ?_⟩; have n0_ := Aside0.mk (Kd.R_below (by (with_reducible repeat (first | apply Kd.R_alloc | apply Kd.R_drewN | apply Kd.R_drew)); exact HO_11.out) hb); have n1_ := Aside0.mk (Kd.N_below (by (with_reducible repeat (first | apply Kd.N_alloc | apply Kd.N_drewN | apply Kd.N_drew)); exact HO_12.out) hb); have n2_ := Aside0.mk (Kd.N_below (by (with_reducible repeat (first | apply Kd.N_alloc | apply Kd.N_drewN | apply Kd.N_drew)); exact HO_13.out) hb); have n3_ := Aside0.mk (Kd.N_below (by (with_reducible repeat (first | apply Kd.N_alloc | apply Kd.N_drewN | apply Kd.N_drew)); exact HO300.out) hb); have n4_ := Aside0.mk (Kd.N_below (by (with_reducible repeat (first | apply Kd.N_alloc | apply Kd.N_drewN | apply Kd.N_drew)); exact HO312.out) hb); have n5_ := Aside0.mk (below_step (by repeat (first | (with_reducible first | exact HB.out | apply below_alloc | apply pw_below_drewN | apply below_drew1) | exact HB.out)) hb); clear HO_11; clear HO_12; clear HO_13; clear HO300; clear HO312; clear HB; have HO_11 := n0_; have HO_12 := n1_; have HO_13 := n2_; have HO300 := n3_; have HO312 := n4_; have HB := n5_; clear n0_ n1_ n2_ n3_ n4_ n5_; (try clear hb); (try clear hb2); (try clear hk); (try clear hi)))
                                      go_ret
                                      exact ⟨by first | rfl | (simp [errW_none, errW_some] <;> rfl) | (simp [*, errW_none, errW_some] <;> rfl), by repeat (first | (with_reducible first | exact HB.out | apply below_alloc | apply pw_below_drewN | apply below_drew1) | exact HB.out)⟩
                                  · rw [if_neg c38] at H
                                    exact absurd H (by simp)
                                · rw [if_neg c37] at H
                                  exact absurd H (by simp)
                              · rw [if_neg c36] at H
                                exact absurd H (by simp)
                            · rw [if_neg c35] at H
                              exact absurd H (by simp)
            · rw [if_neg c16] at H
              exact absurd H (by simp)
          · rw [if_neg c15] at H
            exact absurd H (by simp)
        · replace c14 := Bool.eq_false_iff.mpr c14
          subst c14
          have H1 : ((signalboxlaw14_awake.f kj5).bind fun t282 => (some t282)) = some r := by rw [if_neg (show ¬ (false = true) by decide)] at H; exact H
          clear H
          have H := H1
          clear H1
          replace H := Option.bind_eq_some_iff.mp H
          obtain ⟨t282, A880, H⟩ := H
          replace H : (some t282) = some r := H
          have A88 := Aside0.mk A880
          clear A880
          obtain rfl := Option.some.inj H
          go_wp2_with (first | ((with_reducible refine gate_callee (f := 16) rfl ?_); refine goesL_ (some 35) rfl rfl Try.func16 (by kernel_rfl) rfl #[.int .i64 a0, .slice A1 l1.length c1] rfl (by (try simp only [List.map_toArray, List.map_cons, List.map_nil]); first | done | kernel_rfl) ?_; (with_reducible refine (signalboxlaw14_state.callsF a0 _ _ l1 t272 t273 t274 _ ?side1 ?side2 A12.out).mono ?_); (case side1 => repeat (first | exact (Kd.C_below HR1.out HB.out) | (with_reducible refine Kd.C_alloc ?_ _) | (with_reducible refine Kd.C_drewN ?_ _) | (with_reducible refine Kd.C_drew ?_))); (case side2 => exact HC1.out); rintro e w89 ⟨v275, v277, v279, rfl, ho0, ho1, ho2, hb⟩; refine ⟨_, rfl, ?_⟩; have n0_ := Aside0.mk (Kd.R_lower ho0 (below_size (by repeat (first | (with_reducible first | exact HB.out | apply below_alloc | apply pw_below_drewN | apply below_drew1) | exact HB.out)))); have n1_ := Aside0.mk (Kd.N_lower (Kd.N_mono (ok' := fun k_ => some k_ ≠ (v275 : Value).ownBlock ∧ some k_ ≠ (v279 : Value).ownBlock) (Kd.R_N (Kd.R_bound ho1)) (fun k_ hk_ => ⟨hk_.1.1, hk_.1.2⟩)) (below_size (by repeat (first | (with_reducible first | exact HB.out | apply below_alloc | apply pw_below_drewN | apply below_drew1) | exact HB.out)))); have n2_ := Aside0.mk (Kd.N_lower (Kd.N_mono (ok' := fun k_ => some k_ ≠ (v275 : Value).ownBlock ∧ some k_ ≠ (v277 : Value).ownBlock) (Kd.R_N (Kd.R_bound ho2)) (fun k_ hk_ => ⟨hk_.1.1, hk_.1.2⟩)) (below_size (by repeat (first | (with_reducible first | exact HB.out | apply below_alloc | apply pw_below_drewN | apply below_drew1) | exact HB.out)))); have n3_ := Aside0.mk (below_step (by repeat (first | (with_reducible first | exact HB.out | apply below_alloc | apply pw_below_drewN | apply below_drew1) | exact HB.out)) hb); clear HB; have HO276 := n0_; have HO278 := n1_; have HO280 := n2_; have HB := n3_; clear n0_ n1_ n2_ n3_; (try clear hb); (try clear hb2); (try clear hk); (try clear hi); (try clear ho0); (try clear ho1); (try clear ho2); obtain ⟨Ao90, co90, eo90⟩ := Kd.R_slice HO276.out; subst eo90; obtain ⟨Ao91, co91, eo91⟩ := Kd.N_slice HO278.out; subst eo91; obtain ⟨Ao92, co92, eo92⟩ := Kd.N_slice HO280.out; subst eo92) | ((with_reducible refine gate_callee (f := 15) rfl ?_); refine goesL_ (some 42) rfl rfl Try.func15 (by kernel_rfl) rfl #[.slice Ao90 t272.length co90, .slice Ao91 t273.length co91, .slice Ao92 t274.length co92] rfl (by (try simp only [List.map_toArray, List.map_cons, List.map_nil]); first | done | kernel_rfl) ?_; (with_reducible refine (bank_Safe.calls kj5 _ _ t272 _ _ t273 _ _ t274 false _ ?side1 ?side2 ?side3 ?side4 ?side5 ?side6 A13.out).mono ?_); (case side1 => repeat (first | exact (Kd.R_reads' HO276.out).2.2 | (with_reducible refine Kd.C_alloc ?_ _) | (with_reducible refine Kd.C_drewN ?_ _) | (with_reducible refine Kd.C_drew ?_))); (case side2 => exact (Kd.R_reads' HO276.out).2.1); (case side3 => repeat (first | exact (Kd.N_reads' HO278.out).2.2 | (with_reducible refine Kd.C_alloc ?_ _) | (with_reducible refine Kd.C_drewN ?_ _) | (with_reducible refine Kd.C_drew ?_))); (case side4 => exact (Kd.N_reads' HO278.out).2.1); (case side5 => repeat (first | exact (Kd.N_reads' HO280.out).2.2 | (with_reducible refine Kd.C_alloc ?_ _) | (with_reducible refine Kd.C_drewN ?_ _) | (with_reducible refine Kd.C_drew ?_))); (case side6 => exact (Kd.N_reads' HO280.out).2.1); rintro e w93 ⟨rfl, hb⟩; refine ⟨_, rfl, ?_⟩; have n0_ := Aside0.mk (Kd.R_below (by (with_reducible repeat (first | apply Kd.R_alloc | apply Kd.R_drewN | apply Kd.R_drew)); exact HO276.out) hb); have n1_ := Aside0.mk (Kd.N_below (by (with_reducible repeat (first | apply Kd.N_alloc | apply Kd.N_drewN | apply Kd.N_drew)); exact HO278.out) hb); have n2_ := Aside0.mk (Kd.N_below (by (with_reducible repeat (first | apply Kd.N_alloc | apply Kd.N_drewN | apply Kd.N_drew)); exact HO280.out) hb); have n3_ := Aside0.mk (below_step (by repeat (first | (with_reducible first | exact HB.out | apply below_alloc | apply pw_below_drewN | apply below_drew1) | exact HB.out)) hb); clear HO276; clear HO278; clear HO280; clear HB; have HO276 := n0_; have HO278 := n1_; have HO280 := n2_; have HB := n3_; clear n0_ n1_ n2_ n3_; (try clear hb); (try clear hb2); (try clear hk); (try clear hi)) | ((with_reducible refine gate_callee (f := 9) rfl ?_); refine goesL_ (some 44) rfl rfl Try.func9 (by kernel_rfl) rfl #[] rfl (by (try simp only [List.map_toArray, List.map_cons, List.map_nil]); first | done | kernel_rfl) ?_; (with_reducible refine (signalboxlaw14_awake.calls kj5  t282 _ A88.out).mono ?_); rintro e w94 ⟨rfl, hb⟩; refine ⟨_, rfl, ?_⟩; have n0_ := Aside0.mk (Kd.R_below (by (with_reducible repeat (first | apply Kd.R_alloc | apply Kd.R_drewN | apply Kd.R_drew)); exact HO276.out) hb); have n1_ := Aside0.mk (Kd.N_below (by (with_reducible repeat (first | apply Kd.N_alloc | apply Kd.N_drewN | apply Kd.N_drew)); exact HO278.out) hb); have n2_ := Aside0.mk (Kd.N_below (by (with_reducible repeat (first | apply Kd.N_alloc | apply Kd.N_drewN | apply Kd.N_drew)); exact HO280.out) hb); have n3_ := Aside0.mk (below_step (by repeat (first | (with_reducible first | exact HB.out | apply below_alloc | apply pw_below_drewN | apply below_drew1) | exact HB.out)) hb); clear HO276; clear HO278; clear HO280; clear HB; have HO276 := n0_; have HO278 := n1_; have HO280 := n2_; have HB := n3_; clear n0_ n1_ n2_ n3_; (try clear hb); (try clear hb2); (try clear hk); (try clear hi)))
          go_ret
          exact ⟨by first | rfl | (simp [errW_none, errW_some] <;> rfl) | (simp [*, errW_none, errW_some] <;> rfl), by repeat (first | (with_reducible first | exact HB.out | apply below_alloc | apply pw_below_drewN | apply below_drew1) | exact HB.out)⟩

/-- THE ONE PURE STATEMENT of signalboxlaw14_BankComes: yours. -/
def signalboxlaw14_BankComes.Pure : Prop := ∀ (a0 : Int) (l1 : List Int) (a2 : Int) (a3 : Int) (a4 : Int), (Lit.int .i64 a0).wf = true → l1.length ≤ maxLen → l1.length * 8 ≤ 140737488351232 → (∀ x ∈ l1, (Lit.int .i64 x).wf = true) → (Lit.int .i64 a2).wf = true → (Lit.int .i64 a3).wf = true → (Lit.int .i64 a4).wf = true → ∃ k, signalboxlaw14_BankComes.f k a0 l1 a2 a3 a4 = some true
theorem signalboxlaw14_BankComes.walk (P : signalboxlaw14_BankComes.Pure) (a0 : Int) (a1 : Option Addr) (len1 cap1 : Nat) (z1 : List Int) (a2 : Int) (a3 : Int) (a4 : Int) (w : World) (w0 : (Lit.int .i64 a0).wf = true) (w1 : (a1 = none ∧ len1 = 0 ∧ cap1 = 0 ∧ z1 = []) ∨ ∃ x, a1 = some x ∧ len1 ≤ cap1 ∧ cap1 ≤ maxLen ∧ z1.length = cap1 ∧ (∀ i, i < z1.length → w.cell? (x.add i) = some (.int .i64 (z1.getD i 0))) ∧ ∀ n ∈ z1, (Lit.int .i64 n).wf = true) (y1 : len1 * 8 ≤ 140737488351232) (w2 : (Lit.int .i64 a2).wf = true) (w3 : (Lit.int .i64 a3).wf = true) (w4 : (Lit.int .i64 a4).wf = true) :
    Calls Try.prog 7 #[.int .i64 a0, .slice a1 len1 cap1, .int .i64 a2, .int .i64 a3, .int .i64 a4] w fun e w' => e = .returned (.bool true) ∧ Below w.heap.size w w' := by
  obtain ⟨l1, rfl, hr1, hm1, hw1, hc1⟩ := ReadsInt.ofRowC w1
  obtain ⟨k, h⟩ := P a0 l1 a2 a3 a4 w0 hm1 y1 hw1 w2 w3 w4
  refine (signalboxlaw14_BankComes.calls k a0 _ _ l1 a2 a3 a4 true w (Kd.C_of_reads (d := (0 : Int)) (h1 := fun _ => rfl) hr1) hc1 h).mono ?_
  rintro e w' ⟨rfl, hd⟩
  exact ⟨rfl, hd⟩

end Go.Proofs.Ytlngcnijlijplaa.PBank
