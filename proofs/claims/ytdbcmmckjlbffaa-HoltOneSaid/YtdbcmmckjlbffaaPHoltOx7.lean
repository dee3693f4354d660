-- Written by a program of this session (over the kit's printer): not typed by hand.
import Derived.Test.YtdbcmmckjlbffaaPHoltOx0
import Derived.Test.YtdbcmmckjlbffaaPHoltOx3
import Derived.Test.YtdbcmmckjlbffaaPHoltOx5
import Derived.Test.YtdbcmmckjlbffaaPHoltOx6
namespace Go.Proofs.Ytdbcmmckjlbffaa.PHoltO
open Go.RowKit Go.Proofs.YtdbcmmckjlbffaaW.PrintWords Go.Proofs.YtdbcmmckjlbffaaW.PrintLast Go.Proofs.YtdbcmmckjlbffaaW.PrintMore
attribute [local go_sem] max2_int min2_int max_two min_two max_three min_three max_four min_four   -- for this text's walks alone
set_option linter.unusedVariables false
set_option linter.unusedSimpArgs false

/-! ### signalboxlaw15_HoltOne: function 7 -/
mutual
def signalboxlaw15_HoltOne.j0 : Nat → Int → List Int → Int → Int → Bool → Option (Bool)
  | 0, _, _, _, _, _ => none
  | k + 1, x0, x1, x2, x3, x30 => if x30 = true then ((signalboxlaw15_awake.f k).bind fun t255 => (some t255)) else ((signalboxlaw15_state.f k x0 x1).bind fun bt256 => ((holt_Stuck.f k bt256.1 bt256.2.1 bt256.2.2).bind fun t265 => (if (t265.length : Int) > 0 then ((holt_Deadlocked.f k bt256.1 bt256.2.1 bt256.2.2 t265).bind fun t268 => (signalboxlaw15_HoltOne.j1 k x0 x2 x3 bt256.1 bt256.2.1 bt256.2.2 t265 (!t268))) else (signalboxlaw15_HoltOne.j1 k x0 x2 x3 bt256.1 bt256.2.1 bt256.2.2 t265 false))))
def signalboxlaw15_HoltOne.j1 : Nat → Int → Int → Int → List Int → List (List Int) → List (List Int) → List Int → Bool → Option (Bool)
  | 0, _, _, _, _, _, _, _, _ => none
  | k + 1, x0, x2, x3, x9, x10, x11, x12, x53 => if x53 = true then (some false) else ((signalboxlaw15_next.f (([x2] : List Int)) 0 x0).bind fun t272 => ((some (([] : List (List Int)) : List (List Int))).bind fun y273 => (if 0 ≤ t272 then (if t272 ≤ (x10.length : Int) then ((some (x10.drop (t272 : Int).toNat : List (List Int))).bind fun y276 => (if y273.length + y276.length < 5864062014805 then ((some (y273 ++ y276 : List (List Int))).bind fun y281 => ((some (x10.take (t272 : Int).toNat : List (List Int))).bind fun y284 => (if y281.length + y284.length < 5864062014805 then ((some (([] : List (List Int)) : List (List Int))).bind fun y292 => (if t272 ≤ (x11.length : Int) then ((some (x11.drop (t272 : Int).toNat : List (List Int))).bind fun y295 => (if y292.length + y295.length < 5864062014805 then ((some (y292 ++ y295 : List (List Int))).bind fun y300 => ((some (x11.take (t272 : Int).toNat : List (List Int))).bind fun y303 => (if y300.length + y303.length < 5864062014805 then ((holt_Stuck.f k x9 (y281 ++ y284) (y300 ++ y303)).bind fun t311 => (if (t311.length : Int) = (x12.length : Int) then (signalboxlaw15_HoltOne.l0 k x0 x3 x9 x10 x11 x12 t272 t311 0) else (none))) else (none)))) else (none))) else (none))) else (none)))) else (none))) else (none)) else (none))))
def signalboxlaw15_HoltOne.l0 : Nat → Int → Int → List Int → List (List Int) → List (List Int) → List Int → Int → List Int → Int → Option (Bool)
  | 0, _, _, _, _, _, _, _, _, _ => none
  | k + 1, x0, x3, x9, x10, x11, x12, x13, x16, x17 => if x17 < (x16.length : Int) then (if 0 ≤ x17 then (if x0 = 0 then (none) else ((signalboxref1_Has.f k x12 (Int.tmod (wrap64 ((rd x16 x17) + x13)) x0)).bind fun t315 => (if t315 = true then (signalboxlaw15_HoltOne.l0 k x0 x3 x9 x10 x11 x12 x13 x16 (wrap64 (x17 + 1))) else (some false)))) else (none)) else (if 0 < (x9.length : Int) then ((signalboxlaw15_next.f (([x3] : List Int)) 0 5).bind fun t320 => (if 1 < (x9.length : Int) then ((holt_Stuck.f k (([wrap64 ((rd x9 0) + t320), rd x9 1] : List Int)) x10 x11).bind fun t325 => (signalboxlaw15_HoltOne.l1 k x12 t325 0)) else (none))) else (none))
def signalboxlaw15_HoltOne.l1 : Nat → List Int → List Int → Int → Option (Bool)
  | 0, _, _, _ => none
  | k + 1, x12, x18, x19 => if x19 < (x18.length : Int) then (if 0 ≤ x19 then ((signalboxref1_Has.f k x12 (rd x18 x19)).bind fun t329 => (if t329 = true then (signalboxlaw15_HoltOne.l1 k x12 x18 (wrap64 (x19 + 1))) else (some false))) else (none)) else ((signalboxlaw15_awake.f k).bind fun t330 => (some t330))
end
def signalboxlaw15_HoltOne.f (k : Nat) (a0 : Int) (l1 : List Int) (a2 : Int) (a3 : Int) : Option (Bool) := if a0 < 1 then (signalboxlaw15_HoltOne.j0 k a0 l1 a2 a3 true) else (if a0 > 12 then (signalboxlaw15_HoltOne.j0 k a0 l1 a2 a3 true) else (signalboxlaw15_HoltOne.j0 k a0 l1 a2 a3 (decide ((l1.length : Int) > 100))))
theorem signalboxlaw15_HoltOne.mono_l : ∀ k, (∀ y0 y1 y2 y3 y4, LeO (signalboxlaw15_HoltOne.j0 k y0 y1 y2 y3 y4) (signalboxlaw15_HoltOne.j0 (k + 1) y0 y1 y2 y3 y4)) ∧ (∀ y0 y1 y2 y3 y4 y5 y6 y7, LeO (signalboxlaw15_HoltOne.j1 k y0 y1 y2 y3 y4 y5 y6 y7) (signalboxlaw15_HoltOne.j1 (k + 1) y0 y1 y2 y3 y4 y5 y6 y7)) ∧ (∀ y0 y1 y2 y3 y4 y5 y6 y7 y8, LeO (signalboxlaw15_HoltOne.l0 k y0 y1 y2 y3 y4 y5 y6 y7 y8) (signalboxlaw15_HoltOne.l0 (k + 1) y0 y1 y2 y3 y4 y5 y6 y7 y8)) ∧ (∀ y0 y1 y2, LeO (signalboxlaw15_HoltOne.l1 k y0 y1 y2) (signalboxlaw15_HoltOne.l1 (k + 1) y0 y1 y2))
  | 0 => ⟨fun _ _ _ _ _ r h => by simp [signalboxlaw15_HoltOne.j0] at h, fun _ _ _ _ _ _ _ _ r h => by simp [signalboxlaw15_HoltOne.j1] at h, fun _ _ _ _ _ _ _ _ _ r h => by simp [signalboxlaw15_HoltOne.l0] at h, fun _ _ _ r h => by simp [signalboxlaw15_HoltOne.l1] at h⟩
  | k + 1 => by
    obtain ⟨ih0, ih1, ih2, ih3⟩ := signalboxlaw15_HoltOne.mono_l k
    refine ⟨?_, ?_, ?_, ?_⟩
    · intro y0 y1 y2 y3 y4
      unfold signalboxlaw15_HoltOne.j0
      repeat' first
      | (with_reducible exact ih0 _ _ _ _ _)
      | (with_reducible exact ih1 _ _ _ _ _ _ _ _)
      | (with_reducible exact ih2 _ _ _ _ _ _ _ _ _)
      | (with_reducible exact ih3 _ _ _)
      | (with_reducible exact holt_Deadlocked.mono _ _ _ _ _)
      | (with_reducible exact holt_Stuck.mono _ _ _ _)
      | (with_reducible exact signalboxlaw15_awake.mono _)
      | (with_reducible exact signalboxlaw15_state.mono _ _ _)
      | (with_reducible exact signalboxref1_Has.mono _ _ _)
      | (with_reducible exact LeO.refl _)
      | (with_reducible exact LeO.none _)
      | (with_reducible refine LeO.ite ?_ ?_)
      | (with_reducible refine LeO.bind ?_ (fun _ => ?_))
      | exact ih0 _ _ _ _ _
      | exact ih1 _ _ _ _ _ _ _ _
      | exact ih2 _ _ _ _ _ _ _ _ _
      | exact ih3 _ _ _
      | exact holt_Deadlocked.mono _ _ _ _ _
      | exact holt_Stuck.mono _ _ _ _
      | exact signalboxlaw15_awake.mono _
      | exact signalboxlaw15_state.mono _ _ _
      | exact signalboxref1_Has.mono _ _ _
      | exact LeO.none _
      | refine LeO.ite ?_ ?_
      | refine LeO.bind ?_ (fun _ => ?_)
    · intro y0 y1 y2 y3 y4 y5 y6 y7
      unfold signalboxlaw15_HoltOne.j1
      repeat' first
      | (with_reducible exact ih0 _ _ _ _ _)
      | (with_reducible exact ih1 _ _ _ _ _ _ _ _)
      | (with_reducible exact ih2 _ _ _ _ _ _ _ _ _)
      | (with_reducible exact ih3 _ _ _)
      | (with_reducible exact holt_Deadlocked.mono _ _ _ _ _)
      | (with_reducible exact holt_Stuck.mono _ _ _ _)
      | (with_reducible exact signalboxlaw15_awake.mono _)
      | (with_reducible exact signalboxlaw15_state.mono _ _ _)
      | (with_reducible exact signalboxref1_Has.mono _ _ _)
      | (with_reducible exact LeO.refl _)
      | (with_reducible exact LeO.none _)
      | (with_reducible refine LeO.ite ?_ ?_)
      | (with_reducible refine LeO.bind ?_ (fun _ => ?_))
      | exact ih0 _ _ _ _ _
      | exact ih1 _ _ _ _ _ _ _ _
      | exact ih2 _ _ _ _ _ _ _ _ _
      | exact ih3 _ _ _
      | exact holt_Deadlocked.mono _ _ _ _ _
      | exact holt_Stuck.mono _ _ _ _
      | exact signalboxlaw15_awake.mono _
      | exact signalboxlaw15_state.mono _ _ _
      | exact signalboxref1_Has.mono _ _ _
      | exact LeO.none _
      | refine LeO.ite ?_ ?_
      | refine LeO.bind ?_ (fun _ => ?_)
    · intro y0 y1 y2 y3 y4 y5 y6 y7 y8
      unfold signalboxlaw15_HoltOne.l0
      repeat' first
      | (with_reducible exact ih0 _ _ _ _ _)
      | (with_reducible exact ih1 _ _ _ _ _ _ _ _)
      | (with_reducible exact ih2 _ _ _ _ _ _ _ _ _)
      | (with_reducible exact ih3 _ _ _)
      | (with_reducible exact holt_Deadlocked.mono _ _ _ _ _)
      | (with_reducible exact holt_Stuck.mono _ _ _ _)
      | (with_reducible exact signalboxlaw15_awake.mono _)
      | (with_reducible exact signalboxlaw15_state.mono _ _ _)
      | (with_reducible exact signalboxref1_Has.mono _ _ _)
      | (with_reducible exact LeO.refl _)
      | (with_reducible exact LeO.none _)
      | (with_reducible refine LeO.ite ?_ ?_)
      | (with_reducible refine LeO.bind ?_ (fun _ => ?_))
      | exact ih0 _ _ _ _ _
      | exact ih1 _ _ _ _ _ _ _ _
      | exact ih2 _ _ _ _ _ _ _ _ _
      | exact ih3 _ _ _
      | exact holt_Deadlocked.mono _ _ _ _ _
      | exact holt_Stuck.mono _ _ _ _
      | exact signalboxlaw15_awake.mono _
      | exact signalboxlaw15_state.mono _ _ _
      | exact signalboxref1_Has.mono _ _ _
      | exact LeO.none _
      | refine LeO.ite ?_ ?_
      | refine LeO.bind ?_ (fun _ => ?_)
    · intro y0 y1 y2
      unfold signalboxlaw15_HoltOne.l1
      repeat' first
      | (with_reducible exact ih0 _ _ _ _ _)
      | (with_reducible exact ih1 _ _ _ _ _ _ _ _)
      | (with_reducible exact ih2 _ _ _ _ _ _ _ _ _)
      | (with_reducible exact ih3 _ _ _)
      | (with_reducible exact holt_Deadlocked.mono _ _ _ _ _)
      | (with_reducible exact holt_Stuck.mono _ _ _ _)
      | (with_reducible exact signalboxlaw15_awake.mono _)
      | (with_reducible exact signalboxlaw15_state.mono _ _ _)
      | (with_reducible exact signalboxref1_Has.mono _ _ _)
      | (with_reducible exact LeO.refl _)
      | (with_reducible exact LeO.none _)
      | (with_reducible refine LeO.ite ?_ ?_)
      | (with_reducible refine LeO.bind ?_ (fun _ => ?_))
      | exact ih0 _ _ _ _ _
      | exact ih1 _ _ _ _ _ _ _ _
      | exact ih2 _ _ _ _ _ _ _ _ _
      | exact ih3 _ _ _
      | exact holt_Deadlocked.mono _ _ _ _ _
      | exact holt_Stuck.mono _ _ _ _
      | exact signalboxlaw15_awake.mono _
      | exact signalboxlaw15_state.mono _ _ _
      | exact signalboxref1_Has.mono _ _ _
      | exact LeO.none _
      | refine LeO.ite ?_ ?_
      | refine LeO.bind ?_ (fun _ => ?_)
theorem signalboxlaw15_HoltOne.mono : ∀ a0 a1 a2 a3 k, LeO (signalboxlaw15_HoltOne.f k a0 a1 a2 a3) (signalboxlaw15_HoltOne.f (k + 1) a0 a1 a2 a3) := by
  intro a0 a1 a2 a3 k
  obtain ⟨ih0, ih1, ih2, ih3⟩ := signalboxlaw15_HoltOne.mono_l k
  unfold signalboxlaw15_HoltOne.f
  repeat' first
      | (with_reducible exact ih0 _ _ _ _ _)
      | (with_reducible exact ih1 _ _ _ _ _ _ _ _)
      | (with_reducible exact ih2 _ _ _ _ _ _ _ _ _)
      | (with_reducible exact ih3 _ _ _)
      | (with_reducible exact holt_Deadlocked.mono _ _ _ _ _)
      | (with_reducible exact holt_Stuck.mono _ _ _ _)
      | (with_reducible exact signalboxlaw15_awake.mono _)
      | (with_reducible exact signalboxlaw15_state.mono _ _ _)
      | (with_reducible exact signalboxref1_Has.mono _ _ _)
      | (with_reducible exact LeO.refl _)
      | (with_reducible exact LeO.none _)
      | (with_reducible refine LeO.ite ?_ ?_)
      | (with_reducible refine LeO.bind ?_ (fun _ => ?_))
      | exact ih0 _ _ _ _ _
      | exact ih1 _ _ _ _ _ _ _ _
      | exact ih2 _ _ _ _ _ _ _ _ _
      | exact ih3 _ _ _
      | exact holt_Deadlocked.mono _ _ _ _ _
      | exact holt_Stuck.mono _ _ _ _
      | exact signalboxlaw15_awake.mono _
      | exact signalboxlaw15_state.mono _ _ _
      | exact signalboxref1_Has.mono _ _ _
      | exact LeO.none _
      | refine LeO.ite ?_ ?_
      | refine LeO.bind ?_ (fun _ => ?_)
def signalboxlaw15_HoltOne.T8 : Bool × List (List Nat × List Nat) := (true, [([], []), ([], []), ([], []), ([1, 2], [1, 2]), ([0, 3], [0, 3]), ([], []), ([], []), ([5, 6], [5, 6]), ([4, 7, 4], [4, 7]), ([], []), ([], []), ([], []), ([10, 11], [10, 11]), ([9, 12, 8], [9, 12]), ([], []), ([], []), ([14, 15], [14, 15]), ([13, 16, 13], [13, 16]), ([8, 17, 0, 1, 2, 3, 4, 5, 6, 7, 8], [8]), ([17, 18, 0, 1, 2, 3, 4, 5, 6, 7, 8, 9, 10, 11, 12, 13, 14, 15, 16, 17, 18], [17])])
def signalboxlaw15_HoltOne.B8 : List Nat := [0, 0, 0, 6, 15, 0, 0, 96, 255, 0, 0, 0, 3072, 8191, 0, 0, 49152, 131071, 262143, 524287]
theorem signalboxlaw15_HoltOne.tab8 : rtab .any (opsOf Try.f7 8) = signalboxlaw15_HoltOne.T8 := by kernel_rfl
theorem signalboxlaw15_HoltOne.bits8 : waitsOk signalboxlaw15_HoltOne.T8.2 signalboxlaw15_HoltOne.B8 = true := by kernel_rfl
def signalboxlaw15_HoltOne.T17 : Bool × List (List Nat × List Nat) := (true, [([], []), ([0], [0]), ([1], [1]), ([], []), ([3], [3]), ([4], [4]), ([2, 5], [2, 5]), ([], []), ([7], [7]), ([8], [8]), ([6, 9], [6, 9]), ([], []), ([], []), ([10, 11, 12, 5], [10, 11, 12]), ([13, 13, 0, 1, 2, 3, 4, 5, 6, 7, 8, 9, 10, 11, 12, 13], [13])])
def signalboxlaw15_HoltOne.B17 : List Nat := [0, 1, 3, 0, 8, 24, 63, 0, 128, 384, 1023, 0, 0, 8191, 16383]
theorem signalboxlaw15_HoltOne.tab17 : rtab .any (opsOf Try.f7 17) = signalboxlaw15_HoltOne.T17 := by kernel_rfl
theorem signalboxlaw15_HoltOne.bits17 : waitsOk signalboxlaw15_HoltOne.T17.2 signalboxlaw15_HoltOne.B17 = true := by kernel_rfl
set_option maxHeartbeats 8000000 in
set_option maxRecDepth 100000 in
theorem signalboxlaw15_HoltOne.calls (k : Nat) (a0 : Int) (A1 : Option Addr) (c1 : Nat) (l1 : List Int) (a2 : Int) (a3 : Int) (r : Bool) (w : World) (hr1 : Kd.C (Kd.int .i64) w A1 l1.length l1) (hc1 : l1.length ≤ c1) (h : signalboxlaw15_HoltOne.f k a0 l1 a2 a3 = some r) :
    Calls Try.prog 7 #[.int .i64 a0, .slice A1 l1.length c1, .int .i64 a2, .int .i64 a3] w fun e w' => e = .returned (.bool r) ∧ Below w.heap.size w w' := by
  have HR1 := Aside0.mk hr1
  have HC1 := Aside0.mk hc1
  clear hr1 hc1
  have HB := Aside0.mk (Below.refl w.heap.size w)
  have H : (if a0 < 1 then (signalboxlaw15_HoltOne.j0 k a0 l1 a2 a3 true) else (if a0 > 12 then (signalboxlaw15_HoltOne.j0 k a0 l1 a2 a3 true) else (signalboxlaw15_HoltOne.j0 k a0 l1 a2 a3 (decide ((l1.length : Int) > 100))))) = some r := h
  clear h
  have HC5 := Aside0.mk H
  clear H
  go_enter Try.func7, Try.ntmps7
  go_upto_region 1 with (fail)
  go_cut [30] (fun v30 wc => ∃ (kq : Nat) (x30_4 : Bool), v30 = .bool x30_4 ∧ Aside0 (signalboxlaw15_HoltOne.j0 kq a0 l1 a2 a3 x30_4 = some r) ∧ Aside0 (kq ≤ k) ∧ Aside0 (Below w.heap.size w wc))
  case first =>
    have H := HC5.out
    clear HC5
    by_cases c6 : a0 < 1
    · rw [if_pos c6] at H
      have c6b0 : decide (a0 < 1) = true := decide_eq_true c6
      clear c6
      (first | rw [c6b0] | (simp only [i64_w, i32_w]; rw [c6b0]) | skip)
      have H' := Aside0.mk H
      clear H
      go_wp2
      go_meet
      case rel => exact ⟨_, (true), (by first | rfl | (simp; done) | (simp [*]; done)), H', ⟨by first | omega | exact Nat.le_refl _⟩, ⟨by repeat (first | (with_reducible first | exact HB.out | apply below_alloc | apply pw_below_drewN | apply below_drew1) | exact HB.out)⟩⟩
    · rw [if_neg c6] at H
      have c6b0 : decide (a0 < 1) = false := decide_eq_false c6
      clear c6
      (first | rw [c6b0] | (simp only [i64_w, i32_w]; rw [c6b0]) | skip)
      by_cases c7 : a0 > 12
      · rw [if_pos c7] at H
        have c7b0 : decide (12 < a0) = true := decide_eq_true c7
        clear c7
        have H' := Aside0.mk H
        clear H
        go_wp2
        go_meet
        case rel => exact ⟨_, (true), (by first | rfl | (simp; done) | (simp [*]; done)), H', ⟨by first | omega | exact Nat.le_refl _⟩, ⟨by repeat (first | (with_reducible first | exact HB.out | apply below_alloc | apply pw_below_drewN | apply below_drew1) | exact HB.out)⟩⟩
      · rw [if_neg c7] at H
        have c7b0 : decide (12 < a0) = false := decide_eq_false c7
        clear c7
        have H' := Aside0.mk H
        clear H
        go_wp2
        go_meet
        case rel => exact ⟨_, (decide ((l1.length : Int) > 100)), (by first | rfl | (simp; done) | (simp [*]; done)), H', ⟨by first | omega | exact Nat.le_refl _⟩, ⟨by repeat (first | (with_reducible first | exact HB.out | apply below_alloc | apply pw_below_drewN | apply below_drew1) | exact HB.out)⟩⟩
  case rest =>
    clear HC5
    try clear c1
    try clear p2
    try clear c6
    try clear c6b0
    try clear c7
    try clear c7b0
    obtain ⟨kq, x30_4, rfl, HA, HJ4, HB⟩ := hcut
    cases kq with
    | zero => exact absurd HA.out (by simp [signalboxlaw15_HoltOne.j0])
    | succ kj4 =>
      have H := HA.out
      clear HA
      simp only [signalboxlaw15_HoltOne.j0] at H
      by_cases c8 : x30_4 = true
      · subst c8
        have H1 : ((signalboxlaw15_awake.f kj4).bind fun t255 => (some t255)) = some r := by rw [if_pos rfl] at H; exact H
        clear H
        have H := H1
        clear H1
        replace H := Option.bind_eq_some_iff.mp H
        obtain ⟨t255, A90, H⟩ := H
        replace H : (some t255) = some r := H
        have A9 := Aside0.mk A90
        clear A90
        obtain rfl := Option.some.inj H
        go_wp2_with (first | ((with_reducible refine gate_callee (f := 9) rfl ?_); refine goesL_ (some 31) rfl rfl Try.func9 (by kernel_rfl) rfl #[] rfl (by (try simp only [List.map_toArray, List.map_cons, List.map_nil]); first | done | rfl | (simp only [List.length_drop, List.length_take]; rfl)) ?_; (with_reducible refine (signalboxlaw15_awake.calls kj4  t255 _ A9.out).mono ?_); rintro e w10 ⟨rfl, hb⟩; refine ⟨_, rfl, ?_⟩; have n0_ := Aside0.mk (below_step (by repeat (first | (with_reducible first | exact HB.out | apply below_alloc | apply pw_below_drewN | apply below_drew1) | exact HB.out)) hb); clear HB; have HB := n0_; clear n0_; (try clear hb); (try clear hb2); (try clear hk); (try clear hi)))
        go_ret
        exact ⟨by first | rfl | (simp [errW_none, errW_some] <;> rfl) | (simp [*, errW_none, errW_some] <;> rfl), by repeat (first | (with_reducible first | exact HB.out | apply below_alloc | apply pw_below_drewN | apply below_drew1) | exact HB.out)⟩
      · replace c8 := Bool.eq_false_iff.mpr c8
        subst c8
        have H1 : ((signalboxlaw15_state.f kj4 a0 l1).bind fun bt256 => ((holt_Stuck.f kj4 bt256.1 bt256.2.1 bt256.2.2).bind fun t265 => (if (t265.length : Int) > 0 then ((holt_Deadlocked.f kj4 bt256.1 bt256.2.1 bt256.2.2 t265).bind fun t268 => (signalboxlaw15_HoltOne.j1 kj4 a0 a2 a3 bt256.1 bt256.2.1 bt256.2.2 t265 (!t268))) else (signalboxlaw15_HoltOne.j1 kj4 a0 a2 a3 bt256.1 bt256.2.1 bt256.2.2 t265 false)))) = some r := by rw [if_neg (show ¬ (false = true) by decide)] at H; exact H
        clear H
        have H := H1
        clear H1
        replace H := Option.bind_eq_some_iff.mp H
        obtain ⟨⟨t256, t257, t258⟩, A110, H⟩ := H
        replace H : ((holt_Stuck.f kj4 t256 t257 t258).bind fun t265 => (if (t265.length : Int) > 0 then ((holt_Deadlocked.f kj4 t256 t257 t258 t265).bind fun t268 => (signalboxlaw15_HoltOne.j1 kj4 a0 a2 a3 t256 t257 t258 t265 (!t268))) else (signalboxlaw15_HoltOne.j1 kj4 a0 a2 a3 t256 t257 t258 t265 false))) = some r := H
        have A11 := Aside0.mk A110
        clear A110
        replace H := Option.bind_eq_some_iff.mp H
        obtain ⟨t265, A120, H⟩ := H
        replace H : (if (t265.length : Int) > 0 then ((holt_Deadlocked.f kj4 t256 t257 t258 t265).bind fun t268 => (signalboxlaw15_HoltOne.j1 kj4 a0 a2 a3 t256 t257 t258 t265 (!t268))) else (signalboxlaw15_HoltOne.j1 kj4 a0 a2 a3 t256 t257 t258 t265 false)) = some r := H
        have A12 := Aside0.mk A120
        clear A120
        have HC13 := Aside0.mk H
        clear H
        go_upto_region 5 with (first | ((with_reducible refine gate_callee (f := 15) rfl ?_); refine goesL_ (some 35) rfl rfl Try.func15 (by kernel_rfl) rfl #[.int .i64 a0, .slice A1 l1.length c1] rfl (by (try simp only [List.map_toArray, List.map_cons, List.map_nil]); first | done | rfl | (simp only [List.length_drop, List.length_take]; rfl)) ?_; (with_reducible refine (signalboxlaw15_state.calls kj4 a0 _ _ l1 t256 t257 t258 _ ?side1 ?side2 A11.out).mono ?_); (case side1 => repeat (first | exact (Kd.C_below HR1.out HB.out) | (with_reducible refine Kd.C_alloc ?_ _) | (with_reducible refine Kd.C_drewN ?_ _) | (with_reducible refine Kd.C_drew ?_))); (case side2 => exact HC1.out); rintro e w14 ⟨v259, v261, v263, rfl, ho0, ho1, ho2, hb⟩; refine ⟨_, rfl, ?_⟩; have n0_ := Aside0.mk (Kd.R_lower ho0 (below_size (by repeat (first | (with_reducible first | exact HB.out | apply below_alloc | apply pw_below_drewN | apply below_drew1) | exact HB.out)))); have n1_ := Aside0.mk (Kd.N_lower (Kd.N_mono (ok' := fun k_ => some k_ ≠ (v259 : Value).ownBlock ∧ some k_ ≠ (v263 : Value).ownBlock) (Kd.S_N (Kd.S_bound ho1)) (fun k_ hk_ => ⟨hk_.1.1, hk_.1.2⟩)) (below_size (by repeat (first | (with_reducible first | exact HB.out | apply below_alloc | apply pw_below_drewN | apply below_drew1) | exact HB.out)))); have n2_ := Aside0.mk (Kd.N_lower (Kd.N_mono (ok' := fun k_ => some k_ ≠ (v259 : Value).ownBlock ∧ some k_ ≠ (v261 : Value).ownBlock) (Kd.S_N (Kd.S_bound ho2)) (fun k_ hk_ => ⟨hk_.1.1, hk_.1.2⟩)) (below_size (by repeat (first | (with_reducible first | exact HB.out | apply below_alloc | apply pw_below_drewN | apply below_drew1) | exact HB.out)))); have n3_ := Aside0.mk (below_step (by repeat (first | (with_reducible first | exact HB.out | apply below_alloc | apply pw_below_drewN | apply below_drew1) | exact HB.out)) hb); clear HB; have HO260 := n0_; have HO262 := n1_; have HO264 := n2_; have HB := n3_; clear n0_ n1_ n2_ n3_; (try clear hb); (try clear hb2); (try clear hk); (try clear hi); (try clear ho0); (try clear ho1); (try clear ho2); obtain ⟨Ao15, co15, eo15⟩ := Kd.R_slice HO260.out; subst eo15; obtain ⟨Ao16, co16, eo16⟩ := Kd.N_slice HO262.out; subst eo16; obtain ⟨Ao17, co17, eo17⟩ := Kd.N_slice HO264.out; subst eo17) | ((with_reducible refine gate_callee (f := 13) rfl ?_); refine goesL_ (some 42) rfl rfl Try.func13 (by kernel_rfl) rfl #[.slice Ao15 t256.length co15, .slice Ao16 t257.length co16, .slice Ao17 t258.length co17] rfl (by (try simp only [List.map_toArray, List.map_cons, List.map_nil]); first | done | rfl | (simp only [List.length_drop, List.length_take]; rfl)) ?_; (with_reducible refine (holt_Stuck.calls kj4 _ _ t256 _ _ t257 _ _ t258 t265 _ ?side1 ?side2 ?side3 ?side4 ?side5 ?side6 A12.out).mono ?_); (case side1 => repeat (first | exact (Kd.R_reads' HO260.out).2.2 | (with_reducible refine Kd.C_alloc ?_ _) | (with_reducible refine Kd.C_drewN ?_ _) | (with_reducible refine Kd.C_drew ?_))); (case side2 => exact (Kd.R_reads' HO260.out).2.1); (case side3 => repeat (first | exact (Kd.N_reads' HO262.out).2.2 | (with_reducible refine Kd.C_alloc ?_ _) | (with_reducible refine Kd.C_drewN ?_ _) | (with_reducible refine Kd.C_drew ?_))); (case side4 => exact (Kd.N_reads' HO262.out).2.1); (case side5 => repeat (first | exact (Kd.N_reads' HO264.out).2.2 | (with_reducible refine Kd.C_alloc ?_ _) | (with_reducible refine Kd.C_drewN ?_ _) | (with_reducible refine Kd.C_drew ?_))); (case side6 => exact (Kd.N_reads' HO264.out).2.1); rintro e w18 ⟨v266, rfl, ho0, hb⟩; refine ⟨_, rfl, ?_⟩; have n0_ := Aside0.mk (Kd.R_elder' (by (with_reducible repeat (first | apply Kd.R_alloc | apply Kd.R_drewN | apply Kd.R_drew)); exact HO260.out) (Kd.R_base ho0) hb); have n1_ := Aside0.mk (Kd.N_elder' (by (with_reducible repeat (first | apply Kd.N_alloc | apply Kd.N_drewN | apply Kd.N_drew)); exact HO262.out) (Kd.R_base ho0) hb); have n2_ := Aside0.mk (Kd.N_elder' (by (with_reducible repeat (first | apply Kd.N_alloc | apply Kd.N_drewN | apply Kd.N_drew)); exact HO264.out) (Kd.R_base ho0) hb); have n3_ := Aside0.mk (Kd.R_lower (Kd.R_new' ho0 (Kd.R_lt (by (with_reducible repeat (first | apply Kd.R_alloc | apply Kd.R_drewN | apply Kd.R_drew)); exact HO260.out))) (below_size (by repeat (first | (with_reducible first | exact HB.out | apply below_alloc | apply pw_below_drewN | apply below_drew1) | exact HB.out)))); have n4_ := Aside0.mk (below_step (by repeat (first | (with_reducible first | exact HB.out | apply below_alloc | apply pw_below_drewN | apply below_drew1) | exact HB.out)) hb); clear HO260; clear HO262; clear HO264; clear HB; have HO260 := n0_; have HO262 := n1_; have HO264 := n2_; have HO267 := n3_; have HB := n4_; clear n0_ n1_ n2_ n3_ n4_; (try clear hb); (try clear hb2); (try clear hk); (try clear hi); (try clear ho0)))
        (try simp only [Act.put, List.setIfInBounds_toArray, List.set_cons_zero, List.set_cons_succ])
        go_cut [53] (fun v53 wc => ∃ (kq : Nat) (x53_12 : Bool), v53 = .bool x53_12 ∧ Aside0 (signalboxlaw15_HoltOne.j1 kq a0 a2 a3 t256 t257 t258 t265 x53_12 = some r) ∧ Aside0 (kq ≤ kj4) ∧ Aside0 (Kd.R (Kd.int .i64) 3 wc w.heap.size (fun k_ => some k_ ≠ (v266 : Value).ownBlock) (.slice Ao15 t256.length co15) t256) ∧ Aside0 (Kd.N (Kd.slice 3 (Kd.int .i64)) 22 wc w.heap.size (fun k_ => some k_ ≠ ((.slice Ao15 t256.length co15) : Value).ownBlock ∧ some k_ ≠ ((.slice Ao17 t258.length co17) : Value).ownBlock ∧ some k_ ≠ (v266 : Value).ownBlock) (.slice Ao16 t257.length co16) t257) ∧ Aside0 (Kd.N (Kd.slice 3 (Kd.int .i64)) 22 wc w.heap.size (fun k_ => some k_ ≠ ((.slice Ao15 t256.length co15) : Value).ownBlock ∧ some k_ ≠ ((.slice Ao16 t257.length co16) : Value).ownBlock ∧ some k_ ≠ (v266 : Value).ownBlock) (.slice Ao17 t258.length co17) t258) ∧ Aside0 (Kd.R (Kd.int .i64) 3 wc w.heap.size (fun k_ => some k_ ≠ ((.slice Ao15 t256.length co15) : Value).ownBlock) v266 t265) ∧ Aside0 (Below w.heap.size w wc))
        case first =>
          have H := HC13.out
          clear HC13
          by_cases c19 : (t265.length : Int) > 0
          · rw [if_pos c19] at H
            have c19b0 : decide (0 < (t265.length : Int)) = true := decide_eq_true c19
            have c19b1 : decide (0 < t265.length) = true := decide_eq_true (by omega)
            clear c19
            (first | rw [c19b0] | (simp only [i64_w, i32_w]; rw [c19b0]) | skip)
            replace H := Option.bind_eq_some_iff.mp H
            obtain ⟨t268, A200, H⟩ := H
            replace H : (signalboxlaw15_HoltOne.j1 kj4 a0 a2 a3 t256 t257 t258 t265 (!t268)) = some r := H
            have A20 := Aside0.mk A200
            clear A200
            have H' := Aside0.mk H
            clear H
            obtain ⟨Ao21, co21, eo21⟩ := Kd.R_slice HO267.out
            subst eo21
            go_wp2_with (first | (go_at_call 16; (with_reducible refine (holt_Deadlocked.calls kj4 _ _ t256 _ _ t257 _ _ t258 _ _ t265 t268 _ ?side1 ?side2 ?side3 ?side4 ?side5 ?side6 ?side7 ?side8 A20.out).mono ?_); (case side1 => repeat (first | exact (Kd.R_reads' HO260.out).2.2 | (with_reducible refine Kd.C_alloc ?_ _) | (with_reducible refine Kd.C_drewN ?_ _) | (with_reducible refine Kd.C_drew ?_))); (case side2 => exact (Kd.R_reads' HO260.out).2.1); (case side3 => repeat (first | exact (Kd.N_reads' HO262.out).2.2 | (with_reducible refine Kd.C_alloc ?_ _) | (with_reducible refine Kd.C_drewN ?_ _) | (with_reducible refine Kd.C_drew ?_))); (case side4 => exact (Kd.N_reads' HO262.out).2.1); (case side5 => repeat (first | exact (Kd.N_reads' HO264.out).2.2 | (with_reducible refine Kd.C_alloc ?_ _) | (with_reducible refine Kd.C_drewN ?_ _) | (with_reducible refine Kd.C_drew ?_))); (case side6 => exact (Kd.N_reads' HO264.out).2.1); (case side7 => repeat (first | exact (Kd.R_reads' HO267.out).2.2 | (with_reducible refine Kd.C_alloc ?_ _) | (with_reducible refine Kd.C_drewN ?_ _) | (with_reducible refine Kd.C_drew ?_))); (case side8 => exact (Kd.R_reads' HO267.out).2.1); rintro e w22 ⟨rfl, hb⟩; have n0_ := Aside0.mk (Kd.R_below (by (with_reducible repeat (first | apply Kd.R_alloc | apply Kd.R_drewN | apply Kd.R_drew)); exact HO260.out) hb); have n1_ := Aside0.mk (Kd.N_below (by (with_reducible repeat (first | apply Kd.N_alloc | apply Kd.N_drewN | apply Kd.N_drew)); exact HO262.out) hb); have n2_ := Aside0.mk (Kd.N_below (by (with_reducible repeat (first | apply Kd.N_alloc | apply Kd.N_drewN | apply Kd.N_drew)); exact HO264.out) hb); have n3_ := Aside0.mk (Kd.R_below (by (with_reducible repeat (first | apply Kd.R_alloc | apply Kd.R_drewN | apply Kd.R_drew)); exact HO267.out) hb); have n4_ := Aside0.mk (below_step (by repeat (first | (with_reducible first | exact HB.out | apply below_alloc | apply pw_below_drewN | apply below_drew1) | exact HB.out)) hb); clear HO260; clear HO262; clear HO264; clear HO267; clear HB; have HO260 := n0_; have HO262 := n1_; have HO264 := n2_; have HO267 := n3_; have HB := n4_; clear n0_ n1_ n2_ n3_ n4_; (try clear hb); (try clear hb2); (try clear hk); (try clear hi)))
            go_meet
            case rel => exact ⟨_, (!t268), (by first | rfl | (simp; done) | (simp [*]; done)), H', ⟨by have := HJ4.out; first | omega | exact Nat.le_refl _⟩, ⟨by (with_reducible repeat (first | apply Kd.R_alloc | apply Kd.R_drewN | apply Kd.R_drew)); exact Kd.R_mono HO260.out (fun _ hk => hk.2)⟩, ⟨by (with_reducible repeat (first | apply Kd.N_alloc | apply Kd.N_drewN | apply Kd.N_drew)); exact Kd.N_mono HO262.out (fun _ hk => by first | exact ⟨hk.1.1, ⟨hk.1.2, hk.2⟩⟩ | simp only [hk, ne_eq, not_false_eq_true, and_self])⟩, ⟨by (with_reducible repeat (first | apply Kd.N_alloc | apply Kd.N_drewN | apply Kd.N_drew)); exact Kd.N_mono HO264.out (fun _ hk => by first | exact ⟨hk.1.1, ⟨hk.1.2, hk.2⟩⟩ | simp only [hk, ne_eq, not_false_eq_true, and_self])⟩, ⟨by (with_reducible repeat (first | apply Kd.R_alloc | apply Kd.R_drewN | apply Kd.R_drew)); exact Kd.R_mono HO267.out (fun _ hk => hk.2)⟩, ⟨by repeat (first | (with_reducible first | exact HB.out | apply below_alloc | apply pw_below_drewN | apply below_drew1) | exact HB.out)⟩⟩
          · rw [if_neg c19] at H
            have c19b0 : decide (0 < (t265.length : Int)) = false := decide_eq_false c19
            have c19b1 : decide (0 < t265.length) = false := decide_eq_false (by omega)
            clear c19
            (first | rw [c19b0] | (simp only [i64_w, i32_w]; rw [c19b0]) | skip)
            have H' := Aside0.mk H
            clear H
            obtain ⟨Ao23, co23, eo23⟩ := Kd.R_slice HO267.out
            subst eo23
            go_wp2
            go_meet
            case rel => exact ⟨_, (false), (by first | rfl | (simp; done) | (simp [*]; done)), H', ⟨by have := HJ4.out; first | omega | exact Nat.le_refl _⟩, ⟨by (with_reducible repeat (first | apply Kd.R_alloc | apply Kd.R_drewN | apply Kd.R_drew)); exact Kd.R_mono HO260.out (fun _ hk => hk.2)⟩, ⟨by (with_reducible repeat (first | apply Kd.N_alloc | apply Kd.N_drewN | apply Kd.N_drew)); exact Kd.N_mono HO262.out (fun _ hk => by first | exact ⟨hk.1.1, ⟨hk.1.2, hk.2⟩⟩ | simp only [hk, ne_eq, not_false_eq_true, and_self])⟩, ⟨by (with_reducible repeat (first | apply Kd.N_alloc | apply Kd.N_drewN | apply Kd.N_drew)); exact Kd.N_mono HO264.out (fun _ hk => by first | exact ⟨hk.1.1, ⟨hk.1.2, hk.2⟩⟩ | simp only [hk, ne_eq, not_false_eq_true, and_self])⟩, ⟨by (with_reducible repeat (first | apply Kd.R_alloc | apply Kd.R_drewN | apply Kd.R_drew)); exact Kd.R_mono HO267.out (fun _ hk => hk.2)⟩, ⟨by repeat (first | (with_reducible first | exact HB.out | apply below_alloc | apply pw_below_drewN | apply below_drew1) | exact HB.out)⟩⟩
        case rest =>
          clear HC13
          try clear c1
          try clear p2
          try clear c6
          try clear c6b0
          try clear c7
          try clear c7b0
          try clear c8
          try clear c9
          try clear c13
          try clear c15
          try clear c19
          try clear c19b0
          try clear c19b1
          try clear p2
          obtain ⟨kq, x53_12, rfl, HA, HJ12, HO_9, HO_10, HO_11, HO_12, HB⟩ := hcut
          cases kq with
          | zero => exact absurd HA.out (by simp [signalboxlaw15_HoltOne.j1])
          | succ kj12 =>
            have H := HA.out
            clear HA
            simp only [signalboxlaw15_HoltOne.j1] at H
            by_cases c24 : x53_12 = true
            · subst c24
              have H1 : (some false) = some r := by rw [if_pos rfl] at H; exact H
              clear H
              have H := H1
              clear H1
              obtain rfl := Option.some.inj H
              go_wp2
              go_ret
              exact ⟨by first | rfl | (simp [errW_none, errW_some] <;> rfl) | (simp [*, errW_none, errW_some] <;> rfl), by repeat (first | (with_reducible first | exact HB.out | apply below_alloc | apply pw_below_drewN | apply below_drew1) | exact HB.out)⟩
            · replace c24 := Bool.eq_false_iff.mpr c24
              subst c24
              have H1 : ((signalboxlaw15_next.f (([a2] : List Int)) 0 a0).bind fun t272 => ((some (([] : List (List Int)) : List (List Int))).bind fun y273 => (if 0 ≤ t272 then (if t272 ≤ (t257.length : Int) then ((some (t257.drop (t272 : Int).toNat : List (List Int))).bind fun y276 => (if y273.length + y276.length < 5864062014805 then ((some (y273 ++ y276 : List (List Int))).bind fun y281 => ((some (t257.take (t272 : Int).toNat : List (List Int))).bind fun y284 => (if y281.length + y284.length < 5864062014805 then ((some (([] : List (List Int)) : List (List Int))).bind fun y292 => (if t272 ≤ (t258.length : Int) then ((some (t258.drop (t272 : Int).toNat : List (List Int))).bind fun y295 => (if y292.length + y295.length < 5864062014805 then ((some (y292 ++ y295 : List (List Int))).bind fun y300 => ((some (t258.take (t272 : Int).toNat : List (List Int))).bind fun y303 => (if y300.length + y303.length < 5864062014805 then ((holt_Stuck.f kj12 t256 (y281 ++ y284) (y300 ++ y303)).bind fun t311 => (if (t311.length : Int) = (t265.length : Int) then (signalboxlaw15_HoltOne.l0 kj12 a0 a3 t256 t257 t258 t265 t272 t311 0) else (none))) else (none)))) else (none))) else (none))) else (none)))) else (none))) else (none)) else (none)))) = some r := by rw [if_neg (show ¬ (false = true) by decide)] at H; exact H
              clear H
              have H := H1
              clear H1
              obtain ⟨y269, hy269⟩ : ∃ y_ : List Int, y_ = (([a2] : List Int)) := ⟨_, rfl⟩
              replace H : ((signalboxlaw15_next.f y269 0 a0).bind fun t272 => ((some (([] : List (List Int)) : List (List Int))).bind fun y273 => (if 0 ≤ t272 then (if t272 ≤ (t257.length : Int) then ((some (t257.drop (t272 : Int).toNat : List (List Int))).bind fun y276 => (if y273.length + y276.length < 5864062014805 then ((some (y273 ++ y276 : List (List Int))).bind fun y281 => ((some (t257.take (t272 : Int).toNat : List (List Int))).bind fun y284 => (if y281.length + y284.length < 5864062014805 then ((some (([] : List (List Int)) : List (List Int))).bind fun y292 => (if t272 ≤ (t258.length : Int) then ((some (t258.drop (t272 : Int).toNat : List (List Int))).bind fun y295 => (if y292.length + y295.length < 5864062014805 then ((some (y292 ++ y295 : List (List Int))).bind fun y300 => ((some (t258.take (t272 : Int).toNat : List (List Int))).bind fun y303 => (if y300.length + y303.length < 5864062014805 then ((holt_Stuck.f kj12 t256 (y281 ++ y284) (y300 ++ y303)).bind fun t311 => (if (t311.length : Int) = (t265.length : Int) then (signalboxlaw15_HoltOne.l0 kj12 a0 a3 t256 t257 t258 t265 t272 t311 0) else (none))) else (none)))) else (none))) else (none))) else (none)))) else (none))) else (none)) else (none)))) = some r := by first | (rw [hy269]; with_reducible exact H) | (have H2_ := (Option.bind_some _ _).symm.trans H; rw [hy269]; with_reducible exact H2_) | (have H2_ := (Option.bind_some _ _).symm.trans H; with_reducible exact H2_) | with_reducible exact H | (rw [hy269]; exact H) | exact H
              have Ny269 := Aside0.mk hy269
              clear hy269
              replace H := Option.bind_eq_some_iff.mp H
              obtain ⟨t272, A250, H⟩ := H
              replace H : ((some (([] : List (List Int)) : List (List Int))).bind fun y273 => (if 0 ≤ t272 then (if t272 ≤ (t257.length : Int) then ((some (t257.drop (t272 : Int).toNat : List (List Int))).bind fun y276 => (if y273.length + y276.length < 5864062014805 then ((some (y273 ++ y276 : List (List Int))).bind fun y281 => ((some (t257.take (t272 : Int).toNat : List (List Int))).bind fun y284 => (if y281.length + y284.length < 5864062014805 then ((some (([] : List (List Int)) : List (List Int))).bind fun y292 => (if t272 ≤ (t258.length : Int) then ((some (t258.drop (t272 : Int).toNat : List (List Int))).bind fun y295 => (if y292.length + y295.length < 5864062014805 then ((some (y292 ++ y295 : List (List Int))).bind fun y300 => ((some (t258.take (t272 : Int).toNat : List (List Int))).bind fun y303 => (if y300.length + y303.length < 5864062014805 then ((holt_Stuck.f kj12 t256 (y281 ++ y284) (y300 ++ y303)).bind fun t311 => (if (t311.length : Int) = (t265.length : Int) then (signalboxlaw15_HoltOne.l0 kj12 a0 a3 t256 t257 t258 t265 t272 t311 0) else (none))) else (none)))) else (none))) else (none))) else (none)))) else (none))) else (none)) else (none))) = some r := H
              have A25 := Aside0.mk A250
              clear A250
              obtain ⟨y273, hy273⟩ : ∃ y_ : List (List Int), y_ = (([] : List (List Int))) := ⟨_, rfl⟩
              replace H : (if 0 ≤ t272 then (if t272 ≤ (t257.length : Int) then ((some (t257.drop (t272 : Int).toNat : List (List Int))).bind fun y276 => (if y273.length + y276.length < 5864062014805 then ((some (y273 ++ y276 : List (List Int))).bind fun y281 => ((some (t257.take (t272 : Int).toNat : List (List Int))).bind fun y284 => (if y281.length + y284.length < 5864062014805 then ((some (([] : List (List Int)) : List (List Int))).bind fun y292 => (if t272 ≤ (t258.length : Int) then ((some (t258.drop (t272 : Int).toNat : List (List Int))).bind fun y295 => (if y292.length + y295.length < 5864062014805 then ((some (y292 ++ y295 : List (List Int))).bind fun y300 => ((some (t258.take (t272 : Int).toNat : List (List Int))).bind fun y303 => (if y300.length + y303.length < 5864062014805 then ((holt_Stuck.f kj12 t256 (y281 ++ y284) (y300 ++ y303)).bind fun t311 => (if (t311.length : Int) = (t265.length : Int) then (signalboxlaw15_HoltOne.l0 kj12 a0 a3 t256 t257 t258 t265 t272 t311 0) else (none))) else (none)))) else (none))) else (none))) else (none)))) else (none))) else (none)) else (none)) = some r := by first | (rw [hy273]; with_reducible exact H) | (have H2_ := (Option.bind_some _ _).symm.trans H; rw [hy273]; with_reducible exact H2_) | (have H2_ := (Option.bind_some _ _).symm.trans H; with_reducible exact H2_) | with_reducible exact H | (rw [hy273]; exact H) | exact H
              have Ny273 := Aside0.mk hy273
              clear hy273
              by_cases c26 : 0 ≤ t272
              case neg =>
                rw [if_neg c26] at H
                exact absurd H (by simp)
              rw [if_pos c26] at H
              have c26b0 := eq_true c26
              have c26b1 : decide (0 ≤ t272) = true := decide_eq_true c26
              clear c26
              by_cases c27 : t272 ≤ (t257.length : Int)
              case neg =>
                rw [if_neg c27] at H
                exact absurd H (by simp)
              rw [if_pos c27] at H
              have c27b0 := eq_true c27
              have c27b1 : decide (t272 ≤ (t257.length : Int)) = true := decide_eq_true c27
              clear c27
              obtain ⟨y276, hy276⟩ : ∃ y_ : List (List Int), y_ = (t257.drop (t272 : Int).toNat) := ⟨_, rfl⟩
              replace H : (if y273.length + y276.length < 5864062014805 then ((some (y273 ++ y276 : List (List Int))).bind fun y281 => ((some (t257.take (t272 : Int).toNat : List (List Int))).bind fun y284 => (if y281.length + y284.length < 5864062014805 then ((some (([] : List (List Int)) : List (List Int))).bind fun y292 => (if t272 ≤ (t258.length : Int) then ((some (t258.drop (t272 : Int).toNat : List (List Int))).bind fun y295 => (if y292.length + y295.length < 5864062014805 then ((some (y292 ++ y295 : List (List Int))).bind fun y300 => ((some (t258.take (t272 : Int).toNat : List (List Int))).bind fun y303 => (if y300.length + y303.length < 5864062014805 then ((holt_Stuck.f kj12 t256 (y281 ++ y284) (y300 ++ y303)).bind fun t311 => (if (t311.length : Int) = (t265.length : Int) then (signalboxlaw15_HoltOne.l0 kj12 a0 a3 t256 t257 t258 t265 t272 t311 0) else (none))) else (none)))) else (none))) else (none))) else (none)))) else (none)) = some r := by first | (rw [hy276]; with_reducible exact H) | (have H2_ := (Option.bind_some _ _).symm.trans H; rw [hy276]; with_reducible exact H2_) | (have H2_ := (Option.bind_some _ _).symm.trans H; with_reducible exact H2_) | with_reducible exact H | (rw [hy276]; exact H) | exact H
              have Ny276 := Aside0.mk hy276
              clear hy276
              by_cases c28 : y273.length + y276.length < 5864062014805
              case neg =>
                rw [if_neg c28] at H
                exact absurd H (by simp)
              rw [if_pos c28] at H
              have LMc28 := Aside0.mk c28
              clear c28
              obtain ⟨y281, hy281⟩ : ∃ y_ : List (List Int), y_ = (y273 ++ y276) := ⟨_, rfl⟩
              replace H : ((some (t257.take (t272 : Int).toNat : List (List Int))).bind fun y284 => (if y281.length + y284.length < 5864062014805 then ((some (([] : List (List Int)) : List (List Int))).bind fun y292 => (if t272 ≤ (t258.length : Int) then ((some (t258.drop (t272 : Int).toNat : List (List Int))).bind fun y295 => (if y292.length + y295.length < 5864062014805 then ((some (y292 ++ y295 : List (List Int))).bind fun y300 => ((some (t258.take (t272 : Int).toNat : List (List Int))).bind fun y303 => (if y300.length + y303.length < 5864062014805 then ((holt_Stuck.f kj12 t256 (y281 ++ y284) (y300 ++ y303)).bind fun t311 => (if (t311.length : Int) = (t265.length : Int) then (signalboxlaw15_HoltOne.l0 kj12 a0 a3 t256 t257 t258 t265 t272 t311 0) else (none))) else (none)))) else (none))) else (none))) else (none))) = some r := by first | (rw [hy281]; with_reducible exact H) | (have H2_ := (Option.bind_some _ _).symm.trans H; rw [hy281]; with_reducible exact H2_) | (have H2_ := (Option.bind_some _ _).symm.trans H; with_reducible exact H2_) | with_reducible exact H | (rw [hy281]; exact H) | exact H
              have Ny281 := Aside0.mk hy281
              clear hy281
              have c29b0 := eq_true (of_decide_eq_true (by first | (with_reducible assumption) | assumption) : 0 ≤ t272)
              have c30b0 := eq_true (of_decide_eq_true (by first | (with_reducible assumption) | assumption) : t272 ≤ (t257.length : Int))
              obtain ⟨y284, hy284⟩ : ∃ y_ : List (List Int), y_ = (t257.take (t272 : Int).toNat) := ⟨_, rfl⟩
              replace H : (if y281.length + y284.length < 5864062014805 then ((some (([] : List (List Int)) : List (List Int))).bind fun y292 => (if t272 ≤ (t258.length : Int) then ((some (t258.drop (t272 : Int).toNat : List (List Int))).bind fun y295 => (if y292.length + y295.length < 5864062014805 then ((some (y292 ++ y295 : List (List Int))).bind fun y300 => ((some (t258.take (t272 : Int).toNat : List (List Int))).bind fun y303 => (if y300.length + y303.length < 5864062014805 then ((holt_Stuck.f kj12 t256 (y281 ++ y284) (y300 ++ y303)).bind fun t311 => (if (t311.length : Int) = (t265.length : Int) then (signalboxlaw15_HoltOne.l0 kj12 a0 a3 t256 t257 t258 t265 t272 t311 0) else (none))) else (none)))) else (none))) else (none))) else (none)) = some r := by first | (rw [hy284]; with_reducible exact H) | (have H2_ := (Option.bind_some _ _).symm.trans H; rw [hy284]; with_reducible exact H2_) | (have H2_ := (Option.bind_some _ _).symm.trans H; with_reducible exact H2_) | with_reducible exact H | (rw [hy284]; exact H) | exact H
              have Ny284 := Aside0.mk hy284
              clear hy284
              by_cases c31 : y281.length + y284.length < 5864062014805
              case neg =>
                rw [if_neg c31] at H
                exact absurd H (by simp)
              rw [if_pos c31] at H
              have LMc31 := Aside0.mk c31
              clear c31
              obtain ⟨y289, hy289⟩ : ∃ y_ : List (List Int), y_ = (y281 ++ y284) := ⟨_, rfl⟩
              replace H : ((some (([] : List (List Int)) : List (List Int))).bind fun y292 => (if t272 ≤ (t258.length : Int) then ((some (t258.drop (t272 : Int).toNat : List (List Int))).bind fun y295 => (if y292.length + y295.length < 5864062014805 then ((some (y292 ++ y295 : List (List Int))).bind fun y300 => ((some (t258.take (t272 : Int).toNat : List (List Int))).bind fun y303 => (if y300.length + y303.length < 5864062014805 then ((holt_Stuck.f kj12 t256 y289 (y300 ++ y303)).bind fun t311 => (if (t311.length : Int) = (t265.length : Int) then (signalboxlaw15_HoltOne.l0 kj12 a0 a3 t256 t257 t258 t265 t272 t311 0) else (none))) else (none)))) else (none))) else (none))) = some r := by first | (rw [hy289]; with_reducible exact H) | (have H2_ := (Option.bind_some _ _).symm.trans H; rw [hy289]; with_reducible exact H2_) | (have H2_ := (Option.bind_some _ _).symm.trans H; with_reducible exact H2_) | with_reducible exact H | (rw [hy289]; exact H) | exact H
              have Ny289 := Aside0.mk hy289
              clear hy289
              obtain ⟨y292, hy292⟩ : ∃ y_ : List (List Int), y_ = (([] : List (List Int))) := ⟨_, rfl⟩
              replace H : (if t272 ≤ (t258.length : Int) then ((some (t258.drop (t272 : Int).toNat : List (List Int))).bind fun y295 => (if y292.length + y295.length < 5864062014805 then ((some (y292 ++ y295 : List (List Int))).bind fun y300 => ((some (t258.take (t272 : Int).toNat : List (List Int))).bind fun y303 => (if y300.length + y303.length < 5864062014805 then ((holt_Stuck.f kj12 t256 y289 (y300 ++ y303)).bind fun t311 => (if (t311.length : Int) = (t265.length : Int) then (signalboxlaw15_HoltOne.l0 kj12 a0 a3 t256 t257 t258 t265 t272 t311 0) else (none))) else (none)))) else (none))) else (none)) = some r := by first | (rw [hy292]; with_reducible exact H) | (have H2_ := (Option.bind_some _ _).symm.trans H; rw [hy292]; with_reducible exact H2_) | (have H2_ := (Option.bind_some _ _).symm.trans H; with_reducible exact H2_) | with_reducible exact H | (rw [hy292]; exact H) | exact H
              have Ny292 := Aside0.mk hy292
              clear hy292
              have c32b0 := eq_true (of_decide_eq_true (by first | (with_reducible assumption) | assumption) : 0 ≤ t272)
              by_cases c33 : t272 ≤ (t258.length : Int)
              case neg =>
                rw [if_neg c33] at H
                exact absurd H (by simp)
              rw [if_pos c33] at H
              have c33b0 := eq_true c33
              have c33b1 : decide (t272 ≤ (t258.length : Int)) = true := decide_eq_true c33
              clear c33
              obtain ⟨y295, hy295⟩ : ∃ y_ : List (List Int), y_ = (t258.drop (t272 : Int).toNat) := ⟨_, rfl⟩
              replace H : (if y292.length + y295.length < 5864062014805 then ((some (y292 ++ y295 : List (List Int))).bind fun y300 => ((some (t258.take (t272 : Int).toNat : List (List Int))).bind fun y303 => (if y300.length + y303.length < 5864062014805 then ((holt_Stuck.f kj12 t256 y289 (y300 ++ y303)).bind fun t311 => (if (t311.length : Int) = (t265.length : Int) then (signalboxlaw15_HoltOne.l0 kj12 a0 a3 t256 t257 t258 t265 t272 t311 0) else (none))) else (none)))) else (none)) = some r := by first | (rw [hy295]; with_reducible exact H) | (have H2_ := (Option.bind_some _ _).symm.trans H; rw [hy295]; with_reducible exact H2_) | (have H2_ := (Option.bind_some _ _).symm.trans H; with_reducible exact H2_) | with_reducible exact H | (rw [hy295]; exact H) | exact H
              have Ny295 := Aside0.mk hy295
              clear hy295
              by_cases c34 : y292.length + y295.length < 5864062014805
              case neg =>
                rw [if_neg c34] at H
                exact absurd H (by simp)
              rw [if_pos c34] at H
              have LMc34 := Aside0.mk c34
              clear c34
              obtain ⟨y300, hy300⟩ : ∃ y_ : List (List Int), y_ = (y292 ++ y295) := ⟨_, rfl⟩
              replace H : ((some (t258.take (t272 : Int).toNat : List (List Int))).bind fun y303 => (if y300.length + y303.length < 5864062014805 then ((holt_Stuck.f kj12 t256 y289 (y300 ++ y303)).bind fun t311 => (if (t311.length : Int) = (t265.length : Int) then (signalboxlaw15_HoltOne.l0 kj12 a0 a3 t256 t257 t258 t265 t272 t311 0) else (none))) else (none))) = some r := by first | (rw [hy300]; with_reducible exact H) | (have H2_ := (Option.bind_some _ _).symm.trans H; rw [hy300]; with_reducible exact H2_) | (have H2_ := (Option.bind_some _ _).symm.trans H; with_reducible exact H2_) | with_reducible exact H | (rw [hy300]; exact H) | exact H
              have Ny300 := Aside0.mk hy300
              clear hy300
              have c35b0 := eq_true (of_decide_eq_true (by first | (with_reducible assumption) | assumption) : 0 ≤ t272)
              have c36b0 := eq_true (of_decide_eq_true (by first | (with_reducible assumption) | assumption) : t272 ≤ (t258.length : Int))
              obtain ⟨y303, hy303⟩ : ∃ y_ : List (List Int), y_ = (t258.take (t272 : Int).toNat) := ⟨_, rfl⟩
              replace H : (if y300.length + y303.length < 5864062014805 then ((holt_Stuck.f kj12 t256 y289 (y300 ++ y303)).bind fun t311 => (if (t311.length : Int) = (t265.length : Int) then (signalboxlaw15_HoltOne.l0 kj12 a0 a3 t256 t257 t258 t265 t272 t311 0) else (none))) else (none)) = some r := by first | (rw [hy303]; with_reducible exact H) | (have H2_ := (Option.bind_some _ _).symm.trans H; rw [hy303]; with_reducible exact H2_) | (have H2_ := (Option.bind_some _ _).symm.trans H; with_reducible exact H2_) | with_reducible exact H | (rw [hy303]; exact H) | exact H
              have Ny303 := Aside0.mk hy303
              clear hy303
              by_cases c37 : y300.length + y303.length < 5864062014805
              case neg =>
                rw [if_neg c37] at H
                exact absurd H (by simp)
              rw [if_pos c37] at H
              have LMc37 := Aside0.mk c37
              clear c37
              obtain ⟨y308, hy308⟩ : ∃ y_ : List (List Int), y_ = (y300 ++ y303) := ⟨_, rfl⟩
              replace H : ((holt_Stuck.f kj12 t256 y289 y308).bind fun t311 => (if (t311.length : Int) = (t265.length : Int) then (signalboxlaw15_HoltOne.l0 kj12 a0 a3 t256 t257 t258 t265 t272 t311 0) else (none))) = some r := by first | (rw [hy308]; with_reducible exact H) | (have H2_ := (Option.bind_some _ _).symm.trans H; rw [hy308]; with_reducible exact H2_) | (have H2_ := (Option.bind_some _ _).symm.trans H; with_reducible exact H2_) | with_reducible exact H | (rw [hy308]; exact H) | exact H
              have Ny308 := Aside0.mk hy308
              clear hy308
              replace H := Option.bind_eq_some_iff.mp H
              obtain ⟨t311, A380, H⟩ := H
              replace H : (if (t311.length : Int) = (t265.length : Int) then (signalboxlaw15_HoltOne.l0 kj12 a0 a3 t256 t257 t258 t265 t272 t311 0) else (none)) = some r := H
              have A38 := Aside0.mk A380
              clear A380
              by_cases c39 : (t311.length : Int) = (t265.length : Int)
              case neg =>
                rw [if_neg c39] at H
                exact absurd H (by simp)
              rw [if_pos c39] at H
              have c39b0 : ((t311.length : Int) == (t265.length : Int)) = true := beq_iff_eq.mpr c39
              have c39b1 : ((t311.length : Int) != (t265.length : Int)) = false := bne_eq_false_iff_eq.mpr c39
              have c39b2 : (t311.length == t265.length) = true := by first | simpa using c39 | (simp at c39 ⊢; omega)
              clear c39
              have H' := Aside0.mk H
              clear H
              try go_wp2_with (first | ((with_reducible refine gate_dst (N := 55) rfl ?_); (try (refine gate_guard (by rfl) ?_; dsimp only)); refine Kd.R_lit (Kd.int .i64) _ 3 ?hg (N := 55) ?hd (xs := ([a2] : List Int)) (inner := [.int .i64 a2]) (ok := fun _ => True) (okp := fun _ => True) ?hr ?hp (fun _ hk => hk) trivial (Below.refl _ _) (Nat.le_refl _) (by simp) ?_; (case hd => rfl); (case hg => rfl); (case hr => first | (go_simp; done) | (go_simp; rfl)); (case hp => exact (Reps.one (show Kd.M (Kd.int .i64) _ _ _ a2 [.int .i64 a2] from rfl) (Reps.none _ _))); intro v270 w40 ho41 hb hg_ hnew_; clear hg_ hnew_; (first | rw [← Ny269.out] at ho41 | (simp only [Int.reduceToNat] at ho41; rw [← Ny269.out] at ho41)); have n0_ := Aside0.mk (Kd.R_elder' (by (with_reducible repeat (first | apply Kd.R_alloc | apply Kd.R_drewN | apply Kd.R_drew)); exact HO_9.out) (Kd.R_base ho41) hb); have n1_ := Aside0.mk (Kd.N_elder' (by (with_reducible repeat (first | apply Kd.N_alloc | apply Kd.N_drewN | apply Kd.N_drew)); exact HO_10.out) (Kd.R_base ho41) hb); have n2_ := Aside0.mk (Kd.N_elder' (by (with_reducible repeat (first | apply Kd.N_alloc | apply Kd.N_drewN | apply Kd.N_drew)); exact HO_11.out) (Kd.R_base ho41) hb); have n3_ := Aside0.mk (Kd.R_elder' (by (with_reducible repeat (first | apply Kd.R_alloc | apply Kd.R_drewN | apply Kd.R_drew)); exact HO_12.out) (Kd.R_base ho41) hb); have n4_ := Aside0.mk (Kd.R_lower (Kd.R_new' (Kd.R_new' ho41 (Kd.R_lt (by (with_reducible repeat (first | apply Kd.R_alloc | apply Kd.R_drewN | apply Kd.R_drew)); exact HO_9.out))) (Kd.R_lt (by (with_reducible repeat (first | apply Kd.R_alloc | apply Kd.R_drewN | apply Kd.R_drew)); exact HO_12.out))) (below_size (by repeat (first | (with_reducible first | exact HB.out | apply below_alloc | apply pw_below_drewN | apply below_drew1) | exact HB.out)))); have n5_ := Aside0.mk (below_step (by repeat (first | (with_reducible first | exact HB.out | apply below_alloc | apply pw_below_drewN | apply below_drew1) | exact HB.out)) hb); clear HO_9; clear HO_10; clear HO_11; clear HO_12; clear HB; have HO_9 := n0_; have HO_10 := n1_; have HO_11 := n2_; have HO_12 := n3_; have HO271 := n4_; have HB := n5_; clear n0_ n1_ n2_ n3_ n4_ n5_; clear hb ho41; obtain ⟨Ao42, co42, eo42⟩ := Kd.R_slice HO271.out; subst eo42) | ((with_reducible refine gate_callee (f := 18) rfl ?_); refine goesL_ (some 57) rfl rfl Try.func18 (by kernel_rfl) rfl #[.slice Ao42 y269.length co42, .int .i64 0, .int .i64 a0] rfl (by (try simp only [List.map_toArray, List.map_cons, List.map_nil]); first | done | rfl | (simp only [List.length_drop, List.length_take]; rfl)) ?_; (with_reducible refine (signalboxlaw15_next.calls _ _ y269 0 a0 t272 _ ?side1 ?side2 A25.out).mono ?_); (case side1 => repeat (first | exact (Kd.R_reads' HO271.out).2.2 | (with_reducible refine Kd.C_alloc ?_ _) | (with_reducible refine Kd.C_drewN ?_ _) | (with_reducible refine Kd.C_drew ?_))); (case side2 => exact (Kd.R_reads' HO271.out).2.1); rintro e w' ⟨rfl, ⟨nd, rfl⟩⟩; refine ⟨_, rfl, ?_⟩))
              (try (rw [drewN_self w40]; generalize hq_ : World.drewN w40 _ = w40; have n0_ : Aside0 (Kd.R (Kd.int .i64) 3 w40 w.heap.size (fun k_ => some k_ ≠ (v266 : Value).ownBlock ∧ some k_ ≠ (.slice Ao15 t256.length co15 : Value).ownBlock) (.slice Ao42 y269.length co42) y269) := ⟨by rw [← hq_]; exact (by (with_reducible repeat (first | apply Kd.R_alloc | apply Kd.R_drewN | apply Kd.R_drew)); exact Kd.R_mono HO271.out (fun _ hk => by first | exact ⟨hk.2, hk.1.2⟩ | simp only [hk, ne_eq, not_false_eq_true, and_self]))⟩; have n1_ : Aside0 (Kd.N (Kd.slice 3 (Kd.int .i64)) 22 w40 w.heap.size (fun k_ => some k_ ≠ (.slice Ao42 y269.length co42 : Value).ownBlock ∧ some k_ ≠ (.slice Ao17 t258.length co17 : Value).ownBlock ∧ some k_ ≠ (v266 : Value).ownBlock ∧ some k_ ≠ (.slice Ao15 t256.length co15 : Value).ownBlock) (.slice Ao16 t257.length co16) t257) := ⟨by rw [← hq_]; exact (by (with_reducible repeat (first | apply Kd.N_alloc | apply Kd.N_drewN | apply Kd.N_drew)); exact Kd.N_mono HO_10.out (fun _ hk => by first | exact ⟨hk.2, ⟨hk.1.2.1, ⟨hk.1.2.2, hk.1.1⟩⟩⟩ | simp only [hk, ne_eq, not_false_eq_true, and_self]))⟩; have n2_ : Aside0 (Kd.N (Kd.slice 3 (Kd.int .i64)) 22 w40 w.heap.size (fun k_ => some k_ ≠ (.slice Ao42 y269.length co42 : Value).ownBlock ∧ some k_ ≠ (.slice Ao16 t257.length co16 : Value).ownBlock ∧ some k_ ≠ (v266 : Value).ownBlock ∧ some k_ ≠ (.slice Ao15 t256.length co15 : Value).ownBlock) (.slice Ao17 t258.length co17) t258) := ⟨by rw [← hq_]; exact (by (with_reducible repeat (first | apply Kd.N_alloc | apply Kd.N_drewN | apply Kd.N_drew)); exact Kd.N_mono HO_11.out (fun _ hk => by first | exact ⟨hk.2, ⟨hk.1.2.1, ⟨hk.1.2.2, hk.1.1⟩⟩⟩ | simp only [hk, ne_eq, not_false_eq_true, and_self]))⟩; have n3_ : Aside0 (Kd.R (Kd.int .i64) 3 w40 w.heap.size (fun k_ => some k_ ≠ (.slice Ao42 y269.length co42 : Value).ownBlock ∧ some k_ ≠ (.slice Ao15 t256.length co15 : Value).ownBlock) v266 t265) := ⟨by rw [← hq_]; exact (by (with_reducible repeat (first | apply Kd.R_alloc | apply Kd.R_drewN | apply Kd.R_drew)); exact Kd.R_mono HO_12.out (fun _ hk => by first | exact ⟨hk.2, hk.1⟩ | simp only [hk, ne_eq, not_false_eq_true, and_self]))⟩; have n4_ : Aside0 (Kd.R (Kd.int .i64) 3 w40 w.heap.size (fun k_ => some k_ ≠ (.slice Ao42 y269.length co42 : Value).ownBlock ∧ some k_ ≠ (v266 : Value).ownBlock) (.slice Ao15 t256.length co15) t256) := ⟨by rw [← hq_]; exact (by (with_reducible repeat (first | apply Kd.R_alloc | apply Kd.R_drewN | apply Kd.R_drew)); exact Kd.R_mono HO_9.out (fun _ hk => by first | exact ⟨hk.2, hk.1⟩ | simp only [hk, ne_eq, not_false_eq_true, and_self]))⟩; have n5_ : Aside0 (Below w.heap.size w w40) := ⟨by rw [← hq_]; exact (by repeat (first | (with_reducible first | exact HB.out | apply below_alloc | apply pw_below_drewN | apply below_drew1) | exact HB.out))⟩; clear HO271 HO_10 HO_11 HO_12 HO_9 HB hq_; have HO271 := n0_; have HO_10 := n1_; have HO_11 := n2_; have HO_12 := n3_; have HO_9 := n4_; have HB := n5_; clear n0_ n1_ n2_ n3_ n4_ n5_))
              have n0_ := Aside0.mk (Kd.R_drew HO_9.out)
              have n1_ := Aside0.mk (Kd.N_drew HO_10.out)
              have n2_ := Aside0.mk (Kd.N_drew HO_11.out)
              have n3_ := Aside0.mk (Kd.R_drew HO_12.out)
              have n4_ := Aside0.mk (Kd.R_drew HO271.out)
              have n5_ := Aside0.mk (below_drew1 HB.out)
              clear HO_9
              clear HO_10
              clear HO_11
              clear HO_12
              clear HO271
              clear HB
              have HO_9 := n0_
              have HO_10 := n1_
              have HO_11 := n2_
              have HO_12 := n3_
              have HO271 := n4_
              have HB := n5_
              clear n0_ n1_ n2_ n3_ n4_ n5_
              have q44 : (t272 : Int) ≤ ((t257.length : Int) : Int) := of_decide_eq_true (by first | (with_reducible assumption) | assumption)
              obtain ⟨i044, hi044, _, hsz44, _⟩ := info_parts info22
              have hroom44 : t257.length ≤ co16 := (Kd.N_reads' HO_10.out).2.1
              have hC44 : Kd.F (Kd.slice 3 (Kd.int .i64)) _ _ Ao16 t257.length t257 := (Kd.V_at (base := w.heap.size) (Kd.N_V HO_10.out)).2.2
              have q044 : (0 : Int) ≤ (t272 : Int) := of_decide_eq_true (by first | (with_reducible assumption) | assumption)
              have hcut44 := cut_from (P := Try.prog) 23 22 .i64 Try.underlying23 hi044 1 hsz44 Ao16 t257.length co16 t272 q044 q44
              have hr44 := Kd.F_cut (m := (t272 : Int).toNat) (c := co16) hC44 (by omega) hroom44
              obtain ⟨A44, hA44⟩ : ∃ A1, A1 = (if co16 = (t272 : Int).toNat then Ao16 else (Ao16 : Option Addr).map (·.add ((t272 : Int).toNat * 1))) := ⟨_, rfl⟩
              obtain ⟨c44, hc44⟩ : ∃ c1, c1 = co16 - (t272 : Int).toNat := ⟨_, rfl⟩
              have hy44 : y276.length = t257.length - (t272 : Int).toNat := (by rw [Ny276.out, List.length_drop] <;> omega)
              rw [show (t257).drop (t272 : Int).toNat = y276 from Ny276.out.symm] at hr44
              replace hr44 : Kd.F (Kd.slice 3 (Kd.int .i64)) _ _ A44 y276.length y276 := (by rw [hA44]; exact hr44)
              rw [← hy44, ← hA44, ← hc44] at hcut44
              have HO280 := Aside0.mk (show Kd.V (Kd.slice 3 (Kd.int .i64)) 22 _ w.heap.size _ (.slice A44 y276.length c44) y276 from Kd.V_mk (by rw [hy44, hc44]; exact Nat.sub_le_sub_right hroom44 _) hr44)
              have HC280 := Aside0.mk (show y276.length ≤ c44 from by rw [hy44, hc44]; exact Nat.sub_le_sub_right hroom44 _)
              clear hr44 hC44 hroom44 hi044 hsz44 hc44
              have KY44 := Aside0.mk hy44
              have KA44 := Aside0.mk hA44
              clear hy44 hA44
              replace q44 := eq_true q44
              have q45 : (t272 : Int) ≤ ((t257.length : Int) : Int) := of_decide_eq_true (by first | (with_reducible assumption) | assumption)
              obtain ⟨i045, hi045, _, hsz45, _⟩ := info_parts info22
              have hroom45 : t257.length ≤ co16 := (Kd.N_reads' HO_10.out).2.1
              have hC45 : Kd.F (Kd.slice 3 (Kd.int .i64)) _ _ Ao16 t257.length t257 := (Kd.V_at (base := w.heap.size) (Kd.N_V HO_10.out)).2.2
              have hcut45 := cut_to (P := Try.prog) 23 22 .i64 Try.underlying23 hi045 Ao16 t257.length co16 t272 (of_decide_eq_true (by first | (with_reducible assumption) | assumption)) q45 hroom45
              have hr45 := Kd.F_take (m := (t272 : Int).toNat) hC45 (by omega)
              have hy45 : y284.length = (t272 : Int).toNat := (by rw [Ny284.out, List.length_take]; omega)
              rw [← Ny284.out] at hr45
              rw [← hy45] at hcut45
              have HO288 := Aside0.mk (show Kd.V (Kd.slice 3 (Kd.int .i64)) 22 _ w.heap.size _ (.slice Ao16 y284.length co16) y284 from Kd.V_mk (by omega) hr45)
              have HC288 := Aside0.mk (show y284.length ≤ co16 from by omega)
              clear hr45 hC45 hroom45 hi045 hsz45
              have KY45 := Aside0.mk hy45
              clear hy45
              replace q45 := eq_true q45
              have q46 : (t272 : Int) ≤ ((t258.length : Int) : Int) := of_decide_eq_true (by first | (with_reducible assumption) | assumption)
              obtain ⟨i046, hi046, _, hsz46, _⟩ := info_parts info22
              have hroom46 : t258.length ≤ co17 := (Kd.N_reads' HO_11.out).2.1
              have hC46 : Kd.F (Kd.slice 3 (Kd.int .i64)) _ _ Ao17 t258.length t258 := (Kd.V_at (base := w.heap.size) (Kd.N_V HO_11.out)).2.2
              have q046 : (0 : Int) ≤ (t272 : Int) := of_decide_eq_true (by first | (with_reducible assumption) | assumption)
              have hcut46 := cut_from (P := Try.prog) 23 22 .i64 Try.underlying23 hi046 1 hsz46 Ao17 t258.length co17 t272 q046 q46
              have hr46 := Kd.F_cut (m := (t272 : Int).toNat) (c := co17) hC46 (by omega) hroom46
              obtain ⟨A46, hA46⟩ : ∃ A1, A1 = (if co17 = (t272 : Int).toNat then Ao17 else (Ao17 : Option Addr).map (·.add ((t272 : Int).toNat * 1))) := ⟨_, rfl⟩
              obtain ⟨c46, hc46⟩ : ∃ c1, c1 = co17 - (t272 : Int).toNat := ⟨_, rfl⟩
              have hy46 : y295.length = t258.length - (t272 : Int).toNat := (by rw [Ny295.out, List.length_drop] <;> omega)
              rw [show (t258).drop (t272 : Int).toNat = y295 from Ny295.out.symm] at hr46
              replace hr46 : Kd.F (Kd.slice 3 (Kd.int .i64)) _ _ A46 y295.length y295 := (by rw [hA46]; exact hr46)
              rw [← hy46, ← hA46, ← hc46] at hcut46
              have HO299 := Aside0.mk (show Kd.V (Kd.slice 3 (Kd.int .i64)) 22 _ w.heap.size _ (.slice A46 y295.length c46) y295 from Kd.V_mk (by rw [hy46, hc46]; exact Nat.sub_le_sub_right hroom46 _) hr46)
              have HC299 := Aside0.mk (show y295.length ≤ c46 from by rw [hy46, hc46]; exact Nat.sub_le_sub_right hroom46 _)
              clear hr46 hC46 hroom46 hi046 hsz46 hc46
              have KY46 := Aside0.mk hy46
              have KA46 := Aside0.mk hA46
              clear hy46 hA46
              replace q46 := eq_true q46
              have q47 : (t272 : Int) ≤ ((t258.length : Int) : Int) := of_decide_eq_true (by first | (with_reducible assumption) | assumption)
              obtain ⟨i047, hi047, _, hsz47, _⟩ := info_parts info22
              have hroom47 : t258.length ≤ co17 := (Kd.N_reads' HO_11.out).2.1
              have hC47 : Kd.F (Kd.slice 3 (Kd.int .i64)) _ _ Ao17 t258.length t258 := (Kd.V_at (base := w.heap.size) (Kd.N_V HO_11.out)).2.2
              have hcut47 := cut_to (P := Try.prog) 23 22 .i64 Try.underlying23 hi047 Ao17 t258.length co17 t272 (of_decide_eq_true (by first | (with_reducible assumption) | assumption)) q47 hroom47
              have hr47 := Kd.F_take (m := (t272 : Int).toNat) hC47 (by omega)
              have hy47 : y303.length = (t272 : Int).toNat := (by rw [Ny303.out, List.length_take]; omega)
              rw [← Ny303.out] at hr47
              rw [← hy47] at hcut47
              have HO307 := Aside0.mk (show Kd.V (Kd.slice 3 (Kd.int .i64)) 22 _ w.heap.size _ (.slice Ao17 y303.length co17) y303 from Kd.V_mk (by omega) hr47)
              have HC307 := Aside0.mk (show y303.length ≤ co17 from by omega)
              clear hr47 hC47 hroom47 hi047 hsz47
              have KY47 := Aside0.mk hy47
              clear hy47
              replace q47 := eq_true q47
              refine start_ (n := 20) (S := fun w' => True) (ds := []) #[false, false, false, false, false, false, false, false, false, false, false, false, false, false, false, false, false, false, false, false] (by kernel_rfl) rfl rfl trivial (fun hHeld => ?_); refine with_tabW signalboxlaw15_HoltOne.tab8 signalboxlaw15_HoltOne.bits8 (fun HT_ HW_ => ?_)
              generalize w40.drew = w43 at HO_9 HO_10 HO_11 HO_12 HO271 HB HO280 HO288 HO299 HO307 hHeld ⊢
              refine pure_ (i := 1) (N := some 59) (v := ?_) (a' := ?_) #[false, true, false, false, false, false, false, false, false, false, false, false, false, false, false, false, false, false, false, false] rfl rfl (any_of HT_.out (by kernel_rfl)) (fun _ _ _ h => h) (Or.inl ⟨by rfl, ?_⟩) ?_ ?_
              rotate_left
              · intro w'
                go_simp
                with_reducible rfl
              rotate_left
              · simp only [Act.put, List.setIfInBounds_toArray, List.set_cons_zero, List.set_cons_succ, i64_w, i32_w]
                rfl
              refine pure_ (i := 2) (N := some 60) (v := ?_) (a' := ?_) #[false, true, true, false, false, false, false, false, false, false, false, false, false, false, false, false, false, false, false, false] rfl rfl (any_of HT_.out (by kernel_rfl)) (fun _ _ _ h => h) (Or.inl ⟨by rfl, ?_⟩) ?_ ?_
              rotate_left
              · intro w'
                go_simp
                with_reducible rfl
              rotate_left
              · simp only [Act.put, List.setIfInBounds_toArray, List.set_cons_zero, List.set_cons_succ, i64_w, i32_w]
                rfl
              refine pure_ (i := 3) (N := some 61) (v := ?_) (a' := ?_) #[false, true, true, true, false, false, false, false, false, false, false, false, false, false, false, false, false, false, false, false] rfl rfl (any_of HT_.out (by kernel_rfl)) (fun _ _ _ h => h) (Or.inl ⟨by rfl, ?_⟩) ?_ ?_
              rotate_left
              · intro w'
                go_simp
                with_reducible rfl
              rotate_left
              · simp only [Act.put, List.setIfInBounds_toArray, List.set_cons_zero, List.set_cons_succ, i64_w, i32_w]
                rfl
              refine pure_ (i := 5) (N := some 63) (v := ?_) (a' := ?_) #[false, true, true, true, false, true, false, false, false, false, false, false, false, false, false, false, false, false, false, false] rfl rfl (any_of HT_.out (by kernel_rfl)) (fun _ _ _ h => h) (Or.inl ⟨by rfl, ?_⟩) ?_ ?_
              rotate_left
              · intro w'
                go_simp
                with_reducible rfl
              rotate_left
              · simp only [Act.put, List.setIfInBounds_toArray, List.set_cons_zero, List.set_cons_succ, i64_w, i32_w]
                rfl
              refine pure_ (i := 6) (N := some 64) (v := ?_) (a' := ?_) #[false, true, true, true, false, true, true, false, false, false, false, false, false, false, false, false, false, false, false, false] rfl rfl (any_of HT_.out (by kernel_rfl)) (fun _ _ _ h => h) (Or.inl ⟨by rfl, ?_⟩) ?_ ?_
              rotate_left
              · intro w'
                go_simp
                with_reducible rfl
              rotate_left
              · simp only [Act.put, List.setIfInBounds_toArray, List.set_cons_zero, List.set_cons_succ, i64_w, i32_w]
                rfl
              refine pure_ (i := 7) (N := some 65) (v := ?_) (a' := ?_) #[false, true, true, true, false, true, true, true, false, false, false, false, false, false, false, false, false, false, false, false] rfl rfl (any_of HT_.out (by kernel_rfl)) (fun _ _ _ h => h) (Or.inl ⟨by rfl, ?_⟩) ?_ ?_
              rotate_left
              · intro w'
                go_simp
                with_reducible rfl
              rotate_left
              · simp only [Act.put, List.setIfInBounds_toArray, List.set_cons_zero, List.set_cons_succ, i64_w, i32_w]
                rfl
              refine pure_ (i := 10) (N := some 68) (v := ?_) (a' := ?_) #[false, true, true, true, false, true, true, true, false, false, true, false, false, false, false, false, false, false, false, false] rfl rfl (any_of HT_.out (by kernel_rfl)) (fun _ _ _ h => h) (Or.inl ⟨by rfl, ?_⟩) ?_ ?_
              rotate_left
              · intro w'
                go_simp
                with_reducible rfl
              rotate_left
              · simp only [Act.put, List.setIfInBounds_toArray, List.set_cons_zero, List.set_cons_succ, i64_w, i32_w]
                rfl
              refine pure_ (i := 11) (N := some 69) (v := ?_) (a' := ?_) #[false, true, true, true, false, true, true, true, false, false, true, true, false, false, false, false, false, false, false, false] rfl rfl (any_of HT_.out (by kernel_rfl)) (fun _ _ _ h => h) (Or.inl ⟨by rfl, ?_⟩) ?_ ?_
              rotate_left
              · intro w'
                go_simp
                with_reducible rfl
              rotate_left
              · simp only [Act.put, List.setIfInBounds_toArray, List.set_cons_zero, List.set_cons_succ, i64_w, i32_w]
                rfl
              refine pure_ (i := 12) (N := some 70) (v := ?_) (a' := ?_) #[false, true, true, true, false, true, true, true, false, false, true, true, true, false, false, false, false, false, false, false] rfl rfl (any_of HT_.out (by kernel_rfl)) (fun _ _ _ h => h) (Or.inl ⟨by rfl, ?_⟩) ?_ ?_
              rotate_left
              · intro w'
                go_simp
                with_reducible rfl
              rotate_left
              · simp only [Act.put, List.setIfInBounds_toArray, List.set_cons_zero, List.set_cons_succ, i64_w, i32_w]
                rfl
              refine pure_ (i := 14) (N := some 72) (v := ?_) (a' := ?_) #[false, true, true, true, false, true, true, true, false, false, true, true, true, false, true, false, false, false, false, false] rfl rfl (any_of HT_.out (by kernel_rfl)) (fun _ _ _ h => h) (Or.inl ⟨by rfl, ?_⟩) ?_ ?_
              rotate_left
              · intro w'
                go_simp
                with_reducible rfl
              rotate_left
              · simp only [Act.put, List.setIfInBounds_toArray, List.set_cons_zero, List.set_cons_succ, i64_w, i32_w]
                rfl
              refine pure_ (i := 15) (N := some 73) (v := ?_) (a' := ?_) #[false, true, true, true, false, true, true, true, false, false, true, true, true, false, true, true, false, false, false, false] rfl rfl (any_of HT_.out (by kernel_rfl)) (fun _ _ _ h => h) (Or.inl ⟨by rfl, ?_⟩) ?_ ?_
              rotate_left
              · intro w'
                go_simp
                with_reducible rfl
              rotate_left
              · simp only [Act.put, List.setIfInBounds_toArray, List.set_cons_zero, List.set_cons_succ, i64_w, i32_w]
                rfl
              refine pure_ (i := 16) (N := some 74) (v := ?_) (a' := ?_) #[false, true, true, true, false, true, true, true, false, false, true, true, true, false, true, true, true, false, false, false] rfl rfl (any_of HT_.out (by kernel_rfl)) (fun _ _ _ h => h) (Or.inl ⟨by rfl, ?_⟩) ?_ ?_
              rotate_left
              · intro w'
                go_simp
                with_reducible rfl
              rotate_left
              · simp only [Act.put, List.setIfInBounds_toArray, List.set_cons_zero, List.set_cons_succ, i64_w, i32_w]
                rfl
              refine join_ (σ := Value × Value × Value × Value) 4 #[true, true, true, true, true, true, true, true, true, true, true, true, true, false, true, true, true, false, false, false] (fun s_ => [(58, s_.1), (62, s_.2.1), (66, s_.2.2.1), (67, s_.2.2.2)]) (fun s_ w' => (Kd.R (Kd.int .i64) 3 w' w.heap.size (fun k_ => some k_ ≠ (v266 : Value).ownBlock ∧ some k_ ≠ (.slice Ao15 t256.length co15 : Value).ownBlock) (.slice Ao42 y269.length co42) y269) ∧ (Kd.V (Kd.slice 3 (Kd.int .i64)) 22 w' w.heap.size (fun k_ => some k_ ≠ (.slice Ao42 y269.length co42 : Value).ownBlock ∧ some k_ ≠ (s_.2.2.1 : Value).ownBlock ∧ some k_ ≠ (s_.2.2.2 : Value).ownBlock ∧ some k_ ≠ (.slice Ao17 t258.length co17 : Value).ownBlock ∧ some k_ ≠ (v266 : Value).ownBlock ∧ some k_ ≠ (.slice Ao15 t256.length co15 : Value).ownBlock) (.slice A44 y276.length c44) y276) ∧ (Kd.V (Kd.slice 3 (Kd.int .i64)) 22 w' w.heap.size (fun k_ => some k_ ≠ (.slice Ao42 y269.length co42 : Value).ownBlock ∧ some k_ ≠ (s_.2.2.1 : Value).ownBlock ∧ some k_ ≠ (s_.2.2.2 : Value).ownBlock ∧ some k_ ≠ (.slice Ao17 t258.length co17 : Value).ownBlock ∧ some k_ ≠ (v266 : Value).ownBlock ∧ some k_ ≠ (.slice Ao15 t256.length co15 : Value).ownBlock) (.slice Ao16 y284.length co16) y284) ∧ (Kd.N (Kd.slice 3 (Kd.int .i64)) 22 w' w.heap.size (fun k_ => some k_ ≠ (.slice Ao42 y269.length co42 : Value).ownBlock ∧ some k_ ≠ (s_.2.2.2 : Value).ownBlock ∧ some k_ ≠ (.slice Ao17 t258.length co17 : Value).ownBlock ∧ some k_ ≠ (v266 : Value).ownBlock ∧ some k_ ≠ (.slice Ao15 t256.length co15 : Value).ownBlock) s_.2.2.1 y289) ∧ (Kd.N (Kd.slice 3 (Kd.int .i64)) 22 w' w.heap.size (fun k_ => some k_ ≠ (.slice Ao42 y269.length co42 : Value).ownBlock ∧ some k_ ≠ (s_.2.2.1 : Value).ownBlock ∧ some k_ ≠ (.slice Ao16 t257.length co16 : Value).ownBlock ∧ some k_ ≠ (.slice Ao17 t258.length co17 : Value).ownBlock ∧ some k_ ≠ (v266 : Value).ownBlock ∧ some k_ ≠ (.slice Ao15 t256.length co15 : Value).ownBlock) s_.2.2.2 y292) ∧ (Kd.V (Kd.slice 3 (Kd.int .i64)) 22 w' w.heap.size (fun k_ => some k_ ≠ (.slice Ao42 y269.length co42 : Value).ownBlock ∧ some k_ ≠ (s_.2.2.1 : Value).ownBlock ∧ some k_ ≠ (s_.2.2.2 : Value).ownBlock ∧ some k_ ≠ (.slice Ao16 t257.length co16 : Value).ownBlock ∧ some k_ ≠ (v266 : Value).ownBlock ∧ some k_ ≠ (.slice Ao15 t256.length co15 : Value).ownBlock) (.slice A46 y295.length c46) y295) ∧ (Kd.V (Kd.slice 3 (Kd.int .i64)) 22 w' w.heap.size (fun k_ => some k_ ≠ (.slice Ao42 y269.length co42 : Value).ownBlock ∧ some k_ ≠ (s_.2.2.1 : Value).ownBlock ∧ some k_ ≠ (s_.2.2.2 : Value).ownBlock ∧ some k_ ≠ (.slice Ao16 t257.length co16 : Value).ownBlock ∧ some k_ ≠ (v266 : Value).ownBlock ∧ some k_ ≠ (.slice Ao15 t256.length co15 : Value).ownBlock) (.slice Ao17 y303.length co17) y303) ∧ (Kd.N (Kd.slice 3 (Kd.int .i64)) 22 w' w.heap.size (fun k_ => some k_ ≠ (.slice Ao42 y269.length co42 : Value).ownBlock ∧ some k_ ≠ (s_.2.2.1 : Value).ownBlock ∧ some k_ ≠ (s_.2.2.2 : Value).ownBlock ∧ some k_ ≠ (.slice Ao17 t258.length co17 : Value).ownBlock ∧ some k_ ≠ (v266 : Value).ownBlock ∧ some k_ ≠ (.slice Ao15 t256.length co15 : Value).ownBlock) (.slice Ao16 t257.length co16) t257) ∧ (Kd.N (Kd.slice 3 (Kd.int .i64)) 22 w' w.heap.size (fun k_ => some k_ ≠ (.slice Ao42 y269.length co42 : Value).ownBlock ∧ some k_ ≠ (s_.2.2.1 : Value).ownBlock ∧ some k_ ≠ (s_.2.2.2 : Value).ownBlock ∧ some k_ ≠ (.slice Ao16 t257.length co16 : Value).ownBlock ∧ some k_ ≠ (v266 : Value).ownBlock ∧ some k_ ≠ (.slice Ao15 t256.length co15 : Value).ownBlock) (.slice Ao17 t258.length co17) t258) ∧ (Kd.R (Kd.int .i64) 3 w' w.heap.size (fun k_ => some k_ ≠ (.slice Ao42 y269.length co42 : Value).ownBlock ∧ some k_ ≠ (.slice Ao15 t256.length co15 : Value).ownBlock) v266 t265) ∧ (Kd.R (Kd.int .i64) 3 w' w.heap.size (fun k_ => some k_ ≠ (.slice Ao42 y269.length co42 : Value).ownBlock ∧ some k_ ≠ (v266 : Value).ownBlock) (.slice Ao15 t256.length co15) t256) ∧ (Below w.heap.size w w')) ?_ ?_
              rotate_left
              · intro hCont
                refine two_ (i := 0) (j := 9) (Ni := some 58) (Nj := some 67) #[true, true, true, true, false, true, true, true, false, false, true, true, true, false, true, true, true, false, false, false] #[false, true, true, true, false, true, true, true, false, true, true, true, true, false, true, true, true, false, false, false] rfl rfl rfl rfl (two_of HT_.out (by kernel_rfl)) (by decide) (by decide) (fun K hK => ?_) (fun K hK => ?_)
                · skip
                  refine Kd.N_lit_step (Kd.slice 3 (Kd.int .i64)) _ 22 ?hg (N' := 58) ?hd (xs := ([] : List (List Int))) (inner := []) (ok := (fun k_ => some k_ ≠ (.slice Ao15 t256.length co15 : Value).ownBlock ∧ some k_ ≠ (.slice Ao16 t257.length co16 : Value).ownBlock ∧ some k_ ≠ (.slice Ao17 t258.length co17 : Value).ownBlock ∧ some k_ ≠ (v266 : Value).ownBlock ∧ some k_ ≠ (.slice Ao42 y269.length co42 : Value).ownBlock)) (okp := (fun k_ => some k_ ≠ (.slice Ao15 t256.length co15 : Value).ownBlock ∧ some k_ ≠ (.slice Ao16 t257.length co16 : Value).ownBlock ∧ some k_ ≠ (.slice Ao17 t258.length co17 : Value).ownBlock ∧ some k_ ≠ (v266 : Value).ownBlock ∧ some k_ ≠ (.slice Ao42 y269.length co42 : Value).ownBlock)) ?hr ?hp (fun _ hk => hk) ((show ∀ k_, w43.heap.size ≤ k_ → (fun k_ => some k_ ≠ (.slice Ao15 t256.length co15 : Value).ownBlock ∧ some k_ ≠ (.slice Ao16 t257.length co16 : Value).ownBlock ∧ some k_ ≠ (.slice Ao17 t258.length co17 : Value).ownBlock ∧ some k_ ≠ (v266 : Value).ownBlock ∧ some k_ ≠ (.slice Ao42 y269.length co42 : Value).ownBlock) k_ from fun k_ hk => ⟨Kd.fresh' (Kd.R_lt (by (with_reducible repeat (first | apply Kd.R_alloc | apply Kd.R_drewN | apply Kd.R_drew)); exact HO_9.out)) k_ hk, Kd.fresh' (Kd.N_lt (by (with_reducible repeat (first | apply Kd.N_alloc | apply Kd.N_drewN | apply Kd.N_drew)); exact HO_10.out)) k_ hk, Kd.fresh' (Kd.N_lt (by (with_reducible repeat (first | apply Kd.N_alloc | apply Kd.N_drewN | apply Kd.N_drew)); exact HO_11.out)) k_ hk, Kd.fresh' (Kd.R_lt (by (with_reducible repeat (first | apply Kd.R_alloc | apply Kd.R_drewN | apply Kd.R_drew)); exact HO_12.out)) k_ hk, Kd.fresh' (Kd.R_lt (by (with_reducible repeat (first | apply Kd.R_alloc | apply Kd.R_drewN | apply Kd.R_drew)); exact HO271.out)) k_ hk⟩) _ (Nat.le_refl _)) (Below.refl _ _) (Nat.le_refl _) (by simp) ?_; (case hd => rfl); (case hg => rfl); (case hr => first | (go_simp; done) | (go_simp; rfl)); (case hp => exact (Reps.none _ _))
                  intro v274 w48 ho49 hb hg_ hnew_
                  clear hg_ hnew_
                  (first | rw [← Ny273.out] at ho49 | (simp only [Int.reduceToNat] at ho49; rw [← Ny273.out] at ho49))
                  have n0_ := Aside0.mk (Kd.R_below (by (with_reducible repeat (first | apply Kd.R_alloc | apply Kd.R_drewN | apply Kd.R_drew)); exact HO_9.out) hb)
                  have n1_ := Aside0.mk (Kd.N_elder' (by (with_reducible repeat (first | apply Kd.N_alloc | apply Kd.N_drewN | apply Kd.N_drew)); exact HO_10.out) (Kd.N_base ho49) hb)
                  have n2_ := Aside0.mk (Kd.N_elder' (by (with_reducible repeat (first | apply Kd.N_alloc | apply Kd.N_drewN | apply Kd.N_drew)); exact HO_11.out) (Kd.N_base ho49) hb)
                  have n3_ := Aside0.mk (Kd.R_below (by (with_reducible repeat (first | apply Kd.R_alloc | apply Kd.R_drewN | apply Kd.R_drew)); exact HO_12.out) hb)
                  have n4_ := Aside0.mk (Kd.R_below (by (with_reducible repeat (first | apply Kd.R_alloc | apply Kd.R_drewN | apply Kd.R_drew)); exact HO271.out) hb)
                  have n5_ := Aside0.mk (Kd.V_elder' (by (with_reducible repeat (first | apply Kd.V_alloc | apply Kd.V_drewN | apply Kd.V_drew)); exact HO280.out) (Kd.N_base ho49) hb)
                  have n6_ := Aside0.mk (Kd.V_elder' (by (with_reducible repeat (first | apply Kd.V_alloc | apply Kd.V_drewN | apply Kd.V_drew)); exact HO288.out) (Kd.N_base ho49) hb)
                  have n7_ := Aside0.mk (Kd.V_elder' (by (with_reducible repeat (first | apply Kd.V_alloc | apply Kd.V_drewN | apply Kd.V_drew)); exact HO299.out) (Kd.N_base ho49) hb)
                  have n8_ := Aside0.mk (Kd.V_elder' (by (with_reducible repeat (first | apply Kd.V_alloc | apply Kd.V_drewN | apply Kd.V_drew)); exact HO307.out) (Kd.N_base ho49) hb)
                  have n9_ := Aside0.mk (Kd.N_lower ho49 (below_size (by repeat (first | (with_reducible first | exact HB.out | apply below_alloc | apply pw_below_drewN | apply below_drew1) | exact HB.out))))
                  have n10_ := Aside0.mk (below_step (by repeat (first | (with_reducible first | exact HB.out | apply below_alloc | apply pw_below_drewN | apply below_drew1) | exact HB.out)) hb)
                  clear HO_9
                  clear HO_10
                  clear HO_11
                  clear HO_12
                  clear HO271
                  clear HO280
                  clear HO288
                  clear HO299
                  clear HO307
                  clear HB
                  have HO_9 := n0_
                  have HO_10 := n1_
                  have HO_11 := n2_
                  have HO_12 := n3_
                  have HO271 := n4_
                  have HO280 := n5_
                  have HO288 := n6_
                  have HO299 := n7_
                  have HO307 := n8_
                  have HO275 := n9_
                  have HB := n10_
                  clear n0_ n1_ n2_ n3_ n4_ n5_ n6_ n7_ n8_ n9_ n10_
                  clear hb ho49
                  refine hK.out _ _ trivial (fun hHeld => ?_)
                  clear hK K
                  refine norm_ (a' := ?_) ?_ ?_
                  rotate_left
                  · show Act.put _ (some 58) _ = _
                    simp only [Act.put, List.setIfInBounds_toArray, List.set_cons_zero, List.set_cons_succ, i64_w, i32_w]
                    rfl
                  refine two_ (i := 4) (j := 9) (Ni := some 62) (Nj := some 67) #[true, true, true, true, true, true, true, true, false, false, true, true, true, false, true, true, true, false, false, false] #[true, true, true, true, false, true, true, true, false, true, true, true, true, false, true, true, true, false, false, false] rfl rfl rfl rfl (two_of HT_.out (by kernel_rfl)) (by decide) (by decide) (fun K hK => ?_) (fun K hK => ?_)
                  · skip
                    refine Kd.N_append_rows_step (Kd.slice 3 (Kd.int .i64)) (w0 := w) w.heap.size (by rfl) (.tmp 58) (.tmp 61) 23 22 (.slice none 0 0) 24 rfl Try.underlying23 info22 rfl (by decide) (by omega) v274 y273 y276 _ _ _ (fun k_ => some k_ ≠ (.slice Ao15 t256.length co15 : Value).ownBlock ∧ some k_ ≠ (.slice Ao17 t258.length co17 : Value).ownBlock ∧ some k_ ≠ (v266 : Value).ownBlock ∧ some k_ ≠ (.slice Ao42 y269.length co42 : Value).ownBlock) (fun k_ => ((fun k_ => some k_ ≠ (.slice Ao15 t256.length co15 : Value).ownBlock ∧ some k_ ≠ (.slice Ao17 t258.length co17 : Value).ownBlock ∧ some k_ ≠ (v266 : Value).ownBlock ∧ some k_ ≠ (.slice Ao42 y269.length co42 : Value).ownBlock)) k_ ∧ some k_ ≠ (v274 : Value).ownBlock) rfl rfl ?aO ?aR (fun _ hk => hk) ?aF ?aB ?aS ?aL ?_
                    (case aR => exact (by skip; exact Kd.V_F (Kd.V_mono (ok' := (fun k_ => ((fun k_ => some k_ ≠ (.slice Ao15 t256.length co15 : Value).ownBlock ∧ some k_ ≠ (.slice Ao17 t258.length co17 : Value).ownBlock ∧ some k_ ≠ (v266 : Value).ownBlock ∧ some k_ ≠ (.slice Ao42 y269.length co42 : Value).ownBlock)) k_ ∧ some k_ ≠ (v274 : Value).ownBlock)) (HO280.out) (fun k_ hk => by first | exact ⟨⟨hk.1.1.1, ⟨hk.1.1.2.1, ⟨hk.1.1.2.2, hk.1.2⟩⟩⟩, hk.2⟩ | simp only [hk, ne_eq, not_false_eq_true, and_self]))))
                    (case aB => exact (by repeat (first | (with_reducible first | exact HB.out | apply below_alloc | apply pw_below_drewN | apply below_drew1) | exact HB.out)))
                    (case aF => exact (fun k_ hk => ⟨Kd.fresh' (Kd.R_lt (by (with_reducible repeat (first | apply Kd.R_alloc | apply Kd.R_drewN | apply Kd.R_drew)); exact HO_9.out)) k_ hk, Kd.fresh' (Kd.N_lt (by (with_reducible repeat (first | apply Kd.N_alloc | apply Kd.N_drewN | apply Kd.N_drew)); exact HO_11.out)) k_ hk, Kd.fresh' (Kd.R_lt (by (with_reducible repeat (first | apply Kd.R_alloc | apply Kd.R_drewN | apply Kd.R_drew)); exact HO_12.out)) k_ hk, Kd.fresh' (Kd.R_lt (by (with_reducible repeat (first | apply Kd.R_alloc | apply Kd.R_drewN | apply Kd.R_drew)); exact HO271.out)) k_ hk⟩))
                    (case aO => exact (by (with_reducible repeat (first | apply Kd.N_alloc | apply Kd.N_drewN | apply Kd.N_drew)); exact Kd.N_mono HO275.out (fun _ hk => by first | exact ⟨hk.1, ⟨hk.2.2.1, ⟨hk.2.2.2.1, hk.2.2.2.2⟩⟩⟩ | simp only [hk, ne_eq, not_false_eq_true, and_self])))
                    (case aS => exact (below_size (by repeat (first | (with_reducible first | exact HB.out | apply below_alloc | apply pw_below_drewN | apply below_drew1) | exact HB.out))))
                    (case aL => have := LMc28.out; omega)
                    intro v282 w50 ho hb hg hat
                    rw [← Ny281.out] at ho
                    have n0_ := Aside0.mk (Kd.R_over' (by (with_reducible repeat (first | apply Kd.R_alloc | apply Kd.R_drewN | apply Kd.R_drew)); exact HO_9.out) (Kd.N_typed (by (with_reducible repeat (first | apply Kd.N_alloc | apply Kd.N_drewN | apply Kd.N_drew)); exact HO275.out)) (by decide) hg)
                    have n1_ := Aside0.mk (Kd.N_afterv (ok := (fun k_ => some k_ ≠ (.slice Ao15 t256.length co15 : Value).ownBlock ∧ some k_ ≠ (.slice Ao17 t258.length co17 : Value).ownBlock ∧ some k_ ≠ (v266 : Value).ownBlock ∧ some k_ ≠ (.slice Ao42 y269.length co42 : Value).ownBlock)) (by (with_reducible repeat (first | apply Kd.N_alloc | apply Kd.N_drewN | apply Kd.N_drew)); exact Kd.N_mono HO_10.out (fun _ hk => by first | exact ⟨⟨hk.1.1.1, ⟨hk.1.1.2.1, ⟨hk.1.1.2.2, hk.1.2⟩⟩⟩, hk.2⟩ | simp only [hk, ne_eq, not_false_eq_true, and_self])) hg hat)
                    have n2_ := Aside0.mk (Kd.N_afterv (ok := (fun k_ => some k_ ≠ (.slice Ao15 t256.length co15 : Value).ownBlock ∧ some k_ ≠ (.slice Ao16 t257.length co16 : Value).ownBlock ∧ some k_ ≠ (v266 : Value).ownBlock ∧ some k_ ≠ (.slice Ao42 y269.length co42 : Value).ownBlock)) (by (with_reducible repeat (first | apply Kd.N_alloc | apply Kd.N_drewN | apply Kd.N_drew)); exact Kd.N_mono HO_11.out (fun _ hk => by first | exact ⟨⟨hk.1.1.1, ⟨hk.1.1.2.1, ⟨hk.1.1.2.2, hk.1.2⟩⟩⟩, hk.2⟩ | simp only [hk, ne_eq, not_false_eq_true, and_self])) hg hat)
                    have n3_ := Aside0.mk (Kd.R_over' (by (with_reducible repeat (first | apply Kd.R_alloc | apply Kd.R_drewN | apply Kd.R_drew)); exact HO_12.out) (Kd.N_typed (by (with_reducible repeat (first | apply Kd.N_alloc | apply Kd.N_drewN | apply Kd.N_drew)); exact HO275.out)) (by decide) hg)
                    have n4_ := Aside0.mk (Kd.R_over' (by (with_reducible repeat (first | apply Kd.R_alloc | apply Kd.R_drewN | apply Kd.R_drew)); exact HO271.out) (Kd.N_typed (by (with_reducible repeat (first | apply Kd.N_alloc | apply Kd.N_drewN | apply Kd.N_drew)); exact HO275.out)) (by decide) hg)
                    have n5_ := Aside0.mk (Kd.V_afterv (ok := (fun k_ => some k_ ≠ (.slice Ao15 t256.length co15 : Value).ownBlock ∧ some k_ ≠ (.slice Ao17 t258.length co17 : Value).ownBlock ∧ some k_ ≠ (v266 : Value).ownBlock ∧ some k_ ≠ (.slice Ao42 y269.length co42 : Value).ownBlock)) (by (with_reducible repeat (first | apply Kd.V_alloc | apply Kd.V_drewN | apply Kd.V_drew)); exact Kd.V_mono HO280.out (fun _ hk => by first | exact ⟨⟨hk.1.1.1, ⟨hk.1.1.2.1, ⟨hk.1.1.2.2, hk.1.2⟩⟩⟩, hk.2⟩ | simp only [hk, ne_eq, not_false_eq_true, and_self])) hg hat)
                    have n6_ := Aside0.mk (Kd.V_afterv (ok := (fun k_ => some k_ ≠ (.slice Ao15 t256.length co15 : Value).ownBlock ∧ some k_ ≠ (.slice Ao17 t258.length co17 : Value).ownBlock ∧ some k_ ≠ (v266 : Value).ownBlock ∧ some k_ ≠ (.slice Ao42 y269.length co42 : Value).ownBlock)) (by (with_reducible repeat (first | apply Kd.V_alloc | apply Kd.V_drewN | apply Kd.V_drew)); exact Kd.V_mono HO288.out (fun _ hk => by first | exact ⟨⟨hk.1.1.1, ⟨hk.1.1.2.1, ⟨hk.1.1.2.2, hk.1.2⟩⟩⟩, hk.2⟩ | simp only [hk, ne_eq, not_false_eq_true, and_self])) hg hat)
                    have n7_ := Aside0.mk (Kd.V_afterv (ok := (fun k_ => some k_ ≠ (.slice Ao15 t256.length co15 : Value).ownBlock ∧ some k_ ≠ (.slice Ao16 t257.length co16 : Value).ownBlock ∧ some k_ ≠ (v266 : Value).ownBlock ∧ some k_ ≠ (.slice Ao42 y269.length co42 : Value).ownBlock)) (by (with_reducible repeat (first | apply Kd.V_alloc | apply Kd.V_drewN | apply Kd.V_drew)); exact Kd.V_mono HO299.out (fun _ hk => by first | exact ⟨⟨hk.1.1.1, ⟨hk.1.1.2.1, ⟨hk.1.1.2.2, hk.1.2⟩⟩⟩, hk.2⟩ | simp only [hk, ne_eq, not_false_eq_true, and_self])) hg hat)
                    have n8_ := Aside0.mk (Kd.V_afterv (ok := (fun k_ => some k_ ≠ (.slice Ao15 t256.length co15 : Value).ownBlock ∧ some k_ ≠ (.slice Ao16 t257.length co16 : Value).ownBlock ∧ some k_ ≠ (v266 : Value).ownBlock ∧ some k_ ≠ (.slice Ao42 y269.length co42 : Value).ownBlock)) (by (with_reducible repeat (first | apply Kd.V_alloc | apply Kd.V_drewN | apply Kd.V_drew)); exact Kd.V_mono HO307.out (fun _ hk => by first | exact ⟨⟨hk.1.1.1, ⟨hk.1.1.2.1, ⟨hk.1.1.2.2, hk.1.2⟩⟩⟩, hk.2⟩ | simp only [hk, ne_eq, not_false_eq_true, and_self])) hg hat)
                    have n9_ := Aside0.mk (hb)
                    have n10_ := Aside0.mk (ho)
                    clear HO_9
                    clear HO_10
                    clear HO_11
                    clear HO_12
                    clear HO271
                    clear HO280
                    clear HO288
                    clear HO299
                    clear HO307
                    clear HB
                    clear HO275
                    have HO_9 := n0_
                    have HO_10 := n1_
                    have HO_11 := n2_
                    have HO_12 := n3_
                    have HO271 := n4_
                    have HO280 := n5_
                    have HO288 := n6_
                    have HO299 := n7_
                    have HO307 := n8_
                    have HB := n9_
                    have HO283 := n10_
                    clear n0_ n1_ n2_ n3_ n4_ n5_ n6_ n7_ n8_ n9_ n10_
                    clear ho hb hg hat
                    refine hK.out _ _ trivial (fun hHeld => ?_)
                    clear hK K
                    refine norm_ (a' := ?_) ?_ ?_
                    rotate_left
                    · show Act.put _ (some 62) _ = _
                      simp only [Act.put, List.setIfInBounds_toArray, List.set_cons_zero, List.set_cons_succ, i64_w, i32_w]
                      rfl
                    refine two_ (i := 8) (j := 9) (Ni := some 66) (Nj := some 67) #[true, true, true, true, true, true, true, true, true, false, true, true, true, false, true, true, true, false, false, false] #[true, true, true, true, true, true, true, true, false, true, true, true, true, false, true, true, true, false, false, false] rfl rfl rfl rfl (two_of HT_.out (by kernel_rfl)) (by decide) (by decide) (fun K hK => ?_) (fun K hK => ?_)
                    · skip
                      refine Kd.N_append_rows_step (Kd.slice 3 (Kd.int .i64)) (w0 := w) w.heap.size (by rfl) (.tmp 62) (.tmp 65) 23 22 (.slice none 0 0) 24 rfl Try.underlying23 info22 rfl (by decide) (by omega) v282 y281 y284 _ _ _ (fun k_ => some k_ ≠ (.slice Ao15 t256.length co15 : Value).ownBlock ∧ some k_ ≠ (.slice Ao17 t258.length co17 : Value).ownBlock ∧ some k_ ≠ (v266 : Value).ownBlock ∧ some k_ ≠ (.slice Ao42 y269.length co42 : Value).ownBlock) (fun k_ => ((fun k_ => some k_ ≠ (.slice Ao15 t256.length co15 : Value).ownBlock ∧ some k_ ≠ (.slice Ao17 t258.length co17 : Value).ownBlock ∧ some k_ ≠ (v266 : Value).ownBlock ∧ some k_ ≠ (.slice Ao42 y269.length co42 : Value).ownBlock)) k_ ∧ some k_ ≠ (v282 : Value).ownBlock) rfl rfl ?aO ?aR (fun _ hk => hk) ?aF ?aB ?aS ?aL ?_
                      (case aR => exact (by skip; exact Kd.V_F (Kd.V_mono (ok' := (fun k_ => ((fun k_ => some k_ ≠ (.slice Ao15 t256.length co15 : Value).ownBlock ∧ some k_ ≠ (.slice Ao17 t258.length co17 : Value).ownBlock ∧ some k_ ≠ (v266 : Value).ownBlock ∧ some k_ ≠ (.slice Ao42 y269.length co42 : Value).ownBlock)) k_ ∧ some k_ ≠ (v282 : Value).ownBlock)) (HO288.out) (fun k_ hk => by first | exact ⟨⟨hk.1.1, ⟨hk.1.2.1, ⟨hk.1.2.2.1, hk.1.2.2.2⟩⟩⟩, hk.2⟩ | simp only [hk, ne_eq, not_false_eq_true, and_self]))))
                      (case aB => exact (by repeat (first | (with_reducible first | exact HB.out | apply below_alloc | apply pw_below_drewN | apply below_drew1) | exact HB.out)))
                      (case aF => exact (fun k_ hk => ⟨Kd.fresh' (Kd.R_lt (by (with_reducible repeat (first | apply Kd.R_alloc | apply Kd.R_drewN | apply Kd.R_drew)); exact HO_9.out)) k_ hk, Kd.fresh' (Kd.N_lt (by (with_reducible repeat (first | apply Kd.N_alloc | apply Kd.N_drewN | apply Kd.N_drew)); exact HO_11.out)) k_ hk, Kd.fresh' (Kd.R_lt (by (with_reducible repeat (first | apply Kd.R_alloc | apply Kd.R_drewN | apply Kd.R_drew)); exact HO_12.out)) k_ hk, Kd.fresh' (Kd.R_lt (by (with_reducible repeat (first | apply Kd.R_alloc | apply Kd.R_drewN | apply Kd.R_drew)); exact HO271.out)) k_ hk⟩))
                      (case aO => exact (by (with_reducible repeat (first | apply Kd.N_alloc | apply Kd.N_drewN | apply Kd.N_drew)); exact HO283.out))
                      (case aS => exact (below_size (by repeat (first | (with_reducible first | exact HB.out | apply below_alloc | apply pw_below_drewN | apply below_drew1) | exact HB.out))))
                      (case aL => have := LMc31.out; omega)
                      intro v290 w51 ho hb hg hat
                      rw [← Ny289.out] at ho
                      have n0_ := Aside0.mk (Kd.R_over' (by (with_reducible repeat (first | apply Kd.R_alloc | apply Kd.R_drewN | apply Kd.R_drew)); exact HO_9.out) (Kd.N_typed (by (with_reducible repeat (first | apply Kd.N_alloc | apply Kd.N_drewN | apply Kd.N_drew)); exact HO283.out)) (by decide) hg)
                      have n1_ := Aside0.mk (Kd.N_afterv (ok := (fun k_ => some k_ ≠ (.slice Ao15 t256.length co15 : Value).ownBlock ∧ some k_ ≠ (.slice Ao17 t258.length co17 : Value).ownBlock ∧ some k_ ≠ (v266 : Value).ownBlock ∧ some k_ ≠ (.slice Ao42 y269.length co42 : Value).ownBlock)) (by (with_reducible repeat (first | apply Kd.N_alloc | apply Kd.N_drewN | apply Kd.N_drew)); exact HO_10.out) hg hat)
                      have n2_ := Aside0.mk (Kd.N_afterv (ok := (fun k_ => some k_ ≠ (.slice Ao15 t256.length co15 : Value).ownBlock ∧ some k_ ≠ (.slice Ao16 t257.length co16 : Value).ownBlock ∧ some k_ ≠ (v266 : Value).ownBlock ∧ some k_ ≠ (.slice Ao42 y269.length co42 : Value).ownBlock)) (by (with_reducible repeat (first | apply Kd.N_alloc | apply Kd.N_drewN | apply Kd.N_drew)); exact HO_11.out) hg hat)
                      have n3_ := Aside0.mk (Kd.R_over' (by (with_reducible repeat (first | apply Kd.R_alloc | apply Kd.R_drewN | apply Kd.R_drew)); exact HO_12.out) (Kd.N_typed (by (with_reducible repeat (first | apply Kd.N_alloc | apply Kd.N_drewN | apply Kd.N_drew)); exact HO283.out)) (by decide) hg)
                      have n4_ := Aside0.mk (Kd.R_over' (by (with_reducible repeat (first | apply Kd.R_alloc | apply Kd.R_drewN | apply Kd.R_drew)); exact HO271.out) (Kd.N_typed (by (with_reducible repeat (first | apply Kd.N_alloc | apply Kd.N_drewN | apply Kd.N_drew)); exact HO283.out)) (by decide) hg)
                      have n5_ := Aside0.mk (Kd.V_afterv (ok := (fun k_ => some k_ ≠ (.slice Ao15 t256.length co15 : Value).ownBlock ∧ some k_ ≠ (.slice Ao17 t258.length co17 : Value).ownBlock ∧ some k_ ≠ (v266 : Value).ownBlock ∧ some k_ ≠ (.slice Ao42 y269.length co42 : Value).ownBlock)) (by (with_reducible repeat (first | apply Kd.V_alloc | apply Kd.V_drewN | apply Kd.V_drew)); exact HO280.out) hg hat)
                      have n6_ := Aside0.mk (Kd.V_afterv (ok := (fun k_ => some k_ ≠ (.slice Ao15 t256.length co15 : Value).ownBlock ∧ some k_ ≠ (.slice Ao17 t258.length co17 : Value).ownBlock ∧ some k_ ≠ (v266 : Value).ownBlock ∧ some k_ ≠ (.slice Ao42 y269.length co42 : Value).ownBlock)) (by (with_reducible repeat (first | apply Kd.V_alloc | apply Kd.V_drewN | apply Kd.V_drew)); exact HO288.out) hg hat)
                      have n7_ := Aside0.mk (Kd.V_afterv (ok := (fun k_ => some k_ ≠ (.slice Ao15 t256.length co15 : Value).ownBlock ∧ some k_ ≠ (.slice Ao16 t257.length co16 : Value).ownBlock ∧ some k_ ≠ (v266 : Value).ownBlock ∧ some k_ ≠ (.slice Ao42 y269.length co42 : Value).ownBlock)) (by (with_reducible repeat (first | apply Kd.V_alloc | apply Kd.V_drewN | apply Kd.V_drew)); exact HO299.out) hg hat)
                      have n8_ := Aside0.mk (Kd.V_afterv (ok := (fun k_ => some k_ ≠ (.slice Ao15 t256.length co15 : Value).ownBlock ∧ some k_ ≠ (.slice Ao16 t257.length co16 : Value).ownBlock ∧ some k_ ≠ (v266 : Value).ownBlock ∧ some k_ ≠ (.slice Ao42 y269.length co42 : Value).ownBlock)) (by (with_reducible repeat (first | apply Kd.V_alloc | apply Kd.V_drewN | apply Kd.V_drew)); exact HO307.out) hg hat)
                      have n9_ := Aside0.mk (hb)
                      have n10_ := Aside0.mk (ho)
                      clear HO_9
                      clear HO_10
                      clear HO_11
                      clear HO_12
                      clear HO271
                      clear HO280
                      clear HO288
                      clear HO299
                      clear HO307
                      clear HB
                      clear HO283
                      have HO_9 := n0_
                      have HO_10 := n1_
                      have HO_11 := n2_
                      have HO_12 := n3_
                      have HO271 := n4_
                      have HO280 := n5_
                      have HO288 := n6_
                      have HO299 := n7_
                      have HO307 := n8_
                      have HB := n9_
                      have HO291 := n10_
                      clear n0_ n1_ n2_ n3_ n4_ n5_ n6_ n7_ n8_ n9_ n10_
                      clear ho hb hg hat
                      refine hK.out _ _ trivial (fun hHeld => ?_)
                      clear hK K
                      refine norm_ (a' := ?_) ?_ ?_
                      rotate_left
                      · show Act.put _ (some 66) _ = _
                        simp only [Act.put, List.setIfInBounds_toArray, List.set_cons_zero, List.set_cons_succ, i64_w, i32_w]
                        rfl
                      refine one_ (i := 9) (N := some 67) #[true, true, true, true, true, true, true, true, true, true, true, true, true, false, true, true, true, false, false, false] rfl rfl (one_of HT_.out (by kernel_rfl)) (by decide) (fun K hK => ?_)
                      refine Kd.N_lit_step (Kd.slice 3 (Kd.int .i64)) _ 22 ?hg (N' := 67) ?hd (xs := ([] : List (List Int))) (inner := []) (ok := (fun k_ => some k_ ≠ (.slice Ao15 t256.length co15 : Value).ownBlock ∧ some k_ ≠ (.slice Ao16 t257.length co16 : Value).ownBlock ∧ some k_ ≠ (.slice Ao17 t258.length co17 : Value).ownBlock ∧ some k_ ≠ (v266 : Value).ownBlock ∧ some k_ ≠ (.slice Ao42 y269.length co42 : Value).ownBlock ∧ some k_ ≠ (v290 : Value).ownBlock)) (okp := (fun k_ => some k_ ≠ (.slice Ao15 t256.length co15 : Value).ownBlock ∧ some k_ ≠ (.slice Ao16 t257.length co16 : Value).ownBlock ∧ some k_ ≠ (.slice Ao17 t258.length co17 : Value).ownBlock ∧ some k_ ≠ (v266 : Value).ownBlock ∧ some k_ ≠ (.slice Ao42 y269.length co42 : Value).ownBlock ∧ some k_ ≠ (v290 : Value).ownBlock)) ?hr ?hp (fun _ hk => hk) ((show ∀ k_, w51.heap.size ≤ k_ → (fun k_ => some k_ ≠ (.slice Ao15 t256.length co15 : Value).ownBlock ∧ some k_ ≠ (.slice Ao16 t257.length co16 : Value).ownBlock ∧ some k_ ≠ (.slice Ao17 t258.length co17 : Value).ownBlock ∧ some k_ ≠ (v266 : Value).ownBlock ∧ some k_ ≠ (.slice Ao42 y269.length co42 : Value).ownBlock ∧ some k_ ≠ (v290 : Value).ownBlock) k_ from fun k_ hk => ⟨Kd.fresh' (Kd.R_lt (by (with_reducible repeat (first | apply Kd.R_alloc | apply Kd.R_drewN | apply Kd.R_drew)); exact HO_9.out)) k_ hk, Kd.fresh' (Kd.N_lt (by (with_reducible repeat (first | apply Kd.N_alloc | apply Kd.N_drewN | apply Kd.N_drew)); exact HO_10.out)) k_ hk, Kd.fresh' (Kd.N_lt (by (with_reducible repeat (first | apply Kd.N_alloc | apply Kd.N_drewN | apply Kd.N_drew)); exact HO_11.out)) k_ hk, Kd.fresh' (Kd.R_lt (by (with_reducible repeat (first | apply Kd.R_alloc | apply Kd.R_drewN | apply Kd.R_drew)); exact HO_12.out)) k_ hk, Kd.fresh' (Kd.R_lt (by (with_reducible repeat (first | apply Kd.R_alloc | apply Kd.R_drewN | apply Kd.R_drew)); exact HO271.out)) k_ hk, Kd.fresh' (Kd.N_lt (by (with_reducible repeat (first | apply Kd.N_alloc | apply Kd.N_drewN | apply Kd.N_drew)); exact HO291.out)) k_ hk⟩) _ (Nat.le_refl _)) (Below.refl _ _) (Nat.le_refl _) (by simp) ?_; (case hd => rfl); (case hg => rfl); (case hr => first | (go_simp; done) | (go_simp; rfl)); (case hp => exact (Reps.none _ _))
                      intro v293 w52 ho53 hb hg_ hnew_
                      clear hg_ hnew_
                      (first | rw [← Ny292.out] at ho53 | (simp only [Int.reduceToNat] at ho53; rw [← Ny292.out] at ho53))
                      have n0_ := Aside0.mk (Kd.R_below (by (with_reducible repeat (first | apply Kd.R_alloc | apply Kd.R_drewN | apply Kd.R_drew)); exact HO_9.out) hb)
                      have n1_ := Aside0.mk (Kd.N_elder' (by (with_reducible repeat (first | apply Kd.N_alloc | apply Kd.N_drewN | apply Kd.N_drew)); exact HO_10.out) (Kd.N_base ho53) hb)
                      have n2_ := Aside0.mk (Kd.N_elder' (by (with_reducible repeat (first | apply Kd.N_alloc | apply Kd.N_drewN | apply Kd.N_drew)); exact HO_11.out) (Kd.N_base ho53) hb)
                      have n3_ := Aside0.mk (Kd.R_below (by (with_reducible repeat (first | apply Kd.R_alloc | apply Kd.R_drewN | apply Kd.R_drew)); exact HO_12.out) hb)
                      have n4_ := Aside0.mk (Kd.R_below (by (with_reducible repeat (first | apply Kd.R_alloc | apply Kd.R_drewN | apply Kd.R_drew)); exact HO271.out) hb)
                      have n5_ := Aside0.mk (Kd.V_elder' (by (with_reducible repeat (first | apply Kd.V_alloc | apply Kd.V_drewN | apply Kd.V_drew)); exact HO280.out) (Kd.N_base ho53) hb)
                      have n6_ := Aside0.mk (Kd.V_elder' (by (with_reducible repeat (first | apply Kd.V_alloc | apply Kd.V_drewN | apply Kd.V_drew)); exact HO288.out) (Kd.N_base ho53) hb)
                      have n7_ := Aside0.mk (Kd.V_elder' (by (with_reducible repeat (first | apply Kd.V_alloc | apply Kd.V_drewN | apply Kd.V_drew)); exact HO299.out) (Kd.N_base ho53) hb)
                      have n8_ := Aside0.mk (Kd.V_elder' (by (with_reducible repeat (first | apply Kd.V_alloc | apply Kd.V_drewN | apply Kd.V_drew)); exact HO307.out) (Kd.N_base ho53) hb)
                      have n9_ := Aside0.mk (Kd.N_elder' (by (with_reducible repeat (first | apply Kd.N_alloc | apply Kd.N_drewN | apply Kd.N_drew)); exact HO291.out) (Kd.N_base ho53) hb)
                      have n10_ := Aside0.mk (Kd.N_lower ho53 (below_size (by repeat (first | (with_reducible first | exact HB.out | apply below_alloc | apply pw_below_drewN | apply below_drew1) | exact HB.out))))
                      have n11_ := Aside0.mk (below_step (by repeat (first | (with_reducible first | exact HB.out | apply below_alloc | apply pw_below_drewN | apply below_drew1) | exact HB.out)) hb)
                      clear HO_9
                      clear HO_10
                      clear HO_11
                      clear HO_12
                      clear HO271
                      clear HO280
                      clear HO288
                      clear HO299
                      clear HO307
                      clear HO291
                      clear HB
                      have HO_9 := n0_
                      have HO_10 := n1_
                      have HO_11 := n2_
                      have HO_12 := n3_
                      have HO271 := n4_
                      have HO280 := n5_
                      have HO288 := n6_
                      have HO299 := n7_
                      have HO307 := n8_
                      have HO291 := n9_
                      have HO294 := n10_
                      have HB := n11_
                      clear n0_ n1_ n2_ n3_ n4_ n5_ n6_ n7_ n8_ n9_ n10_ n11_
                      clear hb ho53
                      refine hK.out _ _ trivial (fun hHeld => ?_)
                      clear hK K
                      refine norm_ (a' := ?_) ?_ ?_
                      rotate_left
                      · show Act.put _ (some 67) _ = _
                        simp only [Act.put, List.setIfInBounds_toArray, List.set_cons_zero, List.set_cons_succ, i64_w, i32_w]
                        rfl
                      exact norm_ (by simp only [putAll, Act.put, List.setIfInBounds_toArray, List.set_cons_zero, List.set_cons_succ]) (hCont (v274, v282, v290, v293) _ ⟨(by (with_reducible repeat (first | apply Kd.R_alloc | apply Kd.R_drewN | apply Kd.R_drew)); exact Kd.R_mono HO271.out (fun _ hk => by first | exact ⟨hk.2, hk.1.2⟩ | simp only [hk, ne_eq, not_false_eq_true, and_self])), (by (with_reducible repeat (first | apply Kd.V_alloc | apply Kd.V_drewN | apply Kd.V_drew)); exact Kd.V_mono HO280.out (fun _ hk => by first | exact ⟨hk.1.1.2.2.2, ⟨hk.1.2, ⟨hk.2, ⟨hk.1.1.2.1, ⟨hk.1.1.2.2.1, hk.1.1.1⟩⟩⟩⟩⟩ | simp only [hk, ne_eq, not_false_eq_true, and_self])), (by (with_reducible repeat (first | apply Kd.V_alloc | apply Kd.V_drewN | apply Kd.V_drew)); exact Kd.V_mono HO288.out (fun _ hk => by first | exact ⟨hk.1.1.2.2.2, ⟨hk.1.2, ⟨hk.2, ⟨hk.1.1.2.1, ⟨hk.1.1.2.2.1, hk.1.1.1⟩⟩⟩⟩⟩ | simp only [hk, ne_eq, not_false_eq_true, and_self])), (by (with_reducible repeat (first | apply Kd.N_alloc | apply Kd.N_drewN | apply Kd.N_drew)); exact Kd.N_mono HO291.out (fun _ hk => by first | exact ⟨hk.1.2.2.2, ⟨hk.2, ⟨hk.1.2.1, ⟨hk.1.2.2.1, hk.1.1⟩⟩⟩⟩ | simp only [hk, ne_eq, not_false_eq_true, and_self])), (by (with_reducible repeat (first | apply Kd.N_alloc | apply Kd.N_drewN | apply Kd.N_drew)); exact Kd.N_mono HO294.out (fun _ hk => by first | exact ⟨hk.2.2.2.2.1, ⟨hk.2.2.2.2.2, ⟨hk.2.1, ⟨hk.2.2.1, ⟨hk.2.2.2.1, hk.1⟩⟩⟩⟩⟩ | simp only [hk, ne_eq, not_false_eq_true, and_self])), (by (with_reducible repeat (first | apply Kd.V_alloc | apply Kd.V_drewN | apply Kd.V_drew)); exact Kd.V_mono HO299.out (fun _ hk => by first | exact ⟨hk.1.1.2.2.2, ⟨hk.1.2, ⟨hk.2, ⟨hk.1.1.2.1, ⟨hk.1.1.2.2.1, hk.1.1.1⟩⟩⟩⟩⟩ | simp only [hk, ne_eq, not_false_eq_true, and_self])), (by (with_reducible repeat (first | apply Kd.V_alloc | apply Kd.V_drewN | apply Kd.V_drew)); exact Kd.V_mono HO307.out (fun _ hk => by first | exact ⟨hk.1.1.2.2.2, ⟨hk.1.2, ⟨hk.2, ⟨hk.1.1.2.1, ⟨hk.1.1.2.2.1, hk.1.1.1⟩⟩⟩⟩⟩ | simp only [hk, ne_eq, not_false_eq_true, and_self])), (by (with_reducible repeat (first | apply Kd.N_alloc | apply Kd.N_drewN | apply Kd.N_drew)); exact Kd.N_mono HO_10.out (fun _ hk => by first | exact ⟨hk.1.1.2.2.2, ⟨hk.1.2, ⟨hk.2, ⟨hk.1.1.2.1, ⟨hk.1.1.2.2.1, hk.1.1.1⟩⟩⟩⟩⟩ | simp only [hk, ne_eq, not_false_eq_true, and_self])), (by (with_reducible repeat (first | apply Kd.N_alloc | apply Kd.N_drewN | apply Kd.N_drew)); exact Kd.N_mono HO_11.out (fun _ hk => by first | exact ⟨hk.1.1.2.2.2, ⟨hk.1.2, ⟨hk.2, ⟨hk.1.1.2.1, ⟨hk.1.1.2.2.1, hk.1.1.1⟩⟩⟩⟩⟩ | simp only [hk, ne_eq, not_false_eq_true, and_self])), (by (with_reducible repeat (first | apply Kd.R_alloc | apply Kd.R_drewN | apply Kd.R_drew)); exact Kd.R_mono HO_12.out (fun _ hk => by first | exact ⟨hk.2, hk.1⟩ | simp only [hk, ne_eq, not_false_eq_true, and_self])), (by (with_reducible repeat (first | apply Kd.R_alloc | apply Kd.R_drewN | apply Kd.R_drew)); exact Kd.R_mono HO_9.out (fun _ hk => by first | exact ⟨hk.2, hk.1⟩ | simp only [hk, ne_eq, not_false_eq_true, and_self])), (by repeat (first | (with_reducible first | exact HB.out | apply below_alloc | apply pw_below_drewN | apply below_drew1) | exact HB.out))⟩)
                    · skip
                      refine Kd.N_lit_step (Kd.slice 3 (Kd.int .i64)) _ 22 ?hg (N' := 67) ?hd (xs := ([] : List (List Int))) (inner := []) (ok := (fun k_ => some k_ ≠ (.slice Ao15 t256.length co15 : Value).ownBlock ∧ some k_ ≠ (.slice Ao16 t257.length co16 : Value).ownBlock ∧ some k_ ≠ (.slice Ao17 t258.length co17 : Value).ownBlock ∧ some k_ ≠ (v266 : Value).ownBlock ∧ some k_ ≠ (.slice Ao42 y269.length co42 : Value).ownBlock ∧ some k_ ≠ (v282 : Value).ownBlock)) (okp := (fun k_ => some k_ ≠ (.slice Ao15 t256.length co15 : Value).ownBlock ∧ some k_ ≠ (.slice Ao16 t257.length co16 : Value).ownBlock ∧ some k_ ≠ (.slice Ao17 t258.length co17 : Value).ownBlock ∧ some k_ ≠ (v266 : Value).ownBlock ∧ some k_ ≠ (.slice Ao42 y269.length co42 : Value).ownBlock ∧ some k_ ≠ (v282 : Value).ownBlock)) ?hr ?hp (fun _ hk => hk) ((show ∀ k_, w50.heap.size ≤ k_ → (fun k_ => some k_ ≠ (.slice Ao15 t256.length co15 : Value).ownBlock ∧ some k_ ≠ (.slice Ao16 t257.length co16 : Value).ownBlock ∧ some k_ ≠ (.slice Ao17 t258.length co17 : Value).ownBlock ∧ some k_ ≠ (v266 : Value).ownBlock ∧ some k_ ≠ (.slice Ao42 y269.length co42 : Value).ownBlock ∧ some k_ ≠ (v282 : Value).ownBlock) k_ from fun k_ hk => ⟨Kd.fresh' (Kd.R_lt (by (with_reducible repeat (first | apply Kd.R_alloc | apply Kd.R_drewN | apply Kd.R_drew)); exact HO_9.out)) k_ hk, Kd.fresh' (Kd.N_lt (by (with_reducible repeat (first | apply Kd.N_alloc | apply Kd.N_drewN | apply Kd.N_drew)); exact HO_10.out)) k_ hk, Kd.fresh' (Kd.N_lt (by (with_reducible repeat (first | apply Kd.N_alloc | apply Kd.N_drewN | apply Kd.N_drew)); exact HO_11.out)) k_ hk, Kd.fresh' (Kd.R_lt (by (with_reducible repeat (first | apply Kd.R_alloc | apply Kd.R_drewN | apply Kd.R_drew)); exact HO_12.out)) k_ hk, Kd.fresh' (Kd.R_lt (by (with_reducible repeat (first | apply Kd.R_alloc | apply Kd.R_drewN | apply Kd.R_drew)); exact HO271.out)) k_ hk, Kd.fresh' (Kd.N_lt (by (with_reducible repeat (first | apply Kd.N_alloc | apply Kd.N_drewN | apply Kd.N_drew)); exact HO283.out)) k_ hk⟩) _ (Nat.le_refl _)) (Below.refl _ _) (Nat.le_refl _) (by simp) ?_; (case hd => rfl); (case hg => rfl); (case hr => first | (go_simp; done) | (go_simp; rfl)); (case hp => exact (Reps.none _ _))
                      intro v293 w51 ho52 hb hg_ hnew_
                      clear hg_ hnew_
                      (first | rw [← Ny292.out] at ho52 | (simp only [Int.reduceToNat] at ho52; rw [← Ny292.out] at ho52))
                      have n0_ := Aside0.mk (Kd.R_below (by (with_reducible repeat (first | apply Kd.R_alloc | apply Kd.R_drewN | apply Kd.R_drew)); exact HO_9.out) hb)
                      have n1_ := Aside0.mk (Kd.N_elder' (by (with_reducible repeat (first | apply Kd.N_alloc | apply Kd.N_drewN | apply Kd.N_drew)); exact HO_10.out) (Kd.N_base ho52) hb)
                      have n2_ := Aside0.mk (Kd.N_elder' (by (with_reducible repeat (first | apply Kd.N_alloc | apply Kd.N_drewN | apply Kd.N_drew)); exact HO_11.out) (Kd.N_base ho52) hb)
                      have n3_ := Aside0.mk (Kd.R_below (by (with_reducible repeat (first | apply Kd.R_alloc | apply Kd.R_drewN | apply Kd.R_drew)); exact HO_12.out) hb)
                      have n4_ := Aside0.mk (Kd.R_below (by (with_reducible repeat (first | apply Kd.R_alloc | apply Kd.R_drewN | apply Kd.R_drew)); exact HO271.out) hb)
                      have n5_ := Aside0.mk (Kd.V_elder' (by (with_reducible repeat (first | apply Kd.V_alloc | apply Kd.V_drewN | apply Kd.V_drew)); exact HO280.out) (Kd.N_base ho52) hb)
                      have n6_ := Aside0.mk (Kd.V_elder' (by (with_reducible repeat (first | apply Kd.V_alloc | apply Kd.V_drewN | apply Kd.V_drew)); exact HO288.out) (Kd.N_base ho52) hb)
                      have n7_ := Aside0.mk (Kd.V_elder' (by (with_reducible repeat (first | apply Kd.V_alloc | apply Kd.V_drewN | apply Kd.V_drew)); exact HO299.out) (Kd.N_base ho52) hb)
                      have n8_ := Aside0.mk (Kd.V_elder' (by (with_reducible repeat (first | apply Kd.V_alloc | apply Kd.V_drewN | apply Kd.V_drew)); exact HO307.out) (Kd.N_base ho52) hb)
                      have n9_ := Aside0.mk (Kd.N_elder' (by (with_reducible repeat (first | apply Kd.N_alloc | apply Kd.N_drewN | apply Kd.N_drew)); exact HO283.out) (Kd.N_base ho52) hb)
                      have n10_ := Aside0.mk (Kd.N_lower ho52 (below_size (by repeat (first | (with_reducible first | exact HB.out | apply below_alloc | apply pw_below_drewN | apply below_drew1) | exact HB.out))))
                      have n11_ := Aside0.mk (below_step (by repeat (first | (with_reducible first | exact HB.out | apply below_alloc | apply pw_below_drewN | apply below_drew1) | exact HB.out)) hb)
                      clear HO_9
                      clear HO_10
                      clear HO_11
                      clear HO_12
                      clear HO271
                      clear HO280
                      clear HO288
                      clear HO299
                      clear HO307
                      clear HO283
                      clear HB
                      have HO_9 := n0_
                      have HO_10 := n1_
                      have HO_11 := n2_
                      have HO_12 := n3_
                      have HO271 := n4_
                      have HO280 := n5_
                      have HO288 := n6_
                      have HO299 := n7_
                      have HO307 := n8_
                      have HO283 := n9_
                      have HO294 := n10_
                      have HB := n11_
                      clear n0_ n1_ n2_ n3_ n4_ n5_ n6_ n7_ n8_ n9_ n10_ n11_
                      clear hb ho52
                      refine hK.out _ _ trivial (fun hHeld => ?_)
                      clear hK K
                      refine norm_ (a' := ?_) ?_ ?_
                      rotate_left
                      · show Act.put _ (some 67) _ = _
                        simp only [Act.put, List.setIfInBounds_toArray, List.set_cons_zero, List.set_cons_succ, i64_w, i32_w]
                        rfl
                      refine one_ (i := 8) (N := some 66) #[true, true, true, true, true, true, true, true, true, true, true, true, true, false, true, true, true, false, false, false] rfl rfl (one_of HT_.out (by kernel_rfl)) (by decide) (fun K hK => ?_)
                      refine Kd.N_append_rows_step (Kd.slice 3 (Kd.int .i64)) (w0 := w) w.heap.size (by rfl) (.tmp 62) (.tmp 65) 23 22 (.slice none 0 0) 24 rfl Try.underlying23 info22 rfl (by decide) (by omega) v282 y281 y284 _ _ _ (fun k_ => some k_ ≠ (.slice Ao15 t256.length co15 : Value).ownBlock ∧ some k_ ≠ (.slice Ao17 t258.length co17 : Value).ownBlock ∧ some k_ ≠ (v266 : Value).ownBlock ∧ some k_ ≠ (.slice Ao42 y269.length co42 : Value).ownBlock ∧ some k_ ≠ (v293 : Value).ownBlock) (fun k_ => ((fun k_ => some k_ ≠ (.slice Ao15 t256.length co15 : Value).ownBlock ∧ some k_ ≠ (.slice Ao17 t258.length co17 : Value).ownBlock ∧ some k_ ≠ (v266 : Value).ownBlock ∧ some k_ ≠ (.slice Ao42 y269.length co42 : Value).ownBlock ∧ some k_ ≠ (v293 : Value).ownBlock)) k_ ∧ some k_ ≠ (v282 : Value).ownBlock) rfl rfl ?aO ?aR (fun _ hk => hk) ?aF ?aB ?aS ?aL ?_
                      (case aR => exact (by skip; exact Kd.V_F (Kd.V_mono (ok' := (fun k_ => ((fun k_ => some k_ ≠ (.slice Ao15 t256.length co15 : Value).ownBlock ∧ some k_ ≠ (.slice Ao17 t258.length co17 : Value).ownBlock ∧ some k_ ≠ (v266 : Value).ownBlock ∧ some k_ ≠ (.slice Ao42 y269.length co42 : Value).ownBlock ∧ some k_ ≠ (v293 : Value).ownBlock)) k_ ∧ some k_ ≠ (v282 : Value).ownBlock)) (HO288.out) (fun k_ hk => by first | exact ⟨⟨hk.1.1.1, ⟨hk.1.1.2.1, ⟨hk.1.1.2.2.1, ⟨hk.1.1.2.2.2, hk.2⟩⟩⟩⟩, hk.1.2⟩ | simp only [hk, ne_eq, not_false_eq_true, and_self]))))
                      (case aB => exact (by repeat (first | (with_reducible first | exact HB.out | apply below_alloc | apply pw_below_drewN | apply below_drew1) | exact HB.out)))
                      (case aF => exact (fun k_ hk => ⟨Kd.fresh' (Kd.R_lt (by (with_reducible repeat (first | apply Kd.R_alloc | apply Kd.R_drewN | apply Kd.R_drew)); exact HO_9.out)) k_ hk, Kd.fresh' (Kd.N_lt (by (with_reducible repeat (first | apply Kd.N_alloc | apply Kd.N_drewN | apply Kd.N_drew)); exact HO_11.out)) k_ hk, Kd.fresh' (Kd.R_lt (by (with_reducible repeat (first | apply Kd.R_alloc | apply Kd.R_drewN | apply Kd.R_drew)); exact HO_12.out)) k_ hk, Kd.fresh' (Kd.R_lt (by (with_reducible repeat (first | apply Kd.R_alloc | apply Kd.R_drewN | apply Kd.R_drew)); exact HO271.out)) k_ hk, Kd.fresh' (Kd.N_lt (by (with_reducible repeat (first | apply Kd.N_alloc | apply Kd.N_drewN | apply Kd.N_drew)); exact HO294.out)) k_ hk⟩))
                      (case aO => exact (by (with_reducible repeat (first | apply Kd.N_alloc | apply Kd.N_drewN | apply Kd.N_drew)); exact Kd.N_mono HO283.out (fun _ hk => by first | exact ⟨hk.1.1, ⟨hk.1.2.1, ⟨hk.1.2.2.1, ⟨hk.1.2.2.2, hk.2⟩⟩⟩⟩ | simp only [hk, ne_eq, not_false_eq_true, and_self])))
                      (case aS => exact (below_size (by repeat (first | (with_reducible first | exact HB.out | apply below_alloc | apply pw_below_drewN | apply below_drew1) | exact HB.out))))
                      (case aL => have := LMc31.out; omega)
                      intro v290 w53 ho hb hg hat
                      rw [← Ny289.out] at ho
                      have n0_ := Aside0.mk (Kd.R_over' (by (with_reducible repeat (first | apply Kd.R_alloc | apply Kd.R_drewN | apply Kd.R_drew)); exact HO_9.out) (Kd.N_typed (by (with_reducible repeat (first | apply Kd.N_alloc | apply Kd.N_drewN | apply Kd.N_drew)); exact HO283.out)) (by decide) hg)
                      have n1_ := Aside0.mk (Kd.N_afterv (ok := (fun k_ => some k_ ≠ (.slice Ao15 t256.length co15 : Value).ownBlock ∧ some k_ ≠ (.slice Ao17 t258.length co17 : Value).ownBlock ∧ some k_ ≠ (v266 : Value).ownBlock ∧ some k_ ≠ (.slice Ao42 y269.length co42 : Value).ownBlock ∧ some k_ ≠ (v293 : Value).ownBlock)) (by (with_reducible repeat (first | apply Kd.N_alloc | apply Kd.N_drewN | apply Kd.N_drew)); exact Kd.N_mono HO_10.out (fun _ hk => by first | exact ⟨⟨hk.1.1.1, ⟨hk.1.1.2.1, ⟨hk.1.1.2.2.1, ⟨hk.1.1.2.2.2, hk.2⟩⟩⟩⟩, hk.1.2⟩ | simp only [hk, ne_eq, not_false_eq_true, and_self])) hg hat)
                      have n2_ := Aside0.mk (Kd.N_afterv (ok := (fun k_ => some k_ ≠ (.slice Ao15 t256.length co15 : Value).ownBlock ∧ some k_ ≠ (.slice Ao16 t257.length co16 : Value).ownBlock ∧ some k_ ≠ (v266 : Value).ownBlock ∧ some k_ ≠ (.slice Ao42 y269.length co42 : Value).ownBlock ∧ some k_ ≠ (v293 : Value).ownBlock)) (by (with_reducible repeat (first | apply Kd.N_alloc | apply Kd.N_drewN | apply Kd.N_drew)); exact Kd.N_mono HO_11.out (fun _ hk => by first | exact ⟨⟨hk.1.1.1, ⟨hk.1.1.2.1, ⟨hk.1.1.2.2.1, ⟨hk.1.1.2.2.2, hk.2⟩⟩⟩⟩, hk.1.2⟩ | simp only [hk, ne_eq, not_false_eq_true, and_self])) hg hat)
                      have n3_ := Aside0.mk (Kd.R_over' (by (with_reducible repeat (first | apply Kd.R_alloc | apply Kd.R_drewN | apply Kd.R_drew)); exact HO_12.out) (Kd.N_typed (by (with_reducible repeat (first | apply Kd.N_alloc | apply Kd.N_drewN | apply Kd.N_drew)); exact HO283.out)) (by decide) hg)
                      have n4_ := Aside0.mk (Kd.R_over' (by (with_reducible repeat (first | apply Kd.R_alloc | apply Kd.R_drewN | apply Kd.R_drew)); exact HO271.out) (Kd.N_typed (by (with_reducible repeat (first | apply Kd.N_alloc | apply Kd.N_drewN | apply Kd.N_drew)); exact HO283.out)) (by decide) hg)
                      have n5_ := Aside0.mk (Kd.V_afterv (ok := (fun k_ => some k_ ≠ (.slice Ao15 t256.length co15 : Value).ownBlock ∧ some k_ ≠ (.slice Ao17 t258.length co17 : Value).ownBlock ∧ some k_ ≠ (v266 : Value).ownBlock ∧ some k_ ≠ (.slice Ao42 y269.length co42 : Value).ownBlock ∧ some k_ ≠ (v293 : Value).ownBlock)) (by (with_reducible repeat (first | apply Kd.V_alloc | apply Kd.V_drewN | apply Kd.V_drew)); exact Kd.V_mono HO280.out (fun _ hk => by first | exact ⟨⟨hk.1.1.1, ⟨hk.1.1.2.1, ⟨hk.1.1.2.2.1, ⟨hk.1.1.2.2.2, hk.2⟩⟩⟩⟩, hk.1.2⟩ | simp only [hk, ne_eq, not_false_eq_true, and_self])) hg hat)
                      have n6_ := Aside0.mk (Kd.V_afterv (ok := (fun k_ => some k_ ≠ (.slice Ao15 t256.length co15 : Value).ownBlock ∧ some k_ ≠ (.slice Ao17 t258.length co17 : Value).ownBlock ∧ some k_ ≠ (v266 : Value).ownBlock ∧ some k_ ≠ (.slice Ao42 y269.length co42 : Value).ownBlock ∧ some k_ ≠ (v293 : Value).ownBlock)) (by (with_reducible repeat (first | apply Kd.V_alloc | apply Kd.V_drewN | apply Kd.V_drew)); exact Kd.V_mono HO288.out (fun _ hk => by first | exact ⟨⟨hk.1.1.1, ⟨hk.1.1.2.1, ⟨hk.1.1.2.2.1, ⟨hk.1.1.2.2.2, hk.2⟩⟩⟩⟩, hk.1.2⟩ | simp only [hk, ne_eq, not_false_eq_true, and_self])) hg hat)
                      have n7_ := Aside0.mk (Kd.V_afterv (ok := (fun k_ => some k_ ≠ (.slice Ao15 t256.length co15 : Value).ownBlock ∧ some k_ ≠ (.slice Ao16 t257.length co16 : Value).ownBlock ∧ some k_ ≠ (v266 : Value).ownBlock ∧ some k_ ≠ (.slice Ao42 y269.length co42 : Value).ownBlock ∧ some k_ ≠ (v293 : Value).ownBlock)) (by (with_reducible repeat (first | apply Kd.V_alloc | apply Kd.V_drewN | apply Kd.V_drew)); exact Kd.V_mono HO299.out (fun _ hk => by first | exact ⟨⟨hk.1.1.1, ⟨hk.1.1.2.1, ⟨hk.1.1.2.2.1, ⟨hk.1.1.2.2.2, hk.2⟩⟩⟩⟩, hk.1.2⟩ | simp only [hk, ne_eq, not_false_eq_true, and_self])) hg hat)
                      have n8_ := Aside0.mk (Kd.V_afterv (ok := (fun k_ => some k_ ≠ (.slice Ao15 t256.length co15 : Value).ownBlock ∧ some k_ ≠ (.slice Ao16 t257.length co16 : Value).ownBlock ∧ some k_ ≠ (v266 : Value).ownBlock ∧ some k_ ≠ (.slice Ao42 y269.length co42 : Value).ownBlock ∧ some k_ ≠ (v293 : Value).ownBlock)) (by (with_reducible repeat (first | apply Kd.V_alloc | apply Kd.V_drewN | apply Kd.V_drew)); exact Kd.V_mono HO307.out (fun _ hk => by first | exact ⟨⟨hk.1.1.1, ⟨hk.1.1.2.1, ⟨hk.1.1.2.2.1, ⟨hk.1.1.2.2.2, hk.2⟩⟩⟩⟩, hk.1.2⟩ | simp only [hk, ne_eq, not_false_eq_true, and_self])) hg hat)
                      have n9_ := Aside0.mk (Kd.N_afterv (ok := (fun k_ => some k_ ≠ (.slice Ao15 t256.length co15 : Value).ownBlock ∧ some k_ ≠ (.slice Ao16 t257.length co16 : Value).ownBlock ∧ some k_ ≠ (.slice Ao17 t258.length co17 : Value).ownBlock ∧ some k_ ≠ (v266 : Value).ownBlock ∧ some k_ ≠ (.slice Ao42 y269.length co42 : Value).ownBlock)) (by (with_reducible repeat (first | apply Kd.N_alloc | apply Kd.N_drewN | apply Kd.N_drew)); exact Kd.N_mono HO294.out (fun _ hk => by first | exact ⟨⟨hk.1, ⟨hk.2.1, ⟨hk.2.2.1, ⟨hk.2.2.2.1, hk.2.2.2.2.1⟩⟩⟩⟩, hk.2.2.2.2.2⟩ | simp only [hk, ne_eq, not_false_eq_true, and_self])) hg hat)
                      have n10_ := Aside0.mk (hb)
                      have n11_ := Aside0.mk (ho)
                      clear HO_9
                      clear HO_10
                      clear HO_11
                      clear HO_12
                      clear HO271
                      clear HO280
                      clear HO288
                      clear HO299
                      clear HO307
                      clear HO294
                      clear HB
                      clear HO283
                      have HO_9 := n0_
                      have HO_10 := n1_
                      have HO_11 := n2_
                      have HO_12 := n3_
                      have HO271 := n4_
                      have HO280 := n5_
                      have HO288 := n6_
                      have HO299 := n7_
                      have HO307 := n8_
                      have HO294 := n9_
                      have HB := n10_
                      have HO291 := n11_
                      clear n0_ n1_ n2_ n3_ n4_ n5_ n6_ n7_ n8_ n9_ n10_ n11_
                      clear ho hb hg hat
                      refine hK.out _ _ trivial (fun hHeld => ?_)
                      clear hK K
                      refine norm_ (a' := ?_) ?_ ?_
                      rotate_left
                      · show Act.put _ (some 66) _ = _
                        simp only [Act.put, List.setIfInBounds_toArray, List.set_cons_zero, List.set_cons_succ, i64_w, i32_w]
                        rfl
                      exact norm_ (by simp only [putAll, Act.put, List.setIfInBounds_toArray, List.set_cons_zero, List.set_cons_succ]) (hCont (v274, v282, v290, v293) _ ⟨(by (with_reducible repeat (first | apply Kd.R_alloc | apply Kd.R_drewN | apply Kd.R_drew)); exact Kd.R_mono HO271.out (fun _ hk => by first | exact ⟨hk.2, hk.1.2⟩ | simp only [hk, ne_eq, not_false_eq_true, and_self])), (by (with_reducible repeat (first | apply Kd.V_alloc | apply Kd.V_drewN | apply Kd.V_drew)); exact Kd.V_mono HO280.out (fun _ hk => by first | exact ⟨hk.1.2.2.2.1, ⟨hk.2, ⟨hk.1.2.2.2.2, ⟨hk.1.2.1, ⟨hk.1.2.2.1, hk.1.1⟩⟩⟩⟩⟩ | simp only [hk, ne_eq, not_false_eq_true, and_self])), (by (with_reducible repeat (first | apply Kd.V_alloc | apply Kd.V_drewN | apply Kd.V_drew)); exact Kd.V_mono HO288.out (fun _ hk => by first | exact ⟨hk.1.2.2.2.1, ⟨hk.2, ⟨hk.1.2.2.2.2, ⟨hk.1.2.1, ⟨hk.1.2.2.1, hk.1.1⟩⟩⟩⟩⟩ | simp only [hk, ne_eq, not_false_eq_true, and_self])), (by (with_reducible repeat (first | apply Kd.N_alloc | apply Kd.N_drewN | apply Kd.N_drew)); exact Kd.N_mono HO291.out (fun _ hk => by first | exact ⟨hk.2.2.2.1, ⟨hk.2.2.2.2, ⟨hk.2.1, ⟨hk.2.2.1, hk.1⟩⟩⟩⟩ | simp only [hk, ne_eq, not_false_eq_true, and_self])), (by (with_reducible repeat (first | apply Kd.N_alloc | apply Kd.N_drewN | apply Kd.N_drew)); exact Kd.N_mono HO294.out (fun _ hk => by first | exact ⟨hk.1.2.2.2.2, ⟨hk.2, ⟨hk.1.2.1, ⟨hk.1.2.2.1, ⟨hk.1.2.2.2.1, hk.1.1⟩⟩⟩⟩⟩ | simp only [hk, ne_eq, not_false_eq_true, and_self])), (by (with_reducible repeat (first | apply Kd.V_alloc | apply Kd.V_drewN | apply Kd.V_drew)); exact Kd.V_mono HO299.out (fun _ hk => by first | exact ⟨hk.1.2.2.2.1, ⟨hk.2, ⟨hk.1.2.2.2.2, ⟨hk.1.2.1, ⟨hk.1.2.2.1, hk.1.1⟩⟩⟩⟩⟩ | simp only [hk, ne_eq, not_false_eq_true, and_self])), (by (with_reducible repeat (first | apply Kd.V_alloc | apply Kd.V_drewN | apply Kd.V_drew)); exact Kd.V_mono HO307.out (fun _ hk => by first | exact ⟨hk.1.2.2.2.1, ⟨hk.2, ⟨hk.1.2.2.2.2, ⟨hk.1.2.1, ⟨hk.1.2.2.1, hk.1.1⟩⟩⟩⟩⟩ | simp only [hk, ne_eq, not_false_eq_true, and_self])), (by (with_reducible repeat (first | apply Kd.N_alloc | apply Kd.N_drewN | apply Kd.N_drew)); exact Kd.N_mono HO_10.out (fun _ hk => by first | exact ⟨hk.1.2.2.2.1, ⟨hk.2, ⟨hk.1.2.2.2.2, ⟨hk.1.2.1, ⟨hk.1.2.2.1, hk.1.1⟩⟩⟩⟩⟩ | simp only [hk, ne_eq, not_false_eq_true, and_self])), (by (with_reducible repeat (first | apply Kd.N_alloc | apply Kd.N_drewN | apply Kd.N_drew)); exact Kd.N_mono HO_11.out (fun _ hk => by first | exact ⟨hk.1.2.2.2.1, ⟨hk.2, ⟨hk.1.2.2.2.2, ⟨hk.1.2.1, ⟨hk.1.2.2.1, hk.1.1⟩⟩⟩⟩⟩ | simp only [hk, ne_eq, not_false_eq_true, and_self])), (by (with_reducible repeat (first | apply Kd.R_alloc | apply Kd.R_drewN | apply Kd.R_drew)); exact Kd.R_mono HO_12.out (fun _ hk => by first | exact ⟨hk.2, hk.1⟩ | simp only [hk, ne_eq, not_false_eq_true, and_self])), (by (with_reducible repeat (first | apply Kd.R_alloc | apply Kd.R_drewN | apply Kd.R_drew)); exact Kd.R_mono HO_9.out (fun _ hk => by first | exact ⟨hk.2, hk.1⟩ | simp only [hk, ne_eq, not_false_eq_true, and_self])), (by repeat (first | (with_reducible first | exact HB.out | apply below_alloc | apply pw_below_drewN | apply below_drew1) | exact HB.out))⟩)
                  · skip
                    refine Kd.N_lit_step (Kd.slice 3 (Kd.int .i64)) _ 22 ?hg (N' := 67) ?hd (xs := ([] : List (List Int))) (inner := []) (ok := (fun k_ => some k_ ≠ (.slice Ao15 t256.length co15 : Value).ownBlock ∧ some k_ ≠ (.slice Ao16 t257.length co16 : Value).ownBlock ∧ some k_ ≠ (.slice Ao17 t258.length co17 : Value).ownBlock ∧ some k_ ≠ (v266 : Value).ownBlock ∧ some k_ ≠ (.slice Ao42 y269.length co42 : Value).ownBlock ∧ some k_ ≠ (v274 : Value).ownBlock)) (okp := (fun k_ => some k_ ≠ (.slice Ao15 t256.length co15 : Value).ownBlock ∧ some k_ ≠ (.slice Ao16 t257.length co16 : Value).ownBlock ∧ some k_ ≠ (.slice Ao17 t258.length co17 : Value).ownBlock ∧ some k_ ≠ (v266 : Value).ownBlock ∧ some k_ ≠ (.slice Ao42 y269.length co42 : Value).ownBlock ∧ some k_ ≠ (v274 : Value).ownBlock)) ?hr ?hp (fun _ hk => hk) ((show ∀ k_, w48.heap.size ≤ k_ → (fun k_ => some k_ ≠ (.slice Ao15 t256.length co15 : Value).ownBlock ∧ some k_ ≠ (.slice Ao16 t257.length co16 : Value).ownBlock ∧ some k_ ≠ (.slice Ao17 t258.length co17 : Value).ownBlock ∧ some k_ ≠ (v266 : Value).ownBlock ∧ some k_ ≠ (.slice Ao42 y269.length co42 : Value).ownBlock ∧ some k_ ≠ (v274 : Value).ownBlock) k_ from fun k_ hk => ⟨Kd.fresh' (Kd.R_lt (by (with_reducible repeat (first | apply Kd.R_alloc | apply Kd.R_drewN | apply Kd.R_drew)); exact HO_9.out)) k_ hk, Kd.fresh' (Kd.N_lt (by (with_reducible repeat (first | apply Kd.N_alloc | apply Kd.N_drewN | apply Kd.N_drew)); exact HO_10.out)) k_ hk, Kd.fresh' (Kd.N_lt (by (with_reducible repeat (first | apply Kd.N_alloc | apply Kd.N_drewN | apply Kd.N_drew)); exact HO_11.out)) k_ hk, Kd.fresh' (Kd.R_lt (by (with_reducible repeat (first | apply Kd.R_alloc | apply Kd.R_drewN | apply Kd.R_drew)); exact HO_12.out)) k_ hk, Kd.fresh' (Kd.R_lt (by (with_reducible repeat (first | apply Kd.R_alloc | apply Kd.R_drewN | apply Kd.R_drew)); exact HO271.out)) k_ hk, Kd.fresh' (Kd.N_lt (by (with_reducible repeat (first | apply Kd.N_alloc | apply Kd.N_drewN | apply Kd.N_drew)); exact HO275.out)) k_ hk⟩) _ (Nat.le_refl _)) (Below.refl _ _) (Nat.le_refl _) (by simp) ?_; (case hd => rfl); (case hg => rfl); (case hr => first | (go_simp; done) | (go_simp; rfl)); (case hp => exact (Reps.none _ _))
                    intro v293 w50 ho51 hb hg_ hnew_
                    clear hg_ hnew_
                    (first | rw [← Ny292.out] at ho51 | (simp only [Int.reduceToNat] at ho51; rw [← Ny292.out] at ho51))
                    have n0_ := Aside0.mk (Kd.R_below (by (with_reducible repeat (first | apply Kd.R_alloc | apply Kd.R_drewN | apply Kd.R_drew)); exact HO_9.out) hb)
                    have n1_ := Aside0.mk (Kd.N_elder' (by (with_reducible repeat (first | apply Kd.N_alloc | apply Kd.N_drewN | apply Kd.N_drew)); exact HO_10.out) (Kd.N_base ho51) hb)
                    have n2_ := Aside0.mk (Kd.N_elder' (by (with_reducible repeat (first | apply Kd.N_alloc | apply Kd.N_drewN | apply Kd.N_drew)); exact HO_11.out) (Kd.N_base ho51) hb)
                    have n3_ := Aside0.mk (Kd.R_below (by (with_reducible repeat (first | apply Kd.R_alloc | apply Kd.R_drewN | apply Kd.R_drew)); exact HO_12.out) hb)
                    have n4_ := Aside0.mk (Kd.R_below (by (with_reducible repeat (first | apply Kd.R_alloc | apply Kd.R_drewN | apply Kd.R_drew)); exact HO271.out) hb)
                    have n5_ := Aside0.mk (Kd.V_elder' (by (with_reducible repeat (first | apply Kd.V_alloc | apply Kd.V_drewN | apply Kd.V_drew)); exact HO280.out) (Kd.N_base ho51) hb)
                    have n6_ := Aside0.mk (Kd.V_elder' (by (with_reducible repeat (first | apply Kd.V_alloc | apply Kd.V_drewN | apply Kd.V_drew)); exact HO288.out) (Kd.N_base ho51) hb)
                    have n7_ := Aside0.mk (Kd.V_elder' (by (with_reducible repeat (first | apply Kd.V_alloc | apply Kd.V_drewN | apply Kd.V_drew)); exact HO299.out) (Kd.N_base ho51) hb)
                    have n8_ := Aside0.mk (Kd.V_elder' (by (with_reducible repeat (first | apply Kd.V_alloc | apply Kd.V_drewN | apply Kd.V_drew)); exact HO307.out) (Kd.N_base ho51) hb)
                    have n9_ := Aside0.mk (Kd.N_elder' (by (with_reducible repeat (first | apply Kd.N_alloc | apply Kd.N_drewN | apply Kd.N_drew)); exact HO275.out) (Kd.N_base ho51) hb)
                    have n10_ := Aside0.mk (Kd.N_lower ho51 (below_size (by repeat (first | (with_reducible first | exact HB.out | apply below_alloc | apply pw_below_drewN | apply below_drew1) | exact HB.out))))
                    have n11_ := Aside0.mk (below_step (by repeat (first | (with_reducible first | exact HB.out | apply below_alloc | apply pw_below_drewN | apply below_drew1) | exact HB.out)) hb)
                    clear HO_9
                    clear HO_10
                    clear HO_11
                    clear HO_12
                    clear HO271
                    clear HO280
                    clear HO288
                    clear HO299
                    clear HO307
                    clear HO275
                    clear HB
                    have HO_9 := n0_
                    have HO_10 := n1_
                    have HO_11 := n2_
                    have HO_12 := n3_
                    have HO271 := n4_
                    have HO280 := n5_
                    have HO288 := n6_
                    have HO299 := n7_
                    have HO307 := n8_
                    have HO275 := n9_
                    have HO294 := n10_
                    have HB := n11_
                    clear n0_ n1_ n2_ n3_ n4_ n5_ n6_ n7_ n8_ n9_ n10_ n11_
                    clear hb ho51
                    refine hK.out _ _ trivial (fun hHeld => ?_)
                    clear hK K
                    refine norm_ (a' := ?_) ?_ ?_
                    rotate_left
                    · show Act.put _ (some 67) _ = _
                      simp only [Act.put, List.setIfInBounds_toArray, List.set_cons_zero, List.set_cons_succ, i64_w, i32_w]
                      rfl
                    refine one_ (i := 4) (N := some 62) #[true, true, true, true, true, true, true, true, false, true, true, true, true, false, true, true, true, false, false, false] rfl rfl (one_of HT_.out (by kernel_rfl)) (by decide) (fun K hK => ?_)
                    refine Kd.N_append_rows_step (Kd.slice 3 (Kd.int .i64)) (w0 := w) w.heap.size (by rfl) (.tmp 58) (.tmp 61) 23 22 (.slice none 0 0) 24 rfl Try.underlying23 info22 rfl (by decide) (by omega) v274 y273 y276 _ _ _ (fun k_ => some k_ ≠ (.slice Ao15 t256.length co15 : Value).ownBlock ∧ some k_ ≠ (.slice Ao17 t258.length co17 : Value).ownBlock ∧ some k_ ≠ (v266 : Value).ownBlock ∧ some k_ ≠ (.slice Ao42 y269.length co42 : Value).ownBlock ∧ some k_ ≠ (v293 : Value).ownBlock) (fun k_ => ((fun k_ => some k_ ≠ (.slice Ao15 t256.length co15 : Value).ownBlock ∧ some k_ ≠ (.slice Ao17 t258.length co17 : Value).ownBlock ∧ some k_ ≠ (v266 : Value).ownBlock ∧ some k_ ≠ (.slice Ao42 y269.length co42 : Value).ownBlock ∧ some k_ ≠ (v293 : Value).ownBlock)) k_ ∧ some k_ ≠ (v274 : Value).ownBlock) rfl rfl ?aO ?aR (fun _ hk => hk) ?aF ?aB ?aS ?aL ?_
                    (case aR => exact (by skip; exact Kd.V_F (Kd.V_mono (ok' := (fun k_ => ((fun k_ => some k_ ≠ (.slice Ao15 t256.length co15 : Value).ownBlock ∧ some k_ ≠ (.slice Ao17 t258.length co17 : Value).ownBlock ∧ some k_ ≠ (v266 : Value).ownBlock ∧ some k_ ≠ (.slice Ao42 y269.length co42 : Value).ownBlock ∧ some k_ ≠ (v293 : Value).ownBlock)) k_ ∧ some k_ ≠ (v274 : Value).ownBlock)) (HO280.out) (fun k_ hk => by first | exact ⟨⟨hk.1.1.1.1, ⟨hk.1.1.1.2.1, ⟨hk.1.1.1.2.2, ⟨hk.1.1.2, hk.2⟩⟩⟩⟩, hk.1.2⟩ | simp only [hk, ne_eq, not_false_eq_true, and_self]))))
                    (case aB => exact (by repeat (first | (with_reducible first | exact HB.out | apply below_alloc | apply pw_below_drewN | apply below_drew1) | exact HB.out)))
                    (case aF => exact (fun k_ hk => ⟨Kd.fresh' (Kd.R_lt (by (with_reducible repeat (first | apply Kd.R_alloc | apply Kd.R_drewN | apply Kd.R_drew)); exact HO_9.out)) k_ hk, Kd.fresh' (Kd.N_lt (by (with_reducible repeat (first | apply Kd.N_alloc | apply Kd.N_drewN | apply Kd.N_drew)); exact HO_11.out)) k_ hk, Kd.fresh' (Kd.R_lt (by (with_reducible repeat (first | apply Kd.R_alloc | apply Kd.R_drewN | apply Kd.R_drew)); exact HO_12.out)) k_ hk, Kd.fresh' (Kd.R_lt (by (with_reducible repeat (first | apply Kd.R_alloc | apply Kd.R_drewN | apply Kd.R_drew)); exact HO271.out)) k_ hk, Kd.fresh' (Kd.N_lt (by (with_reducible repeat (first | apply Kd.N_alloc | apply Kd.N_drewN | apply Kd.N_drew)); exact HO294.out)) k_ hk⟩))
                    (case aO => exact (by (with_reducible repeat (first | apply Kd.N_alloc | apply Kd.N_drewN | apply Kd.N_drew)); exact Kd.N_mono HO275.out (fun _ hk => by first | exact ⟨hk.1.1, ⟨hk.1.2.2.1, ⟨hk.1.2.2.2.1, ⟨hk.1.2.2.2.2, hk.2⟩⟩⟩⟩ | simp only [hk, ne_eq, not_false_eq_true, and_self])))
                    (case aS => exact (below_size (by repeat (first | (with_reducible first | exact HB.out | apply below_alloc | apply pw_below_drewN | apply below_drew1) | exact HB.out))))
                    (case aL => have := LMc28.out; omega)
                    intro v282 w52 ho hb hg hat
                    rw [← Ny281.out] at ho
                    have n0_ := Aside0.mk (Kd.R_over' (by (with_reducible repeat (first | apply Kd.R_alloc | apply Kd.R_drewN | apply Kd.R_drew)); exact HO_9.out) (Kd.N_typed (by (with_reducible repeat (first | apply Kd.N_alloc | apply Kd.N_drewN | apply Kd.N_drew)); exact HO275.out)) (by decide) hg)
                    have n1_ := Aside0.mk (Kd.N_afterv (ok := (fun k_ => some k_ ≠ (.slice Ao15 t256.length co15 : Value).ownBlock ∧ some k_ ≠ (.slice Ao17 t258.length co17 : Value).ownBlock ∧ some k_ ≠ (v266 : Value).ownBlock ∧ some k_ ≠ (.slice Ao42 y269.length co42 : Value).ownBlock ∧ some k_ ≠ (v293 : Value).ownBlock)) (by (with_reducible repeat (first | apply Kd.N_alloc | apply Kd.N_drewN | apply Kd.N_drew)); exact Kd.N_mono HO_10.out (fun _ hk => by first | exact ⟨⟨hk.1.1.1.1, ⟨hk.1.1.1.2.1, ⟨hk.1.1.1.2.2, ⟨hk.1.1.2, hk.2⟩⟩⟩⟩, hk.1.2⟩ | simp only [hk, ne_eq, not_false_eq_true, and_self])) hg hat)
                    have n2_ := Aside0.mk (Kd.N_afterv (ok := (fun k_ => some k_ ≠ (.slice Ao15 t256.length co15 : Value).ownBlock ∧ some k_ ≠ (.slice Ao16 t257.length co16 : Value).ownBlock ∧ some k_ ≠ (v266 : Value).ownBlock ∧ some k_ ≠ (.slice Ao42 y269.length co42 : Value).ownBlock ∧ some k_ ≠ (v293 : Value).ownBlock)) (by (with_reducible repeat (first | apply Kd.N_alloc | apply Kd.N_drewN | apply Kd.N_drew)); exact Kd.N_mono HO_11.out (fun _ hk => by first | exact ⟨⟨hk.1.1.1.1, ⟨hk.1.1.1.2.1, ⟨hk.1.1.1.2.2, ⟨hk.1.1.2, hk.2⟩⟩⟩⟩, hk.1.2⟩ | simp only [hk, ne_eq, not_false_eq_true, and_self])) hg hat)
                    have n3_ := Aside0.mk (Kd.R_over' (by (with_reducible repeat (first | apply Kd.R_alloc | apply Kd.R_drewN | apply Kd.R_drew)); exact HO_12.out) (Kd.N_typed (by (with_reducible repeat (first | apply Kd.N_alloc | apply Kd.N_drewN | apply Kd.N_drew)); exact HO275.out)) (by decide) hg)
                    have n4_ := Aside0.mk (Kd.R_over' (by (with_reducible repeat (first | apply Kd.R_alloc | apply Kd.R_drewN | apply Kd.R_drew)); exact HO271.out) (Kd.N_typed (by (with_reducible repeat (first | apply Kd.N_alloc | apply Kd.N_drewN | apply Kd.N_drew)); exact HO275.out)) (by decide) hg)
                    have n5_ := Aside0.mk (Kd.V_afterv (ok := (fun k_ => some k_ ≠ (.slice Ao15 t256.length co15 : Value).ownBlock ∧ some k_ ≠ (.slice Ao17 t258.length co17 : Value).ownBlock ∧ some k_ ≠ (v266 : Value).ownBlock ∧ some k_ ≠ (.slice Ao42 y269.length co42 : Value).ownBlock ∧ some k_ ≠ (v293 : Value).ownBlock)) (by (with_reducible repeat (first | apply Kd.V_alloc | apply Kd.V_drewN | apply Kd.V_drew)); exact Kd.V_mono HO280.out (fun _ hk => by first | exact ⟨⟨hk.1.1.1.1, ⟨hk.1.1.1.2.1, ⟨hk.1.1.1.2.2, ⟨hk.1.1.2, hk.2⟩⟩⟩⟩, hk.1.2⟩ | simp only [hk, ne_eq, not_false_eq_true, and_self])) hg hat)
                    have n6_ := Aside0.mk (Kd.V_afterv (ok := (fun k_ => some k_ ≠ (.slice Ao15 t256.length co15 : Value).ownBlock ∧ some k_ ≠ (.slice Ao17 t258.length co17 : Value).ownBlock ∧ some k_ ≠ (v266 : Value).ownBlock ∧ some k_ ≠ (.slice Ao42 y269.length co42 : Value).ownBlock ∧ some k_ ≠ (v293 : Value).ownBlock)) (by (with_reducible repeat (first | apply Kd.V_alloc | apply Kd.V_drewN | apply Kd.V_drew)); exact Kd.V_mono HO288.out (fun _ hk => by first | exact ⟨⟨hk.1.1.1.1, ⟨hk.1.1.1.2.1, ⟨hk.1.1.1.2.2, ⟨hk.1.1.2, hk.2⟩⟩⟩⟩, hk.1.2⟩ | simp only [hk, ne_eq, not_false_eq_true, and_self])) hg hat)
                    have n7_ := Aside0.mk (Kd.V_afterv (ok := (fun k_ => some k_ ≠ (.slice Ao15 t256.length co15 : Value).ownBlock ∧ some k_ ≠ (.slice Ao16 t257.length co16 : Value).ownBlock ∧ some k_ ≠ (v266 : Value).ownBlock ∧ some k_ ≠ (.slice Ao42 y269.length co42 : Value).ownBlock ∧ some k_ ≠ (v293 : Value).ownBlock)) (by (with_reducible repeat (first | apply Kd.V_alloc | apply Kd.V_drewN | apply Kd.V_drew)); exact Kd.V_mono HO299.out (fun _ hk => by first | exact ⟨⟨hk.1.1.1.1, ⟨hk.1.1.1.2.1, ⟨hk.1.1.1.2.2, ⟨hk.1.1.2, hk.2⟩⟩⟩⟩, hk.1.2⟩ | simp only [hk, ne_eq, not_false_eq_true, and_self])) hg hat)
                    have n8_ := Aside0.mk (Kd.V_afterv (ok := (fun k_ => some k_ ≠ (.slice Ao15 t256.length co15 : Value).ownBlock ∧ some k_ ≠ (.slice Ao16 t257.length co16 : Value).ownBlock ∧ some k_ ≠ (v266 : Value).ownBlock ∧ some k_ ≠ (.slice Ao42 y269.length co42 : Value).ownBlock ∧ some k_ ≠ (v293 : Value).ownBlock)) (by (with_reducible repeat (first | apply Kd.V_alloc | apply Kd.V_drewN | apply Kd.V_drew)); exact Kd.V_mono HO307.out (fun _ hk => by first | exact ⟨⟨hk.1.1.1.1, ⟨hk.1.1.1.2.1, ⟨hk.1.1.1.2.2, ⟨hk.1.1.2, hk.2⟩⟩⟩⟩, hk.1.2⟩ | simp only [hk, ne_eq, not_false_eq_true, and_self])) hg hat)
                    have n9_ := Aside0.mk (Kd.N_afterv (ok := (fun k_ => some k_ ≠ (.slice Ao15 t256.length co15 : Value).ownBlock ∧ some k_ ≠ (.slice Ao16 t257.length co16 : Value).ownBlock ∧ some k_ ≠ (.slice Ao17 t258.length co17 : Value).ownBlock ∧ some k_ ≠ (v266 : Value).ownBlock ∧ some k_ ≠ (.slice Ao42 y269.length co42 : Value).ownBlock)) (by (with_reducible repeat (first | apply Kd.N_alloc | apply Kd.N_drewN | apply Kd.N_drew)); exact Kd.N_mono HO294.out (fun _ hk => by first | exact ⟨⟨hk.1, ⟨hk.2.1, ⟨hk.2.2.1, ⟨hk.2.2.2.1, hk.2.2.2.2.1⟩⟩⟩⟩, hk.2.2.2.2.2⟩ | simp only [hk, ne_eq, not_false_eq_true, and_self])) hg hat)
                    have n10_ := Aside0.mk (hb)
                    have n11_ := Aside0.mk (ho)
                    clear HO_9
                    clear HO_10
                    clear HO_11
                    clear HO_12
                    clear HO271
                    clear HO280
                    clear HO288
                    clear HO299
                    clear HO307
                    clear HO294
                    clear HB
                    clear HO275
                    have HO_9 := n0_
                    have HO_10 := n1_
                    have HO_11 := n2_
                    have HO_12 := n3_
                    have HO271 := n4_
                    have HO280 := n5_
                    have HO288 := n6_
                    have HO299 := n7_
                    have HO307 := n8_
                    have HO294 := n9_
                    have HB := n10_
                    have HO283 := n11_
                    clear n0_ n1_ n2_ n3_ n4_ n5_ n6_ n7_ n8_ n9_ n10_ n11_
                    clear ho hb hg hat
                    refine hK.out _ _ trivial (fun hHeld => ?_)
                    clear hK K
                    refine norm_ (a' := ?_) ?_ ?_
                    rotate_left
                    · show Act.put _ (some 62) _ = _
                      simp only [Act.put, List.setIfInBounds_toArray, List.set_cons_zero, List.set_cons_succ, i64_w, i32_w]
                      rfl
                    refine one_ (i := 8) (N := some 66) #[true, true, true, true, true, true, true, true, true, true, true, true, true, false, true, true, true, false, false, false] rfl rfl (one_of HT_.out (by kernel_rfl)) (by decide) (fun K hK => ?_)
                    refine Kd.N_append_rows_step (Kd.slice 3 (Kd.int .i64)) (w0 := w) w.heap.size (by rfl) (.tmp 62) (.tmp 65) 23 22 (.slice none 0 0) 24 rfl Try.underlying23 info22 rfl (by decide) (by omega) v282 y281 y284 _ _ _ (fun k_ => some k_ ≠ (.slice Ao15 t256.length co15 : Value).ownBlock ∧ some k_ ≠ (.slice Ao17 t258.length co17 : Value).ownBlock ∧ some k_ ≠ (v266 : Value).ownBlock ∧ some k_ ≠ (.slice Ao42 y269.length co42 : Value).ownBlock ∧ some k_ ≠ (v293 : Value).ownBlock) (fun k_ => ((fun k_ => some k_ ≠ (.slice Ao15 t256.length co15 : Value).ownBlock ∧ some k_ ≠ (.slice Ao17 t258.length co17 : Value).ownBlock ∧ some k_ ≠ (v266 : Value).ownBlock ∧ some k_ ≠ (.slice Ao42 y269.length co42 : Value).ownBlock ∧ some k_ ≠ (v293 : Value).ownBlock)) k_ ∧ some k_ ≠ (v282 : Value).ownBlock) rfl rfl ?aO ?aR (fun _ hk => hk) ?aF ?aB ?aS ?aL ?_
                    (case aR => exact (by skip; exact Kd.V_F (Kd.V_mono (ok' := (fun k_ => ((fun k_ => some k_ ≠ (.slice Ao15 t256.length co15 : Value).ownBlock ∧ some k_ ≠ (.slice Ao17 t258.length co17 : Value).ownBlock ∧ some k_ ≠ (v266 : Value).ownBlock ∧ some k_ ≠ (.slice Ao42 y269.length co42 : Value).ownBlock ∧ some k_ ≠ (v293 : Value).ownBlock)) k_ ∧ some k_ ≠ (v282 : Value).ownBlock)) (HO288.out) (fun k_ hk => by first | exact ⟨⟨hk.1.1, ⟨hk.1.2.1, ⟨hk.1.2.2.1, ⟨hk.1.2.2.2.1, hk.1.2.2.2.2⟩⟩⟩⟩, hk.2⟩ | simp only [hk, ne_eq, not_false_eq_true, and_self]))))
                    (case aB => exact (by repeat (first | (with_reducible first | exact HB.out | apply below_alloc | apply pw_below_drewN | apply below_drew1) | exact HB.out)))
                    (case aF => exact (fun k_ hk => ⟨Kd.fresh' (Kd.R_lt (by (with_reducible repeat (first | apply Kd.R_alloc | apply Kd.R_drewN | apply Kd.R_drew)); exact HO_9.out)) k_ hk, Kd.fresh' (Kd.N_lt (by (with_reducible repeat (first | apply Kd.N_alloc | apply Kd.N_drewN | apply Kd.N_drew)); exact HO_11.out)) k_ hk, Kd.fresh' (Kd.R_lt (by (with_reducible repeat (first | apply Kd.R_alloc | apply Kd.R_drewN | apply Kd.R_drew)); exact HO_12.out)) k_ hk, Kd.fresh' (Kd.R_lt (by (with_reducible repeat (first | apply Kd.R_alloc | apply Kd.R_drewN | apply Kd.R_drew)); exact HO271.out)) k_ hk, Kd.fresh' (Kd.N_lt (by (with_reducible repeat (first | apply Kd.N_alloc | apply Kd.N_drewN | apply Kd.N_drew)); exact HO294.out)) k_ hk⟩))
                    (case aO => exact (by (with_reducible repeat (first | apply Kd.N_alloc | apply Kd.N_drewN | apply Kd.N_drew)); exact HO283.out))
                    (case aS => exact (below_size (by repeat (first | (with_reducible first | exact HB.out | apply below_alloc | apply pw_below_drewN | apply below_drew1) | exact HB.out))))
                    (case aL => have := LMc31.out; omega)
                    intro v290 w53 ho hb hg hat
                    rw [← Ny289.out] at ho
                    have n0_ := Aside0.mk (Kd.R_over' (by (with_reducible repeat (first | apply Kd.R_alloc | apply Kd.R_drewN | apply Kd.R_drew)); exact HO_9.out) (Kd.N_typed (by (with_reducible repeat (first | apply Kd.N_alloc | apply Kd.N_drewN | apply Kd.N_drew)); exact HO283.out)) (by decide) hg)
                    have n1_ := Aside0.mk (Kd.N_afterv (ok := (fun k_ => some k_ ≠ (.slice Ao15 t256.length co15 : Value).ownBlock ∧ some k_ ≠ (.slice Ao17 t258.length co17 : Value).ownBlock ∧ some k_ ≠ (v266 : Value).ownBlock ∧ some k_ ≠ (.slice Ao42 y269.length co42 : Value).ownBlock ∧ some k_ ≠ (v293 : Value).ownBlock)) (by (with_reducible repeat (first | apply Kd.N_alloc | apply Kd.N_drewN | apply Kd.N_drew)); exact HO_10.out) hg hat)
                    have n2_ := Aside0.mk (Kd.N_afterv (ok := (fun k_ => some k_ ≠ (.slice Ao15 t256.length co15 : Value).ownBlock ∧ some k_ ≠ (.slice Ao16 t257.length co16 : Value).ownBlock ∧ some k_ ≠ (v266 : Value).ownBlock ∧ some k_ ≠ (.slice Ao42 y269.length co42 : Value).ownBlock ∧ some k_ ≠ (v293 : Value).ownBlock)) (by (with_reducible repeat (first | apply Kd.N_alloc | apply Kd.N_drewN | apply Kd.N_drew)); exact HO_11.out) hg hat)
                    have n3_ := Aside0.mk (Kd.R_over' (by (with_reducible repeat (first | apply Kd.R_alloc | apply Kd.R_drewN | apply Kd.R_drew)); exact HO_12.out) (Kd.N_typed (by (with_reducible repeat (first | apply Kd.N_alloc | apply Kd.N_drewN | apply Kd.N_drew)); exact HO283.out)) (by decide) hg)
                    have n4_ := Aside0.mk (Kd.R_over' (by (with_reducible repeat (first | apply Kd.R_alloc | apply Kd.R_drewN | apply Kd.R_drew)); exact HO271.out) (Kd.N_typed (by (with_reducible repeat (first | apply Kd.N_alloc | apply Kd.N_drewN | apply Kd.N_drew)); exact HO283.out)) (by decide) hg)
                    have n5_ := Aside0.mk (Kd.V_afterv (ok := (fun k_ => some k_ ≠ (.slice Ao15 t256.length co15 : Value).ownBlock ∧ some k_ ≠ (.slice Ao17 t258.length co17 : Value).ownBlock ∧ some k_ ≠ (v266 : Value).ownBlock ∧ some k_ ≠ (.slice Ao42 y269.length co42 : Value).ownBlock ∧ some k_ ≠ (v293 : Value).ownBlock)) (by (with_reducible repeat (first | apply Kd.V_alloc | apply Kd.V_drewN | apply Kd.V_drew)); exact HO280.out) hg hat)
                    have n6_ := Aside0.mk (Kd.V_afterv (ok := (fun k_ => some k_ ≠ (.slice Ao15 t256.length co15 : Value).ownBlock ∧ some k_ ≠ (.slice Ao17 t258.length co17 : Value).ownBlock ∧ some k_ ≠ (v266 : Value).ownBlock ∧ some k_ ≠ (.slice Ao42 y269.length co42 : Value).ownBlock ∧ some k_ ≠ (v293 : Value).ownBlock)) (by (with_reducible repeat (first | apply Kd.V_alloc | apply Kd.V_drewN | apply Kd.V_drew)); exact HO288.out) hg hat)
                    have n7_ := Aside0.mk (Kd.V_afterv (ok := (fun k_ => some k_ ≠ (.slice Ao15 t256.length co15 : Value).ownBlock ∧ some k_ ≠ (.slice Ao16 t257.length co16 : Value).ownBlock ∧ some k_ ≠ (v266 : Value).ownBlock ∧ some k_ ≠ (.slice Ao42 y269.length co42 : Value).ownBlock ∧ some k_ ≠ (v293 : Value).ownBlock)) (by (with_reducible repeat (first | apply Kd.V_alloc | apply Kd.V_drewN | apply Kd.V_drew)); exact HO299.out) hg hat)
                    have n8_ := Aside0.mk (Kd.V_afterv (ok := (fun k_ => some k_ ≠ (.slice Ao15 t256.length co15 : Value).ownBlock ∧ some k_ ≠ (.slice Ao16 t257.length co16 : Value).ownBlock ∧ some k_ ≠ (v266 : Value).ownBlock ∧ some k_ ≠ (.slice Ao42 y269.length co42 : Value).ownBlock ∧ some k_ ≠ (v293 : Value).ownBlock)) (by (with_reducible repeat (first | apply Kd.V_alloc | apply Kd.V_drewN | apply Kd.V_drew)); exact HO307.out) hg hat)
                    have n9_ := Aside0.mk (Kd.N_afterv (ok := (fun k_ => some k_ ≠ (.slice Ao15 t256.length co15 : Value).ownBlock ∧ some k_ ≠ (.slice Ao16 t257.length co16 : Value).ownBlock ∧ some k_ ≠ (.slice Ao17 t258.length co17 : Value).ownBlock ∧ some k_ ≠ (v266 : Value).ownBlock ∧ some k_ ≠ (.slice Ao42 y269.length co42 : Value).ownBlock)) (by (with_reducible repeat (first | apply Kd.N_alloc | apply Kd.N_drewN | apply Kd.N_drew)); exact HO294.out) hg hat)
                    have n10_ := Aside0.mk (hb)
                    have n11_ := Aside0.mk (ho)
                    clear HO_9
                    clear HO_10
                    clear HO_11
                    clear HO_12
                    clear HO271
                    clear HO280
                    clear HO288
                    clear HO299
                    clear HO307
                    clear HO294
                    clear HB
                    clear HO283
                    have HO_9 := n0_
                    have HO_10 := n1_
                    have HO_11 := n2_
                    have HO_12 := n3_
                    have HO271 := n4_
                    have HO280 := n5_
                    have HO288 := n6_
                    have HO299 := n7_
                    have HO307 := n8_
                    have HO294 := n9_
                    have HB := n10_
                    have HO291 := n11_
                    clear n0_ n1_ n2_ n3_ n4_ n5_ n6_ n7_ n8_ n9_ n10_ n11_
                    clear ho hb hg hat
                    refine hK.out _ _ trivial (fun hHeld => ?_)
                    clear hK K
                    refine norm_ (a' := ?_) ?_ ?_
                    rotate_left
                    · show Act.put _ (some 66) _ = _
                      simp only [Act.put, List.setIfInBounds_toArray, List.set_cons_zero, List.set_cons_succ, i64_w, i32_w]
                      rfl
                    exact norm_ (by simp only [putAll, Act.put, List.setIfInBounds_toArray, List.set_cons_zero, List.set_cons_succ]) (hCont (v274, v282, v290, v293) _ ⟨(by (with_reducible repeat (first | apply Kd.R_alloc | apply Kd.R_drewN | apply Kd.R_drew)); exact Kd.R_mono HO271.out (fun _ hk => by first | exact ⟨hk.2, hk.1.2⟩ | simp only [hk, ne_eq, not_false_eq_true, and_self])), (by (with_reducible repeat (first | apply Kd.V_alloc | apply Kd.V_drewN | apply Kd.V_drew)); exact Kd.V_mono HO280.out (fun _ hk => by first | exact ⟨hk.1.2.2.2.1, ⟨hk.2, ⟨hk.1.2.2.2.2, ⟨hk.1.2.1, ⟨hk.1.2.2.1, hk.1.1⟩⟩⟩⟩⟩ | simp only [hk, ne_eq, not_false_eq_true, and_self])), (by (with_reducible repeat (first | apply Kd.V_alloc | apply Kd.V_drewN | apply Kd.V_drew)); exact Kd.V_mono HO288.out (fun _ hk => by first | exact ⟨hk.1.2.2.2.1, ⟨hk.2, ⟨hk.1.2.2.2.2, ⟨hk.1.2.1, ⟨hk.1.2.2.1, hk.1.1⟩⟩⟩⟩⟩ | simp only [hk, ne_eq, not_false_eq_true, and_self])), (by (with_reducible repeat (first | apply Kd.N_alloc | apply Kd.N_drewN | apply Kd.N_drew)); exact Kd.N_mono HO291.out (fun _ hk => by first | exact ⟨hk.2.2.2.1, ⟨hk.2.2.2.2, ⟨hk.2.1, ⟨hk.2.2.1, hk.1⟩⟩⟩⟩ | simp only [hk, ne_eq, not_false_eq_true, and_self])), (by (with_reducible repeat (first | apply Kd.N_alloc | apply Kd.N_drewN | apply Kd.N_drew)); exact Kd.N_mono HO294.out (fun _ hk => by first | exact ⟨hk.1.2.2.2.2, ⟨hk.2, ⟨hk.1.2.1, ⟨hk.1.2.2.1, ⟨hk.1.2.2.2.1, hk.1.1⟩⟩⟩⟩⟩ | simp only [hk, ne_eq, not_false_eq_true, and_self])), (by (with_reducible repeat (first | apply Kd.V_alloc | apply Kd.V_drewN | apply Kd.V_drew)); exact Kd.V_mono HO299.out (fun _ hk => by first | exact ⟨hk.1.2.2.2.1, ⟨hk.2, ⟨hk.1.2.2.2.2, ⟨hk.1.2.1, ⟨hk.1.2.2.1, hk.1.1⟩⟩⟩⟩⟩ | simp only [hk, ne_eq, not_false_eq_true, and_self])), (by (with_reducible repeat (first | apply Kd.V_alloc | apply Kd.V_drewN | apply Kd.V_drew)); exact Kd.V_mono HO307.out (fun _ hk => by first | exact ⟨hk.1.2.2.2.1, ⟨hk.2, ⟨hk.1.2.2.2.2, ⟨hk.1.2.1, ⟨hk.1.2.2.1, hk.1.1⟩⟩⟩⟩⟩ | simp only [hk, ne_eq, not_false_eq_true, and_self])), (by (with_reducible repeat (first | apply Kd.N_alloc | apply Kd.N_drewN | apply Kd.N_drew)); exact Kd.N_mono HO_10.out (fun _ hk => by first | exact ⟨hk.1.2.2.2.1, ⟨hk.2, ⟨hk.1.2.2.2.2, ⟨hk.1.2.1, ⟨hk.1.2.2.1, hk.1.1⟩⟩⟩⟩⟩ | simp only [hk, ne_eq, not_false_eq_true, and_self])), (by (with_reducible repeat (first | apply Kd.N_alloc | apply Kd.N_drewN | apply Kd.N_drew)); exact Kd.N_mono HO_11.out (fun _ hk => by first | exact ⟨hk.1.2.2.2.1, ⟨hk.2, ⟨hk.1.2.2.2.2, ⟨hk.1.2.1, ⟨hk.1.2.2.1, hk.1.1⟩⟩⟩⟩⟩ | simp only [hk, ne_eq, not_false_eq_true, and_self])), (by (with_reducible repeat (first | apply Kd.R_alloc | apply Kd.R_drewN | apply Kd.R_drew)); exact Kd.R_mono HO_12.out (fun _ hk => by first | exact ⟨hk.2, hk.1⟩ | simp only [hk, ne_eq, not_false_eq_true, and_self])), (by (with_reducible repeat (first | apply Kd.R_alloc | apply Kd.R_drewN | apply Kd.R_drew)); exact Kd.R_mono HO_9.out (fun _ hk => by first | exact ⟨hk.2, hk.1⟩ | simp only [hk, ne_eq, not_false_eq_true, and_self])), (by repeat (first | (with_reducible first | exact HB.out | apply below_alloc | apply pw_below_drewN | apply below_drew1) | exact HB.out))⟩)
                · skip
                  refine Kd.N_lit_step (Kd.slice 3 (Kd.int .i64)) _ 22 ?hg (N' := 67) ?hd (xs := ([] : List (List Int))) (inner := []) (ok := (fun k_ => some k_ ≠ (.slice Ao15 t256.length co15 : Value).ownBlock ∧ some k_ ≠ (.slice Ao16 t257.length co16 : Value).ownBlock ∧ some k_ ≠ (.slice Ao17 t258.length co17 : Value).ownBlock ∧ some k_ ≠ (v266 : Value).ownBlock ∧ some k_ ≠ (.slice Ao42 y269.length co42 : Value).ownBlock)) (okp := (fun k_ => some k_ ≠ (.slice Ao15 t256.length co15 : Value).ownBlock ∧ some k_ ≠ (.slice Ao16 t257.length co16 : Value).ownBlock ∧ some k_ ≠ (.slice Ao17 t258.length co17 : Value).ownBlock ∧ some k_ ≠ (v266 : Value).ownBlock ∧ some k_ ≠ (.slice Ao42 y269.length co42 : Value).ownBlock)) ?hr ?hp (fun _ hk => hk) ((show ∀ k_, w43.heap.size ≤ k_ → (fun k_ => some k_ ≠ (.slice Ao15 t256.length co15 : Value).ownBlock ∧ some k_ ≠ (.slice Ao16 t257.length co16 : Value).ownBlock ∧ some k_ ≠ (.slice Ao17 t258.length co17 : Value).ownBlock ∧ some k_ ≠ (v266 : Value).ownBlock ∧ some k_ ≠ (.slice Ao42 y269.length co42 : Value).ownBlock) k_ from fun k_ hk => ⟨Kd.fresh' (Kd.R_lt (by (with_reducible repeat (first | apply Kd.R_alloc | apply Kd.R_drewN | apply Kd.R_drew)); exact HO_9.out)) k_ hk, Kd.fresh' (Kd.N_lt (by (with_reducible repeat (first | apply Kd.N_alloc | apply Kd.N_drewN | apply Kd.N_drew)); exact HO_10.out)) k_ hk, Kd.fresh' (Kd.N_lt (by (with_reducible repeat (first | apply Kd.N_alloc | apply Kd.N_drewN | apply Kd.N_drew)); exact HO_11.out)) k_ hk, Kd.fresh' (Kd.R_lt (by (with_reducible repeat (first | apply Kd.R_alloc | apply Kd.R_drewN | apply Kd.R_drew)); exact HO_12.out)) k_ hk, Kd.fresh' (Kd.R_lt (by (with_reducible repeat (first | apply Kd.R_alloc | apply Kd.R_drewN | apply Kd.R_drew)); exact HO271.out)) k_ hk⟩) _ (Nat.le_refl _)) (Below.refl _ _) (Nat.le_refl _) (by simp) ?_; (case hd => rfl); (case hg => rfl); (case hr => first | (go_simp; done) | (go_simp; rfl)); (case hp => exact (Reps.none _ _))
                  intro v293 w48 ho49 hb hg_ hnew_
                  clear hg_ hnew_
                  (first | rw [← Ny292.out] at ho49 | (simp only [Int.reduceToNat] at ho49; rw [← Ny292.out] at ho49))
                  have n0_ := Aside0.mk (Kd.R_below (by (with_reducible repeat (first | apply Kd.R_alloc | apply Kd.R_drewN | apply Kd.R_drew)); exact HO_9.out) hb)
                  have n1_ := Aside0.mk (Kd.N_elder' (by (with_reducible repeat (first | apply Kd.N_alloc | apply Kd.N_drewN | apply Kd.N_drew)); exact HO_10.out) (Kd.N_base ho49) hb)
                  have n2_ := Aside0.mk (Kd.N_elder' (by (with_reducible repeat (first | apply Kd.N_alloc | apply Kd.N_drewN | apply Kd.N_drew)); exact HO_11.out) (Kd.N_base ho49) hb)
                  have n3_ := Aside0.mk (Kd.R_below (by (with_reducible repeat (first | apply Kd.R_alloc | apply Kd.R_drewN | apply Kd.R_drew)); exact HO_12.out) hb)
                  have n4_ := Aside0.mk (Kd.R_below (by (with_reducible repeat (first | apply Kd.R_alloc | apply Kd.R_drewN | apply Kd.R_drew)); exact HO271.out) hb)
                  have n5_ := Aside0.mk (Kd.V_elder' (by (with_reducible repeat (first | apply Kd.V_alloc | apply Kd.V_drewN | apply Kd.V_drew)); exact HO280.out) (Kd.N_base ho49) hb)
                  have n6_ := Aside0.mk (Kd.V_elder' (by (with_reducible repeat (first | apply Kd.V_alloc | apply Kd.V_drewN | apply Kd.V_drew)); exact HO288.out) (Kd.N_base ho49) hb)
                  have n7_ := Aside0.mk (Kd.V_elder' (by (with_reducible repeat (first | apply Kd.V_alloc | apply Kd.V_drewN | apply Kd.V_drew)); exact HO299.out) (Kd.N_base ho49) hb)
                  have n8_ := Aside0.mk (Kd.V_elder' (by (with_reducible repeat (first | apply Kd.V_alloc | apply Kd.V_drewN | apply Kd.V_drew)); exact HO307.out) (Kd.N_base ho49) hb)
                  have n9_ := Aside0.mk (Kd.N_lower ho49 (below_size (by repeat (first | (with_reducible first | exact HB.out | apply below_alloc | apply pw_below_drewN | apply below_drew1) | exact HB.out))))
                  have n10_ := Aside0.mk (below_step (by repeat (first | (with_reducible first | exact HB.out | apply below_alloc | apply pw_below_drewN | apply below_drew1) | exact HB.out)) hb)
                  clear HO_9
                  clear HO_10
                  clear HO_11
                  clear HO_12
                  clear HO271
                  clear HO280
                  clear HO288
                  clear HO299
                  clear HO307
                  clear HB
                  have HO_9 := n0_
                  have HO_10 := n1_
                  have HO_11 := n2_
                  have HO_12 := n3_
                  have HO271 := n4_
                  have HO280 := n5_
                  have HO288 := n6_
                  have HO299 := n7_
                  have HO307 := n8_
                  have HO294 := n9_
                  have HB := n10_
                  clear n0_ n1_ n2_ n3_ n4_ n5_ n6_ n7_ n8_ n9_ n10_
                  clear hb ho49
                  refine hK.out _ _ trivial (fun hHeld => ?_)
                  clear hK K
                  refine norm_ (a' := ?_) ?_ ?_
                  rotate_left
                  · show Act.put _ (some 67) _ = _
                    simp only [Act.put, List.setIfInBounds_toArray, List.set_cons_zero, List.set_cons_succ, i64_w, i32_w]
                    rfl
                  refine one_ (i := 0) (N := some 58) #[true, true, true, true, false, true, true, true, false, true, true, true, true, false, true, true, true, false, false, false] rfl rfl (one_of HT_.out (by kernel_rfl)) (by decide) (fun K hK => ?_)
                  refine Kd.N_lit_step (Kd.slice 3 (Kd.int .i64)) _ 22 ?hg (N' := 58) ?hd (xs := ([] : List (List Int))) (inner := []) (ok := (fun k_ => some k_ ≠ (.slice Ao15 t256.length co15 : Value).ownBlock ∧ some k_ ≠ (.slice Ao16 t257.length co16 : Value).ownBlock ∧ some k_ ≠ (.slice Ao17 t258.length co17 : Value).ownBlock ∧ some k_ ≠ (v266 : Value).ownBlock ∧ some k_ ≠ (.slice Ao42 y269.length co42 : Value).ownBlock ∧ some k_ ≠ (v293 : Value).ownBlock)) (okp := (fun k_ => some k_ ≠ (.slice Ao15 t256.length co15 : Value).ownBlock ∧ some k_ ≠ (.slice Ao16 t257.length co16 : Value).ownBlock ∧ some k_ ≠ (.slice Ao17 t258.length co17 : Value).ownBlock ∧ some k_ ≠ (v266 : Value).ownBlock ∧ some k_ ≠ (.slice Ao42 y269.length co42 : Value).ownBlock ∧ some k_ ≠ (v293 : Value).ownBlock)) ?hr ?hp (fun _ hk => hk) ((show ∀ k_, w48.heap.size ≤ k_ → (fun k_ => some k_ ≠ (.slice Ao15 t256.length co15 : Value).ownBlock ∧ some k_ ≠ (.slice Ao16 t257.length co16 : Value).ownBlock ∧ some k_ ≠ (.slice Ao17 t258.length co17 : Value).ownBlock ∧ some k_ ≠ (v266 : Value).ownBlock ∧ some k_ ≠ (.slice Ao42 y269.length co42 : Value).ownBlock ∧ some k_ ≠ (v293 : Value).ownBlock) k_ from fun k_ hk => ⟨Kd.fresh' (Kd.R_lt (by (with_reducible repeat (first | apply Kd.R_alloc | apply Kd.R_drewN | apply Kd.R_drew)); exact HO_9.out)) k_ hk, Kd.fresh' (Kd.N_lt (by (with_reducible repeat (first | apply Kd.N_alloc | apply Kd.N_drewN | apply Kd.N_drew)); exact HO_10.out)) k_ hk, Kd.fresh' (Kd.N_lt (by (with_reducible repeat (first | apply Kd.N_alloc | apply Kd.N_drewN | apply Kd.N_drew)); exact HO_11.out)) k_ hk, Kd.fresh' (Kd.R_lt (by (with_reducible repeat (first | apply Kd.R_alloc | apply Kd.R_drewN | apply Kd.R_drew)); exact HO_12.out)) k_ hk, Kd.fresh' (Kd.R_lt (by (with_reducible repeat (first | apply Kd.R_alloc | apply Kd.R_drewN | apply Kd.R_drew)); exact HO271.out)) k_ hk, Kd.fresh' (Kd.N_lt (by (with_reducible repeat (first | apply Kd.N_alloc | apply Kd.N_drewN | apply Kd.N_drew)); exact HO294.out)) k_ hk⟩) _ (Nat.le_refl _)) (Below.refl _ _) (Nat.le_refl _) (by simp) ?_; (case hd => rfl); (case hg => rfl); (case hr => first | (go_simp; done) | (go_simp; rfl)); (case hp => exact (Reps.none _ _))
                  intro v274 w50 ho51 hb hg_ hnew_
                  clear hg_ hnew_
                  (first | rw [← Ny273.out] at ho51 | (simp only [Int.reduceToNat] at ho51; rw [← Ny273.out] at ho51))
                  have n0_ := Aside0.mk (Kd.R_below (by (with_reducible repeat (first | apply Kd.R_alloc | apply Kd.R_drewN | apply Kd.R_drew)); exact HO_9.out) hb)
                  have n1_ := Aside0.mk (Kd.N_elder' (by (with_reducible repeat (first | apply Kd.N_alloc | apply Kd.N_drewN | apply Kd.N_drew)); exact HO_10.out) (Kd.N_base ho51) hb)
                  have n2_ := Aside0.mk (Kd.N_elder' (by (with_reducible repeat (first | apply Kd.N_alloc | apply Kd.N_drewN | apply Kd.N_drew)); exact HO_11.out) (Kd.N_base ho51) hb)
                  have n3_ := Aside0.mk (Kd.R_below (by (with_reducible repeat (first | apply Kd.R_alloc | apply Kd.R_drewN | apply Kd.R_drew)); exact HO_12.out) hb)
                  have n4_ := Aside0.mk (Kd.R_below (by (with_reducible repeat (first | apply Kd.R_alloc | apply Kd.R_drewN | apply Kd.R_drew)); exact HO271.out) hb)
                  have n5_ := Aside0.mk (Kd.V_elder' (by (with_reducible repeat (first | apply Kd.V_alloc | apply Kd.V_drewN | apply Kd.V_drew)); exact HO280.out) (Kd.N_base ho51) hb)
                  have n6_ := Aside0.mk (Kd.V_elder' (by (with_reducible repeat (first | apply Kd.V_alloc | apply Kd.V_drewN | apply Kd.V_drew)); exact HO288.out) (Kd.N_base ho51) hb)
                  have n7_ := Aside0.mk (Kd.V_elder' (by (with_reducible repeat (first | apply Kd.V_alloc | apply Kd.V_drewN | apply Kd.V_drew)); exact HO299.out) (Kd.N_base ho51) hb)
                  have n8_ := Aside0.mk (Kd.V_elder' (by (with_reducible repeat (first | apply Kd.V_alloc | apply Kd.V_drewN | apply Kd.V_drew)); exact HO307.out) (Kd.N_base ho51) hb)
                  have n9_ := Aside0.mk (Kd.N_elder' (by (with_reducible repeat (first | apply Kd.N_alloc | apply Kd.N_drewN | apply Kd.N_drew)); exact HO294.out) (Kd.N_base ho51) hb)
                  have n10_ := Aside0.mk (Kd.N_lower ho51 (below_size (by repeat (first | (with_reducible first | exact HB.out | apply below_alloc | apply pw_below_drewN | apply below_drew1) | exact HB.out))))
                  have n11_ := Aside0.mk (below_step (by repeat (first | (with_reducible first | exact HB.out | apply below_alloc | apply pw_below_drewN | apply below_drew1) | exact HB.out)) hb)
                  clear HO_9
                  clear HO_10
                  clear HO_11
                  clear HO_12
                  clear HO271
                  clear HO280
                  clear HO288
                  clear HO299
                  clear HO307
                  clear HO294
                  clear HB
                  have HO_9 := n0_
                  have HO_10 := n1_
                  have HO_11 := n2_
                  have HO_12 := n3_
                  have HO271 := n4_
                  have HO280 := n5_
                  have HO288 := n6_
                  have HO299 := n7_
                  have HO307 := n8_
                  have HO294 := n9_
                  have HO275 := n10_
                  have HB := n11_
                  clear n0_ n1_ n2_ n3_ n4_ n5_ n6_ n7_ n8_ n9_ n10_ n11_
                  clear hb ho51
                  refine hK.out _ _ trivial (fun hHeld => ?_)
                  clear hK K
                  refine norm_ (a' := ?_) ?_ ?_
                  rotate_left
                  · show Act.put _ (some 58) _ = _
                    simp only [Act.put, List.setIfInBounds_toArray, List.set_cons_zero, List.set_cons_succ, i64_w, i32_w]
                    rfl
                  refine one_ (i := 4) (N := some 62) #[true, true, true, true, true, true, true, true, false, true, true, true, true, false, true, true, true, false, false, false] rfl rfl (one_of HT_.out (by kernel_rfl)) (by decide) (fun K hK => ?_)
                  refine Kd.N_append_rows_step (Kd.slice 3 (Kd.int .i64)) (w0 := w) w.heap.size (by rfl) (.tmp 58) (.tmp 61) 23 22 (.slice none 0 0) 24 rfl Try.underlying23 info22 rfl (by decide) (by omega) v274 y273 y276 _ _ _ (fun k_ => some k_ ≠ (.slice Ao15 t256.length co15 : Value).ownBlock ∧ some k_ ≠ (.slice Ao17 t258.length co17 : Value).ownBlock ∧ some k_ ≠ (v266 : Value).ownBlock ∧ some k_ ≠ (.slice Ao42 y269.length co42 : Value).ownBlock ∧ some k_ ≠ (v293 : Value).ownBlock) (fun k_ => ((fun k_ => some k_ ≠ (.slice Ao15 t256.length co15 : Value).ownBlock ∧ some k_ ≠ (.slice Ao17 t258.length co17 : Value).ownBlock ∧ some k_ ≠ (v266 : Value).ownBlock ∧ some k_ ≠ (.slice Ao42 y269.length co42 : Value).ownBlock ∧ some k_ ≠ (v293 : Value).ownBlock)) k_ ∧ some k_ ≠ (v274 : Value).ownBlock) rfl rfl ?aO ?aR (fun _ hk => hk) ?aF ?aB ?aS ?aL ?_
                  (case aR => exact (by skip; exact Kd.V_F (Kd.V_mono (ok' := (fun k_ => ((fun k_ => some k_ ≠ (.slice Ao15 t256.length co15 : Value).ownBlock ∧ some k_ ≠ (.slice Ao17 t258.length co17 : Value).ownBlock ∧ some k_ ≠ (v266 : Value).ownBlock ∧ some k_ ≠ (.slice Ao42 y269.length co42 : Value).ownBlock ∧ some k_ ≠ (v293 : Value).ownBlock)) k_ ∧ some k_ ≠ (v274 : Value).ownBlock)) (HO280.out) (fun k_ hk => by first | exact ⟨⟨hk.1.1.1.1, ⟨hk.1.1.1.2.1, ⟨hk.1.1.1.2.2, ⟨hk.1.1.2, hk.1.2⟩⟩⟩⟩, hk.2⟩ | simp only [hk, ne_eq, not_false_eq_true, and_self]))))
                  (case aB => exact (by repeat (first | (with_reducible first | exact HB.out | apply below_alloc | apply pw_below_drewN | apply below_drew1) | exact HB.out)))
                  (case aF => exact (fun k_ hk => ⟨Kd.fresh' (Kd.R_lt (by (with_reducible repeat (first | apply Kd.R_alloc | apply Kd.R_drewN | apply Kd.R_drew)); exact HO_9.out)) k_ hk, Kd.fresh' (Kd.N_lt (by (with_reducible repeat (first | apply Kd.N_alloc | apply Kd.N_drewN | apply Kd.N_drew)); exact HO_11.out)) k_ hk, Kd.fresh' (Kd.R_lt (by (with_reducible repeat (first | apply Kd.R_alloc | apply Kd.R_drewN | apply Kd.R_drew)); exact HO_12.out)) k_ hk, Kd.fresh' (Kd.R_lt (by (with_reducible repeat (first | apply Kd.R_alloc | apply Kd.R_drewN | apply Kd.R_drew)); exact HO271.out)) k_ hk, Kd.fresh' (Kd.N_lt (by (with_reducible repeat (first | apply Kd.N_alloc | apply Kd.N_drewN | apply Kd.N_drew)); exact HO294.out)) k_ hk⟩))
                  (case aO => exact (by (with_reducible repeat (first | apply Kd.N_alloc | apply Kd.N_drewN | apply Kd.N_drew)); exact Kd.N_mono HO275.out (fun _ hk => by first | exact ⟨hk.1, ⟨hk.2.2.1, ⟨hk.2.2.2.1, ⟨hk.2.2.2.2.1, hk.2.2.2.2.2⟩⟩⟩⟩ | simp only [hk, ne_eq, not_false_eq_true, and_self])))
                  (case aS => exact (below_size (by repeat (first | (with_reducible first | exact HB.out | apply below_alloc | apply pw_below_drewN | apply below_drew1) | exact HB.out))))
                  (case aL => have := LMc28.out; omega)
                  intro v282 w52 ho hb hg hat
                  rw [← Ny281.out] at ho
                  have n0_ := Aside0.mk (Kd.R_over' (by (with_reducible repeat (first | apply Kd.R_alloc | apply Kd.R_drewN | apply Kd.R_drew)); exact HO_9.out) (Kd.N_typed (by (with_reducible repeat (first | apply Kd.N_alloc | apply Kd.N_drewN | apply Kd.N_drew)); exact HO275.out)) (by decide) hg)
                  have n1_ := Aside0.mk (Kd.N_afterv (ok := (fun k_ => some k_ ≠ (.slice Ao15 t256.length co15 : Value).ownBlock ∧ some k_ ≠ (.slice Ao17 t258.length co17 : Value).ownBlock ∧ some k_ ≠ (v266 : Value).ownBlock ∧ some k_ ≠ (.slice Ao42 y269.length co42 : Value).ownBlock ∧ some k_ ≠ (v293 : Value).ownBlock)) (by (with_reducible repeat (first | apply Kd.N_alloc | apply Kd.N_drewN | apply Kd.N_drew)); exact Kd.N_mono HO_10.out (fun _ hk => by first | exact ⟨⟨hk.1.1.1.1, ⟨hk.1.1.1.2.1, ⟨hk.1.1.1.2.2, ⟨hk.1.1.2, hk.1.2⟩⟩⟩⟩, hk.2⟩ | simp only [hk, ne_eq, not_false_eq_true, and_self])) hg hat)
                  have n2_ := Aside0.mk (Kd.N_afterv (ok := (fun k_ => some k_ ≠ (.slice Ao15 t256.length co15 : Value).ownBlock ∧ some k_ ≠ (.slice Ao16 t257.length co16 : Value).ownBlock ∧ some k_ ≠ (v266 : Value).ownBlock ∧ some k_ ≠ (.slice Ao42 y269.length co42 : Value).ownBlock ∧ some k_ ≠ (v293 : Value).ownBlock)) (by (with_reducible repeat (first | apply Kd.N_alloc | apply Kd.N_drewN | apply Kd.N_drew)); exact Kd.N_mono HO_11.out (fun _ hk => by first | exact ⟨⟨hk.1.1.1.1, ⟨hk.1.1.1.2.1, ⟨hk.1.1.1.2.2, ⟨hk.1.1.2, hk.1.2⟩⟩⟩⟩, hk.2⟩ | simp only [hk, ne_eq, not_false_eq_true, and_self])) hg hat)
                  have n3_ := Aside0.mk (Kd.R_over' (by (with_reducible repeat (first | apply Kd.R_alloc | apply Kd.R_drewN | apply Kd.R_drew)); exact HO_12.out) (Kd.N_typed (by (with_reducible repeat (first | apply Kd.N_alloc | apply Kd.N_drewN | apply Kd.N_drew)); exact HO275.out)) (by decide) hg)
                  have n4_ := Aside0.mk (Kd.R_over' (by (with_reducible repeat (first | apply Kd.R_alloc | apply Kd.R_drewN | apply Kd.R_drew)); exact HO271.out) (Kd.N_typed (by (with_reducible repeat (first | apply Kd.N_alloc | apply Kd.N_drewN | apply Kd.N_drew)); exact HO275.out)) (by decide) hg)
                  have n5_ := Aside0.mk (Kd.V_afterv (ok := (fun k_ => some k_ ≠ (.slice Ao15 t256.length co15 : Value).ownBlock ∧ some k_ ≠ (.slice Ao17 t258.length co17 : Value).ownBlock ∧ some k_ ≠ (v266 : Value).ownBlock ∧ some k_ ≠ (.slice Ao42 y269.length co42 : Value).ownBlock ∧ some k_ ≠ (v293 : Value).ownBlock)) (by (with_reducible repeat (first | apply Kd.V_alloc | apply Kd.V_drewN | apply Kd.V_drew)); exact Kd.V_mono HO280.out (fun _ hk => by first | exact ⟨⟨hk.1.1.1.1, ⟨hk.1.1.1.2.1, ⟨hk.1.1.1.2.2, ⟨hk.1.1.2, hk.1.2⟩⟩⟩⟩, hk.2⟩ | simp only [hk, ne_eq, not_false_eq_true, and_self])) hg hat)
                  have n6_ := Aside0.mk (Kd.V_afterv (ok := (fun k_ => some k_ ≠ (.slice Ao15 t256.length co15 : Value).ownBlock ∧ some k_ ≠ (.slice Ao17 t258.length co17 : Value).ownBlock ∧ some k_ ≠ (v266 : Value).ownBlock ∧ some k_ ≠ (.slice Ao42 y269.length co42 : Value).ownBlock ∧ some k_ ≠ (v293 : Value).ownBlock)) (by (with_reducible repeat (first | apply Kd.V_alloc | apply Kd.V_drewN | apply Kd.V_drew)); exact Kd.V_mono HO288.out (fun _ hk => by first | exact ⟨⟨hk.1.1.1.1, ⟨hk.1.1.1.2.1, ⟨hk.1.1.1.2.2, ⟨hk.1.1.2, hk.1.2⟩⟩⟩⟩, hk.2⟩ | simp only [hk, ne_eq, not_false_eq_true, and_self])) hg hat)
                  have n7_ := Aside0.mk (Kd.V_afterv (ok := (fun k_ => some k_ ≠ (.slice Ao15 t256.length co15 : Value).ownBlock ∧ some k_ ≠ (.slice Ao16 t257.length co16 : Value).ownBlock ∧ some k_ ≠ (v266 : Value).ownBlock ∧ some k_ ≠ (.slice Ao42 y269.length co42 : Value).ownBlock ∧ some k_ ≠ (v293 : Value).ownBlock)) (by (with_reducible repeat (first | apply Kd.V_alloc | apply Kd.V_drewN | apply Kd.V_drew)); exact Kd.V_mono HO299.out (fun _ hk => by first | exact ⟨⟨hk.1.1.1.1, ⟨hk.1.1.1.2.1, ⟨hk.1.1.1.2.2, ⟨hk.1.1.2, hk.1.2⟩⟩⟩⟩, hk.2⟩ | simp only [hk, ne_eq, not_false_eq_true, and_self])) hg hat)
                  have n8_ := Aside0.mk (Kd.V_afterv (ok := (fun k_ => some k_ ≠ (.slice Ao15 t256.length co15 : Value).ownBlock ∧ some k_ ≠ (.slice Ao16 t257.length co16 : Value).ownBlock ∧ some k_ ≠ (v266 : Value).ownBlock ∧ some k_ ≠ (.slice Ao42 y269.length co42 : Value).ownBlock ∧ some k_ ≠ (v293 : Value).ownBlock)) (by (with_reducible repeat (first | apply Kd.V_alloc | apply Kd.V_drewN | apply Kd.V_drew)); exact Kd.V_mono HO307.out (fun _ hk => by first | exact ⟨⟨hk.1.1.1.1, ⟨hk.1.1.1.2.1, ⟨hk.1.1.1.2.2, ⟨hk.1.1.2, hk.1.2⟩⟩⟩⟩, hk.2⟩ | simp only [hk, ne_eq, not_false_eq_true, and_self])) hg hat)
                  have n9_ := Aside0.mk (Kd.N_afterv (ok := (fun k_ => some k_ ≠ (.slice Ao15 t256.length co15 : Value).ownBlock ∧ some k_ ≠ (.slice Ao16 t257.length co16 : Value).ownBlock ∧ some k_ ≠ (.slice Ao17 t258.length co17 : Value).ownBlock ∧ some k_ ≠ (v266 : Value).ownBlock ∧ some k_ ≠ (.slice Ao42 y269.length co42 : Value).ownBlock)) (by (with_reducible repeat (first | apply Kd.N_alloc | apply Kd.N_drewN | apply Kd.N_drew)); exact HO294.out) hg hat)
                  have n10_ := Aside0.mk (hb)
                  have n11_ := Aside0.mk (ho)
                  clear HO_9
                  clear HO_10
                  clear HO_11
                  clear HO_12
                  clear HO271
                  clear HO280
                  clear HO288
                  clear HO299
                  clear HO307
                  clear HO294
                  clear HB
                  clear HO275
                  have HO_9 := n0_
                  have HO_10 := n1_
                  have HO_11 := n2_
                  have HO_12 := n3_
                  have HO271 := n4_
                  have HO280 := n5_
                  have HO288 := n6_
                  have HO299 := n7_
                  have HO307 := n8_
                  have HO294 := n9_
                  have HB := n10_
                  have HO283 := n11_
                  clear n0_ n1_ n2_ n3_ n4_ n5_ n6_ n7_ n8_ n9_ n10_ n11_
                  clear ho hb hg hat
                  refine hK.out _ _ trivial (fun hHeld => ?_)
                  clear hK K
                  refine norm_ (a' := ?_) ?_ ?_
                  rotate_left
                  · show Act.put _ (some 62) _ = _
                    simp only [Act.put, List.setIfInBounds_toArray, List.set_cons_zero, List.set_cons_succ, i64_w, i32_w]
                    rfl
                  refine one_ (i := 8) (N := some 66) #[true, true, true, true, true, true, true, true, true, true, true, true, true, false, true, true, true, false, false, false] rfl rfl (one_of HT_.out (by kernel_rfl)) (by decide) (fun K hK => ?_)
                  refine Kd.N_append_rows_step (Kd.slice 3 (Kd.int .i64)) (w0 := w) w.heap.size (by rfl) (.tmp 62) (.tmp 65) 23 22 (.slice none 0 0) 24 rfl Try.underlying23 info22 rfl (by decide) (by omega) v282 y281 y284 _ _ _ (fun k_ => some k_ ≠ (.slice Ao15 t256.length co15 : Value).ownBlock ∧ some k_ ≠ (.slice Ao17 t258.length co17 : Value).ownBlock ∧ some k_ ≠ (v266 : Value).ownBlock ∧ some k_ ≠ (.slice Ao42 y269.length co42 : Value).ownBlock ∧ some k_ ≠ (v293 : Value).ownBlock) (fun k_ => ((fun k_ => some k_ ≠ (.slice Ao15 t256.length co15 : Value).ownBlock ∧ some k_ ≠ (.slice Ao17 t258.length co17 : Value).ownBlock ∧ some k_ ≠ (v266 : Value).ownBlock ∧ some k_ ≠ (.slice Ao42 y269.length co42 : Value).ownBlock ∧ some k_ ≠ (v293 : Value).ownBlock)) k_ ∧ some k_ ≠ (v282 : Value).ownBlock) rfl rfl ?aO ?aR (fun _ hk => hk) ?aF ?aB ?aS ?aL ?_
                  (case aR => exact (by skip; exact Kd.V_F (Kd.V_mono (ok' := (fun k_ => ((fun k_ => some k_ ≠ (.slice Ao15 t256.length co15 : Value).ownBlock ∧ some k_ ≠ (.slice Ao17 t258.length co17 : Value).ownBlock ∧ some k_ ≠ (v266 : Value).ownBlock ∧ some k_ ≠ (.slice Ao42 y269.length co42 : Value).ownBlock ∧ some k_ ≠ (v293 : Value).ownBlock)) k_ ∧ some k_ ≠ (v282 : Value).ownBlock)) (HO288.out) (fun k_ hk => by first | exact ⟨⟨hk.1.1, ⟨hk.1.2.1, ⟨hk.1.2.2.1, ⟨hk.1.2.2.2.1, hk.1.2.2.2.2⟩⟩⟩⟩, hk.2⟩ | simp only [hk, ne_eq, not_false_eq_true, and_self]))))
                  (case aB => exact (by repeat (first | (with_reducible first | exact HB.out | apply below_alloc | apply pw_below_drewN | apply below_drew1) | exact HB.out)))
                  (case aF => exact (fun k_ hk => ⟨Kd.fresh' (Kd.R_lt (by (with_reducible repeat (first | apply Kd.R_alloc | apply Kd.R_drewN | apply Kd.R_drew)); exact HO_9.out)) k_ hk, Kd.fresh' (Kd.N_lt (by (with_reducible repeat (first | apply Kd.N_alloc | apply Kd.N_drewN | apply Kd.N_drew)); exact HO_11.out)) k_ hk, Kd.fresh' (Kd.R_lt (by (with_reducible repeat (first | apply Kd.R_alloc | apply Kd.R_drewN | apply Kd.R_drew)); exact HO_12.out)) k_ hk, Kd.fresh' (Kd.R_lt (by (with_reducible repeat (first | apply Kd.R_alloc | apply Kd.R_drewN | apply Kd.R_drew)); exact HO271.out)) k_ hk, Kd.fresh' (Kd.N_lt (by (with_reducible repeat (first | apply Kd.N_alloc | apply Kd.N_drewN | apply Kd.N_drew)); exact HO294.out)) k_ hk⟩))
                  (case aO => exact (by (with_reducible repeat (first | apply Kd.N_alloc | apply Kd.N_drewN | apply Kd.N_drew)); exact HO283.out))
                  (case aS => exact (below_size (by repeat (first | (with_reducible first | exact HB.out | apply below_alloc | apply pw_below_drewN | apply below_drew1) | exact HB.out))))
                  (case aL => have := LMc31.out; omega)
                  intro v290 w53 ho hb hg hat
                  rw [← Ny289.out] at ho
                  have n0_ := Aside0.mk (Kd.R_over' (by (with_reducible repeat (first | apply Kd.R_alloc | apply Kd.R_drewN | apply Kd.R_drew)); exact HO_9.out) (Kd.N_typed (by (with_reducible repeat (first | apply Kd.N_alloc | apply Kd.N_drewN | apply Kd.N_drew)); exact HO283.out)) (by decide) hg)
                  have n1_ := Aside0.mk (Kd.N_afterv (ok := (fun k_ => some k_ ≠ (.slice Ao15 t256.length co15 : Value).ownBlock ∧ some k_ ≠ (.slice Ao17 t258.length co17 : Value).ownBlock ∧ some k_ ≠ (v266 : Value).ownBlock ∧ some k_ ≠ (.slice Ao42 y269.length co42 : Value).ownBlock ∧ some k_ ≠ (v293 : Value).ownBlock)) (by (with_reducible repeat (first | apply Kd.N_alloc | apply Kd.N_drewN | apply Kd.N_drew)); exact HO_10.out) hg hat)
                  have n2_ := Aside0.mk (Kd.N_afterv (ok := (fun k_ => some k_ ≠ (.slice Ao15 t256.length co15 : Value).ownBlock ∧ some k_ ≠ (.slice Ao16 t257.length co16 : Value).ownBlock ∧ some k_ ≠ (v266 : Value).ownBlock ∧ some k_ ≠ (.slice Ao42 y269.length co42 : Value).ownBlock ∧ some k_ ≠ (v293 : Value).ownBlock)) (by (with_reducible repeat (first | apply Kd.N_alloc | apply Kd.N_drewN | apply Kd.N_drew)); exact HO_11.out) hg hat)
                  have n3_ := Aside0.mk (Kd.R_over' (by (with_reducible repeat (first | apply Kd.R_alloc | apply Kd.R_drewN | apply Kd.R_drew)); exact HO_12.out) (Kd.N_typed (by (with_reducible repeat (first | apply Kd.N_alloc | apply Kd.N_drewN | apply Kd.N_drew)); exact HO283.out)) (by decide) hg)
                  have n4_ := Aside0.mk (Kd.R_over' (by (with_reducible repeat (first | apply Kd.R_alloc | apply Kd.R_drewN | apply Kd.R_drew)); exact HO271.out) (Kd.N_typed (by (with_reducible repeat (first | apply Kd.N_alloc | apply Kd.N_drewN | apply Kd.N_drew)); exact HO283.out)) (by decide) hg)
                  have n5_ := Aside0.mk (Kd.V_afterv (ok := (fun k_ => some k_ ≠ (.slice Ao15 t256.length co15 : Value).ownBlock ∧ some k_ ≠ (.slice Ao17 t258.length co17 : Value).ownBlock ∧ some k_ ≠ (v266 : Value).ownBlock ∧ some k_ ≠ (.slice Ao42 y269.length co42 : Value).ownBlock ∧ some k_ ≠ (v293 : Value).ownBlock)) (by (with_reducible repeat (first | apply Kd.V_alloc | apply Kd.V_drewN | apply Kd.V_drew)); exact HO280.out) hg hat)
                  have n6_ := Aside0.mk (Kd.V_afterv (ok := (fun k_ => some k_ ≠ (.slice Ao15 t256.length co15 : Value).ownBlock ∧ some k_ ≠ (.slice Ao17 t258.length co17 : Value).ownBlock ∧ some k_ ≠ (v266 : Value).ownBlock ∧ some k_ ≠ (.slice Ao42 y269.length co42 : Value).ownBlock ∧ some k_ ≠ (v293 : Value).ownBlock)) (by (with_reducible repeat (first | apply Kd.V_alloc | apply Kd.V_drewN | apply Kd.V_drew)); exact HO288.out) hg hat)
                  have n7_ := Aside0.mk (Kd.V_afterv (ok := (fun k_ => some k_ ≠ (.slice Ao15 t256.length co15 : Value).ownBlock ∧ some k_ ≠ (.slice Ao16 t257.length co16 : Value).ownBlock ∧ some k_ ≠ (v266 : Value).ownBlock ∧ some k_ ≠ (.slice Ao42 y269.length co42 : Value).ownBlock ∧ some k_ ≠ (v293 : Value).ownBlock)) (by (with_reducible repeat (first | apply Kd.V_alloc | apply Kd.V_drewN | apply Kd.V_drew)); exact HO299.out) hg hat)
                  have n8_ := Aside0.mk (Kd.V_afterv (ok := (fun k_ => some k_ ≠ (.slice Ao15 t256.length co15 : Value).ownBlock ∧ some k_ ≠ (.slice Ao16 t257.length co16 : Value).ownBlock ∧ some k_ ≠ (v266 : Value).ownBlock ∧ some k_ ≠ (.slice Ao42 y269.length co42 : Value).ownBlock ∧ some k_ ≠ (v293 : Value).ownBlock)) (by (with_reducible repeat (first | apply Kd.V_alloc | apply Kd.V_drewN | apply Kd.V_drew)); exact HO307.out) hg hat)
                  have n9_ := Aside0.mk (Kd.N_afterv (ok := (fun k_ => some k_ ≠ (.slice Ao15 t256.length co15 : Value).ownBlock ∧ some k_ ≠ (.slice Ao16 t257.length co16 : Value).ownBlock ∧ some k_ ≠ (.slice Ao17 t258.length co17 : Value).ownBlock ∧ some k_ ≠ (v266 : Value).ownBlock ∧ some k_ ≠ (.slice Ao42 y269.length co42 : Value).ownBlock)) (by (with_reducible repeat (first | apply Kd.N_alloc | apply Kd.N_drewN | apply Kd.N_drew)); exact HO294.out) hg hat)
                  have n10_ := Aside0.mk (hb)
                  have n11_ := Aside0.mk (ho)
                  clear HO_9
                  clear HO_10
                  clear HO_11
                  clear HO_12
                  clear HO271
                  clear HO280
                  clear HO288
                  clear HO299
                  clear HO307
                  clear HO294
                  clear HB
                  clear HO283
                  have HO_9 := n0_
                  have HO_10 := n1_
                  have HO_11 := n2_
                  have HO_12 := n3_
                  have HO271 := n4_
                  have HO280 := n5_
                  have HO288 := n6_
                  have HO299 := n7_
                  have HO307 := n8_
                  have HO294 := n9_
                  have HB := n10_
                  have HO291 := n11_
                  clear n0_ n1_ n2_ n3_ n4_ n5_ n6_ n7_ n8_ n9_ n10_ n11_
                  clear ho hb hg hat
                  refine hK.out _ _ trivial (fun hHeld => ?_)
                  clear hK K
                  refine norm_ (a' := ?_) ?_ ?_
                  rotate_left
                  · show Act.put _ (some 66) _ = _
                    simp only [Act.put, List.setIfInBounds_toArray, List.set_cons_zero, List.set_cons_succ, i64_w, i32_w]
                    rfl
                  exact norm_ (by simp only [putAll, Act.put, List.setIfInBounds_toArray, List.set_cons_zero, List.set_cons_succ]) (hCont (v274, v282, v290, v293) _ ⟨(by (with_reducible repeat (first | apply Kd.R_alloc | apply Kd.R_drewN | apply Kd.R_drew)); exact Kd.R_mono HO271.out (fun _ hk => by first | exact ⟨hk.2, hk.1.2⟩ | simp only [hk, ne_eq, not_false_eq_true, and_self])), (by (with_reducible repeat (first | apply Kd.V_alloc | apply Kd.V_drewN | apply Kd.V_drew)); exact Kd.V_mono HO280.out (fun _ hk => by first | exact ⟨hk.1.2.2.2.1, ⟨hk.2, ⟨hk.1.2.2.2.2, ⟨hk.1.2.1, ⟨hk.1.2.2.1, hk.1.1⟩⟩⟩⟩⟩ | simp only [hk, ne_eq, not_false_eq_true, and_self])), (by (with_reducible repeat (first | apply Kd.V_alloc | apply Kd.V_drewN | apply Kd.V_drew)); exact Kd.V_mono HO288.out (fun _ hk => by first | exact ⟨hk.1.2.2.2.1, ⟨hk.2, ⟨hk.1.2.2.2.2, ⟨hk.1.2.1, ⟨hk.1.2.2.1, hk.1.1⟩⟩⟩⟩⟩ | simp only [hk, ne_eq, not_false_eq_true, and_self])), (by (with_reducible repeat (first | apply Kd.N_alloc | apply Kd.N_drewN | apply Kd.N_drew)); exact Kd.N_mono HO291.out (fun _ hk => by first | exact ⟨hk.2.2.2.1, ⟨hk.2.2.2.2, ⟨hk.2.1, ⟨hk.2.2.1, hk.1⟩⟩⟩⟩ | simp only [hk, ne_eq, not_false_eq_true, and_self])), (by (with_reducible repeat (first | apply Kd.N_alloc | apply Kd.N_drewN | apply Kd.N_drew)); exact Kd.N_mono HO294.out (fun _ hk => by first | exact ⟨hk.1.2.2.2.2, ⟨hk.2, ⟨hk.1.2.1, ⟨hk.1.2.2.1, ⟨hk.1.2.2.2.1, hk.1.1⟩⟩⟩⟩⟩ | simp only [hk, ne_eq, not_false_eq_true, and_self])), (by (with_reducible repeat (first | apply Kd.V_alloc | apply Kd.V_drewN | apply Kd.V_drew)); exact Kd.V_mono HO299.out (fun _ hk => by first | exact ⟨hk.1.2.2.2.1, ⟨hk.2, ⟨hk.1.2.2.2.2, ⟨hk.1.2.1, ⟨hk.1.2.2.1, hk.1.1⟩⟩⟩⟩⟩ | simp only [hk, ne_eq, not_false_eq_true, and_self])), (by (with_reducible repeat (first | apply Kd.V_alloc | apply Kd.V_drewN | apply Kd.V_drew)); exact Kd.V_mono HO307.out (fun _ hk => by first | exact ⟨hk.1.2.2.2.1, ⟨hk.2, ⟨hk.1.2.2.2.2, ⟨hk.1.2.1, ⟨hk.1.2.2.1, hk.1.1⟩⟩⟩⟩⟩ | simp only [hk, ne_eq, not_false_eq_true, and_self])), (by (with_reducible repeat (first | apply Kd.N_alloc | apply Kd.N_drewN | apply Kd.N_drew)); exact Kd.N_mono HO_10.out (fun _ hk => by first | exact ⟨hk.1.2.2.2.1, ⟨hk.2, ⟨hk.1.2.2.2.2, ⟨hk.1.2.1, ⟨hk.1.2.2.1, hk.1.1⟩⟩⟩⟩⟩ | simp only [hk, ne_eq, not_false_eq_true, and_self])), (by (with_reducible repeat (first | apply Kd.N_alloc | apply Kd.N_drewN | apply Kd.N_drew)); exact Kd.N_mono HO_11.out (fun _ hk => by first | exact ⟨hk.1.2.2.2.1, ⟨hk.2, ⟨hk.1.2.2.2.2, ⟨hk.1.2.1, ⟨hk.1.2.2.1, hk.1.1⟩⟩⟩⟩⟩ | simp only [hk, ne_eq, not_false_eq_true, and_self])), (by (with_reducible repeat (first | apply Kd.R_alloc | apply Kd.R_drewN | apply Kd.R_drew)); exact Kd.R_mono HO_12.out (fun _ hk => by first | exact ⟨hk.2, hk.1⟩ | simp only [hk, ne_eq, not_false_eq_true, and_self])), (by (with_reducible repeat (first | apply Kd.R_alloc | apply Kd.R_drewN | apply Kd.R_drew)); exact Kd.R_mono HO_9.out (fun _ hk => by first | exact ⟨hk.2, hk.1⟩ | simp only [hk, ne_eq, not_false_eq_true, and_self])), (by repeat (first | (with_reducible first | exact HB.out | apply below_alloc | apply pw_below_drewN | apply below_drew1) | exact HB.out))⟩)
              rintro ⟨v274, v282, v290, v293⟩ w54 ⟨h0_, h1_, h2_, h3_, h4_, h5_, h6_, h7_, h8_, h9_, h10_, h11_⟩
              have n0_ : Aside0 (Kd.R (Kd.int .i64) 3 w54 w.heap.size (fun k_ => some k_ ≠ (v266 : Value).ownBlock ∧ some k_ ≠ (.slice Ao15 t256.length co15 : Value).ownBlock) (.slice Ao42 y269.length co42) y269) := ⟨h0_⟩
              have n1_ : Aside0 (Kd.V (Kd.slice 3 (Kd.int .i64)) 22 w54 w.heap.size (fun k_ => some k_ ≠ (.slice Ao42 y269.length co42 : Value).ownBlock ∧ some k_ ≠ (v290 : Value).ownBlock ∧ some k_ ≠ (v293 : Value).ownBlock ∧ some k_ ≠ (.slice Ao17 t258.length co17 : Value).ownBlock ∧ some k_ ≠ (v266 : Value).ownBlock ∧ some k_ ≠ (.slice Ao15 t256.length co15 : Value).ownBlock) (.slice A44 y276.length c44) y276) := ⟨h1_⟩
              have n2_ : Aside0 (Kd.V (Kd.slice 3 (Kd.int .i64)) 22 w54 w.heap.size (fun k_ => some k_ ≠ (.slice Ao42 y269.length co42 : Value).ownBlock ∧ some k_ ≠ (v290 : Value).ownBlock ∧ some k_ ≠ (v293 : Value).ownBlock ∧ some k_ ≠ (.slice Ao17 t258.length co17 : Value).ownBlock ∧ some k_ ≠ (v266 : Value).ownBlock ∧ some k_ ≠ (.slice Ao15 t256.length co15 : Value).ownBlock) (.slice Ao16 y284.length co16) y284) := ⟨h2_⟩
              have n3_ : Aside0 (Kd.N (Kd.slice 3 (Kd.int .i64)) 22 w54 w.heap.size (fun k_ => some k_ ≠ (.slice Ao42 y269.length co42 : Value).ownBlock ∧ some k_ ≠ (v293 : Value).ownBlock ∧ some k_ ≠ (.slice Ao17 t258.length co17 : Value).ownBlock ∧ some k_ ≠ (v266 : Value).ownBlock ∧ some k_ ≠ (.slice Ao15 t256.length co15 : Value).ownBlock) v290 y289) := ⟨h3_⟩
              have n4_ : Aside0 (Kd.N (Kd.slice 3 (Kd.int .i64)) 22 w54 w.heap.size (fun k_ => some k_ ≠ (.slice Ao42 y269.length co42 : Value).ownBlock ∧ some k_ ≠ (v290 : Value).ownBlock ∧ some k_ ≠ (.slice Ao16 t257.length co16 : Value).ownBlock ∧ some k_ ≠ (.slice Ao17 t258.length co17 : Value).ownBlock ∧ some k_ ≠ (v266 : Value).ownBlock ∧ some k_ ≠ (.slice Ao15 t256.length co15 : Value).ownBlock) v293 y292) := ⟨h4_⟩
              have n5_ : Aside0 (Kd.V (Kd.slice 3 (Kd.int .i64)) 22 w54 w.heap.size (fun k_ => some k_ ≠ (.slice Ao42 y269.length co42 : Value).ownBlock ∧ some k_ ≠ (v290 : Value).ownBlock ∧ some k_ ≠ (v293 : Value).ownBlock ∧ some k_ ≠ (.slice Ao16 t257.length co16 : Value).ownBlock ∧ some k_ ≠ (v266 : Value).ownBlock ∧ some k_ ≠ (.slice Ao15 t256.length co15 : Value).ownBlock) (.slice A46 y295.length c46) y295) := ⟨h5_⟩
              have n6_ : Aside0 (Kd.V (Kd.slice 3 (Kd.int .i64)) 22 w54 w.heap.size (fun k_ => some k_ ≠ (.slice Ao42 y269.length co42 : Value).ownBlock ∧ some k_ ≠ (v290 : Value).ownBlock ∧ some k_ ≠ (v293 : Value).ownBlock ∧ some k_ ≠ (.slice Ao16 t257.length co16 : Value).ownBlock ∧ some k_ ≠ (v266 : Value).ownBlock ∧ some k_ ≠ (.slice Ao15 t256.length co15 : Value).ownBlock) (.slice Ao17 y303.length co17) y303) := ⟨h6_⟩
              have n7_ : Aside0 (Kd.N (Kd.slice 3 (Kd.int .i64)) 22 w54 w.heap.size (fun k_ => some k_ ≠ (.slice Ao42 y269.length co42 : Value).ownBlock ∧ some k_ ≠ (v290 : Value).ownBlock ∧ some k_ ≠ (v293 : Value).ownBlock ∧ some k_ ≠ (.slice Ao17 t258.length co17 : Value).ownBlock ∧ some k_ ≠ (v266 : Value).ownBlock ∧ some k_ ≠ (.slice Ao15 t256.length co15 : Value).ownBlock) (.slice Ao16 t257.length co16) t257) := ⟨h7_⟩
              have n8_ : Aside0 (Kd.N (Kd.slice 3 (Kd.int .i64)) 22 w54 w.heap.size (fun k_ => some k_ ≠ (.slice Ao42 y269.length co42 : Value).ownBlock ∧ some k_ ≠ (v290 : Value).ownBlock ∧ some k_ ≠ (v293 : Value).ownBlock ∧ some k_ ≠ (.slice Ao16 t257.length co16 : Value).ownBlock ∧ some k_ ≠ (v266 : Value).ownBlock ∧ some k_ ≠ (.slice Ao15 t256.length co15 : Value).ownBlock) (.slice Ao17 t258.length co17) t258) := ⟨h8_⟩
              have n9_ : Aside0 (Kd.R (Kd.int .i64) 3 w54 w.heap.size (fun k_ => some k_ ≠ (.slice Ao42 y269.length co42 : Value).ownBlock ∧ some k_ ≠ (.slice Ao15 t256.length co15 : Value).ownBlock) v266 t265) := ⟨h9_⟩
              have n10_ : Aside0 (Kd.R (Kd.int .i64) 3 w54 w.heap.size (fun k_ => some k_ ≠ (.slice Ao42 y269.length co42 : Value).ownBlock ∧ some k_ ≠ (v266 : Value).ownBlock) (.slice Ao15 t256.length co15) t256) := ⟨h10_⟩
              have n11_ : Aside0 (Below w.heap.size w w54) := ⟨h11_⟩
              clear HO_9
              clear HO_10
              clear HO_11
              clear HO_12
              clear HO271
              clear HB
              clear h0_ h1_ h2_ h3_ h4_ h5_ h6_ h7_ h8_ h9_ h10_ h11_
              have HO271 := n0_
              have HO280 := n1_
              have HO288 := n2_
              have HO291 := n3_
              have HO294 := n4_
              have HO299 := n5_
              have HO307 := n6_
              have HO_10 := n7_
              have HO_11 := n8_
              have HO_12 := n9_
              have HO_9 := n10_
              have HB := n11_
              clear n0_ n1_ n2_ n3_ n4_ n5_ n6_ n7_ n8_ n9_ n10_ n11_
              have hHeld := trivial
              refine norm_ (a' := ?_) ?_ ?_
              rotate_left
              · simp only [putAll, Act.put, List.setIfInBounds_toArray, List.set_cons_zero, List.set_cons_succ]
                rfl
              refine one_ (i := 13) (N := some 71) #[true, true, true, true, true, true, true, true, true, true, true, true, true, true, true, true, true, false, false, false] rfl rfl (one_of HT_.out (by kernel_rfl)) (by decide) (fun K hK => ?_)
              refine Kd.N_append_rows_step (Kd.slice 3 (Kd.int .i64)) (w0 := w) w.heap.size (by rfl) (.tmp 67) (.tmp 70) 23 22 (.slice none 0 0) 24 rfl Try.underlying23 info22 rfl (by decide) (by omega) v293 y292 y295 _ _ _ (fun k_ => some k_ ≠ (.slice Ao15 t256.length co15 : Value).ownBlock ∧ some k_ ≠ (.slice Ao16 t257.length co16 : Value).ownBlock ∧ some k_ ≠ (v266 : Value).ownBlock ∧ some k_ ≠ (.slice Ao42 y269.length co42 : Value).ownBlock ∧ some k_ ≠ (v290 : Value).ownBlock) (fun k_ => ((fun k_ => some k_ ≠ (.slice Ao15 t256.length co15 : Value).ownBlock ∧ some k_ ≠ (.slice Ao16 t257.length co16 : Value).ownBlock ∧ some k_ ≠ (v266 : Value).ownBlock ∧ some k_ ≠ (.slice Ao42 y269.length co42 : Value).ownBlock ∧ some k_ ≠ (v290 : Value).ownBlock)) k_ ∧ some k_ ≠ (v293 : Value).ownBlock) rfl rfl ?aO ?aR (fun _ hk => hk) ?aF ?aB ?aS ?aL ?_
              (case aR => exact (by skip; exact Kd.V_F (Kd.V_mono (ok' := (fun k_ => ((fun k_ => some k_ ≠ (.slice Ao15 t256.length co15 : Value).ownBlock ∧ some k_ ≠ (.slice Ao16 t257.length co16 : Value).ownBlock ∧ some k_ ≠ (v266 : Value).ownBlock ∧ some k_ ≠ (.slice Ao42 y269.length co42 : Value).ownBlock ∧ some k_ ≠ (v290 : Value).ownBlock)) k_ ∧ some k_ ≠ (v293 : Value).ownBlock)) (HO299.out) (fun k_ hk => by first | exact ⟨⟨hk.2.2.2.2.2, ⟨hk.2.2.2.1, ⟨hk.2.2.2.2.1, ⟨hk.1, hk.2.1⟩⟩⟩⟩, hk.2.2.1⟩ | simp only [hk, ne_eq, not_false_eq_true, and_self]))))
              (case aB => exact (by repeat (first | (with_reducible first | exact HB.out | apply below_alloc | apply pw_below_drewN | apply below_drew1) | exact HB.out)))
              (case aF => exact (fun k_ hk => ⟨Kd.fresh' (Kd.R_lt (by (with_reducible repeat (first | apply Kd.R_alloc | apply Kd.R_drewN | apply Kd.R_drew)); exact HO_9.out)) k_ hk, Kd.fresh' (Kd.N_lt (by (with_reducible repeat (first | apply Kd.N_alloc | apply Kd.N_drewN | apply Kd.N_drew)); exact HO_10.out)) k_ hk, Kd.fresh' (Kd.R_lt (by (with_reducible repeat (first | apply Kd.R_alloc | apply Kd.R_drewN | apply Kd.R_drew)); exact HO_12.out)) k_ hk, Kd.fresh' (Kd.R_lt (by (with_reducible repeat (first | apply Kd.R_alloc | apply Kd.R_drewN | apply Kd.R_drew)); exact HO271.out)) k_ hk, Kd.fresh' (Kd.N_lt (by (with_reducible repeat (first | apply Kd.N_alloc | apply Kd.N_drewN | apply Kd.N_drew)); exact HO291.out)) k_ hk⟩))
              (case aO => exact (by (with_reducible repeat (first | apply Kd.N_alloc | apply Kd.N_drewN | apply Kd.N_drew)); exact Kd.N_mono HO294.out (fun _ hk => by first | exact ⟨hk.2.2.2.2.2, ⟨hk.2.2.1, ⟨hk.2.2.2.2.1, ⟨hk.1, hk.2.1⟩⟩⟩⟩ | simp only [hk, ne_eq, not_false_eq_true, and_self])))
              (case aS => exact (below_size (by repeat (first | (with_reducible first | exact HB.out | apply below_alloc | apply pw_below_drewN | apply below_drew1) | exact HB.out))))
              (case aL => have := LMc34.out; omega)
              intro v301 w55 ho hb hg hat
              rw [← Ny300.out] at ho
              have n0_ := Aside0.mk (Kd.R_over' (by (with_reducible repeat (first | apply Kd.R_alloc | apply Kd.R_drewN | apply Kd.R_drew)); exact HO_9.out) (Kd.N_typed (by (with_reducible repeat (first | apply Kd.N_alloc | apply Kd.N_drewN | apply Kd.N_drew)); exact HO294.out)) (by decide) hg)
              have n1_ := Aside0.mk (Kd.N_afterv (ok := (fun k_ => some k_ ≠ (.slice Ao15 t256.length co15 : Value).ownBlock ∧ some k_ ≠ (.slice Ao17 t258.length co17 : Value).ownBlock ∧ some k_ ≠ (v266 : Value).ownBlock ∧ some k_ ≠ (.slice Ao42 y269.length co42 : Value).ownBlock ∧ some k_ ≠ (v290 : Value).ownBlock)) (by (with_reducible repeat (first | apply Kd.N_alloc | apply Kd.N_drewN | apply Kd.N_drew)); exact Kd.N_mono HO_10.out (fun _ hk => by first | exact ⟨⟨hk.2.2.2.2.2, ⟨hk.2.2.2.1, ⟨hk.2.2.2.2.1, ⟨hk.1, hk.2.1⟩⟩⟩⟩, hk.2.2.1⟩ | simp only [hk, ne_eq, not_false_eq_true, and_self])) hg hat)
              have n2_ := Aside0.mk (Kd.N_afterv (ok := (fun k_ => some k_ ≠ (.slice Ao15 t256.length co15 : Value).ownBlock ∧ some k_ ≠ (.slice Ao16 t257.length co16 : Value).ownBlock ∧ some k_ ≠ (v266 : Value).ownBlock ∧ some k_ ≠ (.slice Ao42 y269.length co42 : Value).ownBlock ∧ some k_ ≠ (v290 : Value).ownBlock)) (by (with_reducible repeat (first | apply Kd.N_alloc | apply Kd.N_drewN | apply Kd.N_drew)); exact Kd.N_mono HO_11.out (fun _ hk => by first | exact ⟨⟨hk.2.2.2.2.2, ⟨hk.2.2.2.1, ⟨hk.2.2.2.2.1, ⟨hk.1, hk.2.1⟩⟩⟩⟩, hk.2.2.1⟩ | simp only [hk, ne_eq, not_false_eq_true, and_self])) hg hat)
              have n3_ := Aside0.mk (Kd.R_over' (by (with_reducible repeat (first | apply Kd.R_alloc | apply Kd.R_drewN | apply Kd.R_drew)); exact HO_12.out) (Kd.N_typed (by (with_reducible repeat (first | apply Kd.N_alloc | apply Kd.N_drewN | apply Kd.N_drew)); exact HO294.out)) (by decide) hg)
              have n4_ := Aside0.mk (Kd.R_over' (by (with_reducible repeat (first | apply Kd.R_alloc | apply Kd.R_drewN | apply Kd.R_drew)); exact HO271.out) (Kd.N_typed (by (with_reducible repeat (first | apply Kd.N_alloc | apply Kd.N_drewN | apply Kd.N_drew)); exact HO294.out)) (by decide) hg)
              have n5_ := Aside0.mk (Kd.V_afterv (ok := (fun k_ => some k_ ≠ (.slice Ao15 t256.length co15 : Value).ownBlock ∧ some k_ ≠ (.slice Ao17 t258.length co17 : Value).ownBlock ∧ some k_ ≠ (v266 : Value).ownBlock ∧ some k_ ≠ (.slice Ao42 y269.length co42 : Value).ownBlock ∧ some k_ ≠ (v290 : Value).ownBlock)) (by (with_reducible repeat (first | apply Kd.V_alloc | apply Kd.V_drewN | apply Kd.V_drew)); exact Kd.V_mono HO280.out (fun _ hk => by first | exact ⟨⟨hk.2.2.2.2.2, ⟨hk.2.2.2.1, ⟨hk.2.2.2.2.1, ⟨hk.1, hk.2.1⟩⟩⟩⟩, hk.2.2.1⟩ | simp only [hk, ne_eq, not_false_eq_true, and_self])) hg hat)
              have n6_ := Aside0.mk (Kd.V_afterv (ok := (fun k_ => some k_ ≠ (.slice Ao15 t256.length co15 : Value).ownBlock ∧ some k_ ≠ (.slice Ao17 t258.length co17 : Value).ownBlock ∧ some k_ ≠ (v266 : Value).ownBlock ∧ some k_ ≠ (.slice Ao42 y269.length co42 : Value).ownBlock ∧ some k_ ≠ (v290 : Value).ownBlock)) (by (with_reducible repeat (first | apply Kd.V_alloc | apply Kd.V_drewN | apply Kd.V_drew)); exact Kd.V_mono HO288.out (fun _ hk => by first | exact ⟨⟨hk.2.2.2.2.2, ⟨hk.2.2.2.1, ⟨hk.2.2.2.2.1, ⟨hk.1, hk.2.1⟩⟩⟩⟩, hk.2.2.1⟩ | simp only [hk, ne_eq, not_false_eq_true, and_self])) hg hat)
              have n7_ := Aside0.mk (Kd.V_afterv (ok := (fun k_ => some k_ ≠ (.slice Ao15 t256.length co15 : Value).ownBlock ∧ some k_ ≠ (.slice Ao16 t257.length co16 : Value).ownBlock ∧ some k_ ≠ (v266 : Value).ownBlock ∧ some k_ ≠ (.slice Ao42 y269.length co42 : Value).ownBlock ∧ some k_ ≠ (v290 : Value).ownBlock)) (by (with_reducible repeat (first | apply Kd.V_alloc | apply Kd.V_drewN | apply Kd.V_drew)); exact Kd.V_mono HO299.out (fun _ hk => by first | exact ⟨⟨hk.2.2.2.2.2, ⟨hk.2.2.2.1, ⟨hk.2.2.2.2.1, ⟨hk.1, hk.2.1⟩⟩⟩⟩, hk.2.2.1⟩ | simp only [hk, ne_eq, not_false_eq_true, and_self])) hg hat)
              have n8_ := Aside0.mk (Kd.V_afterv (ok := (fun k_ => some k_ ≠ (.slice Ao15 t256.length co15 : Value).ownBlock ∧ some k_ ≠ (.slice Ao16 t257.length co16 : Value).ownBlock ∧ some k_ ≠ (v266 : Value).ownBlock ∧ some k_ ≠ (.slice Ao42 y269.length co42 : Value).ownBlock ∧ some k_ ≠ (v290 : Value).ownBlock)) (by (with_reducible repeat (first | apply Kd.V_alloc | apply Kd.V_drewN | apply Kd.V_drew)); exact Kd.V_mono HO307.out (fun _ hk => by first | exact ⟨⟨hk.2.2.2.2.2, ⟨hk.2.2.2.1, ⟨hk.2.2.2.2.1, ⟨hk.1, hk.2.1⟩⟩⟩⟩, hk.2.2.1⟩ | simp only [hk, ne_eq, not_false_eq_true, and_self])) hg hat)
              have n9_ := Aside0.mk (Kd.N_afterv (ok := (fun k_ => some k_ ≠ (.slice Ao15 t256.length co15 : Value).ownBlock ∧ some k_ ≠ (.slice Ao17 t258.length co17 : Value).ownBlock ∧ some k_ ≠ (v266 : Value).ownBlock ∧ some k_ ≠ (.slice Ao42 y269.length co42 : Value).ownBlock)) (by (with_reducible repeat (first | apply Kd.N_alloc | apply Kd.N_drewN | apply Kd.N_drew)); exact Kd.N_mono HO291.out (fun _ hk => by first | exact ⟨⟨hk.2.2.2.2, ⟨hk.2.2.1, ⟨hk.2.2.2.1, hk.1⟩⟩⟩, hk.2.1⟩ | simp only [hk, ne_eq, not_false_eq_true, and_self])) hg hat)
              have n10_ := Aside0.mk (hb)
              have n11_ := Aside0.mk (ho)
              clear HO_9
              clear HO_10
              clear HO_11
              clear HO_12
              clear HO271
              clear HO280
              clear HO288
              clear HO299
              clear HO307
              clear HO291
              clear HB
              clear HO294
              have HO_9 := n0_
              have HO_10 := n1_
              have HO_11 := n2_
              have HO_12 := n3_
              have HO271 := n4_
              have HO280 := n5_
              have HO288 := n6_
              have HO299 := n7_
              have HO307 := n8_
              have HO291 := n9_
              have HB := n10_
              have HO302 := n11_
              clear n0_ n1_ n2_ n3_ n4_ n5_ n6_ n7_ n8_ n9_ n10_ n11_
              clear ho hb hg hat
              refine hK.out _ _ trivial (fun hHeld => ?_)
              clear hK K
              refine norm_ (a' := ?_) ?_ ?_
              rotate_left
              · show Act.put _ (some 71) _ = _
                simp only [Act.put, List.setIfInBounds_toArray, List.set_cons_zero, List.set_cons_succ, i64_w, i32_w]
                rfl
              refine one_ (i := 17) (N := some 75) #[true, true, true, true, true, true, true, true, true, true, true, true, true, true, true, true, true, true, false, false] rfl rfl (one_of HT_.out (by kernel_rfl)) (by decide) (fun K hK => ?_)
              refine Kd.N_append_rows_step (Kd.slice 3 (Kd.int .i64)) (w0 := w) w.heap.size (by rfl) (.tmp 71) (.tmp 74) 23 22 (.slice none 0 0) 24 rfl Try.underlying23 info22 rfl (by decide) (by omega) v301 y300 y303 _ _ _ (fun k_ => some k_ ≠ (.slice Ao15 t256.length co15 : Value).ownBlock ∧ some k_ ≠ (.slice Ao16 t257.length co16 : Value).ownBlock ∧ some k_ ≠ (v266 : Value).ownBlock ∧ some k_ ≠ (.slice Ao42 y269.length co42 : Value).ownBlock ∧ some k_ ≠ (v290 : Value).ownBlock) (fun k_ => ((fun k_ => some k_ ≠ (.slice Ao15 t256.length co15 : Value).ownBlock ∧ some k_ ≠ (.slice Ao16 t257.length co16 : Value).ownBlock ∧ some k_ ≠ (v266 : Value).ownBlock ∧ some k_ ≠ (.slice Ao42 y269.length co42 : Value).ownBlock ∧ some k_ ≠ (v290 : Value).ownBlock)) k_ ∧ some k_ ≠ (v301 : Value).ownBlock) rfl rfl ?aO ?aR (fun _ hk => hk) ?aF ?aB ?aS ?aL ?_
              (case aR => exact (by skip; exact Kd.V_F (Kd.V_mono (ok' := (fun k_ => ((fun k_ => some k_ ≠ (.slice Ao15 t256.length co15 : Value).ownBlock ∧ some k_ ≠ (.slice Ao16 t257.length co16 : Value).ownBlock ∧ some k_ ≠ (v266 : Value).ownBlock ∧ some k_ ≠ (.slice Ao42 y269.length co42 : Value).ownBlock ∧ some k_ ≠ (v290 : Value).ownBlock)) k_ ∧ some k_ ≠ (v301 : Value).ownBlock)) (HO307.out) (fun k_ hk => by first | exact ⟨⟨hk.1.1, ⟨hk.1.2.1, ⟨hk.1.2.2.1, ⟨hk.1.2.2.2.1, hk.1.2.2.2.2⟩⟩⟩⟩, hk.2⟩ | simp only [hk, ne_eq, not_false_eq_true, and_self]))))
              (case aB => exact (by repeat (first | (with_reducible first | exact HB.out | apply below_alloc | apply pw_below_drewN | apply below_drew1) | exact HB.out)))
              (case aF => exact (fun k_ hk => ⟨Kd.fresh' (Kd.R_lt (by (with_reducible repeat (first | apply Kd.R_alloc | apply Kd.R_drewN | apply Kd.R_drew)); exact HO_9.out)) k_ hk, Kd.fresh' (Kd.N_lt (by (with_reducible repeat (first | apply Kd.N_alloc | apply Kd.N_drewN | apply Kd.N_drew)); exact HO_10.out)) k_ hk, Kd.fresh' (Kd.R_lt (by (with_reducible repeat (first | apply Kd.R_alloc | apply Kd.R_drewN | apply Kd.R_drew)); exact HO_12.out)) k_ hk, Kd.fresh' (Kd.R_lt (by (with_reducible repeat (first | apply Kd.R_alloc | apply Kd.R_drewN | apply Kd.R_drew)); exact HO271.out)) k_ hk, Kd.fresh' (Kd.N_lt (by (with_reducible repeat (first | apply Kd.N_alloc | apply Kd.N_drewN | apply Kd.N_drew)); exact HO291.out)) k_ hk⟩))
              (case aO => exact (by (with_reducible repeat (first | apply Kd.N_alloc | apply Kd.N_drewN | apply Kd.N_drew)); exact HO302.out))
              (case aS => exact (below_size (by repeat (first | (with_reducible first | exact HB.out | apply below_alloc | apply pw_below_drewN | apply below_drew1) | exact HB.out))))
              (case aL => have := LMc37.out; omega)
              intro v309 w56 ho hb hg hat
              rw [← Ny308.out] at ho
              have n0_ := Aside0.mk (Kd.R_over' (by (with_reducible repeat (first | apply Kd.R_alloc | apply Kd.R_drewN | apply Kd.R_drew)); exact HO_9.out) (Kd.N_typed (by (with_reducible repeat (first | apply Kd.N_alloc | apply Kd.N_drewN | apply Kd.N_drew)); exact HO302.out)) (by decide) hg)
              have n1_ := Aside0.mk (Kd.N_afterv (ok := (fun k_ => some k_ ≠ (.slice Ao15 t256.length co15 : Value).ownBlock ∧ some k_ ≠ (.slice Ao17 t258.length co17 : Value).ownBlock ∧ some k_ ≠ (v266 : Value).ownBlock ∧ some k_ ≠ (.slice Ao42 y269.length co42 : Value).ownBlock ∧ some k_ ≠ (v290 : Value).ownBlock)) (by (with_reducible repeat (first | apply Kd.N_alloc | apply Kd.N_drewN | apply Kd.N_drew)); exact HO_10.out) hg hat)
              have n2_ := Aside0.mk (Kd.N_afterv (ok := (fun k_ => some k_ ≠ (.slice Ao15 t256.length co15 : Value).ownBlock ∧ some k_ ≠ (.slice Ao16 t257.length co16 : Value).ownBlock ∧ some k_ ≠ (v266 : Value).ownBlock ∧ some k_ ≠ (.slice Ao42 y269.length co42 : Value).ownBlock ∧ some k_ ≠ (v290 : Value).ownBlock)) (by (with_reducible repeat (first | apply Kd.N_alloc | apply Kd.N_drewN | apply Kd.N_drew)); exact HO_11.out) hg hat)
              have n3_ := Aside0.mk (Kd.R_over' (by (with_reducible repeat (first | apply Kd.R_alloc | apply Kd.R_drewN | apply Kd.R_drew)); exact HO_12.out) (Kd.N_typed (by (with_reducible repeat (first | apply Kd.N_alloc | apply Kd.N_drewN | apply Kd.N_drew)); exact HO302.out)) (by decide) hg)
              have n4_ := Aside0.mk (Kd.R_over' (by (with_reducible repeat (first | apply Kd.R_alloc | apply Kd.R_drewN | apply Kd.R_drew)); exact HO271.out) (Kd.N_typed (by (with_reducible repeat (first | apply Kd.N_alloc | apply Kd.N_drewN | apply Kd.N_drew)); exact HO302.out)) (by decide) hg)
              have n5_ := Aside0.mk (Kd.V_afterv (ok := (fun k_ => some k_ ≠ (.slice Ao15 t256.length co15 : Value).ownBlock ∧ some k_ ≠ (.slice Ao17 t258.length co17 : Value).ownBlock ∧ some k_ ≠ (v266 : Value).ownBlock ∧ some k_ ≠ (.slice Ao42 y269.length co42 : Value).ownBlock ∧ some k_ ≠ (v290 : Value).ownBlock)) (by (with_reducible repeat (first | apply Kd.V_alloc | apply Kd.V_drewN | apply Kd.V_drew)); exact HO280.out) hg hat)
              have n6_ := Aside0.mk (Kd.V_afterv (ok := (fun k_ => some k_ ≠ (.slice Ao15 t256.length co15 : Value).ownBlock ∧ some k_ ≠ (.slice Ao17 t258.length co17 : Value).ownBlock ∧ some k_ ≠ (v266 : Value).ownBlock ∧ some k_ ≠ (.slice Ao42 y269.length co42 : Value).ownBlock ∧ some k_ ≠ (v290 : Value).ownBlock)) (by (with_reducible repeat (first | apply Kd.V_alloc | apply Kd.V_drewN | apply Kd.V_drew)); exact HO288.out) hg hat)
              have n7_ := Aside0.mk (Kd.V_afterv (ok := (fun k_ => some k_ ≠ (.slice Ao15 t256.length co15 : Value).ownBlock ∧ some k_ ≠ (.slice Ao16 t257.length co16 : Value).ownBlock ∧ some k_ ≠ (v266 : Value).ownBlock ∧ some k_ ≠ (.slice Ao42 y269.length co42 : Value).ownBlock ∧ some k_ ≠ (v290 : Value).ownBlock)) (by (with_reducible repeat (first | apply Kd.V_alloc | apply Kd.V_drewN | apply Kd.V_drew)); exact HO299.out) hg hat)
              have n8_ := Aside0.mk (Kd.V_afterv (ok := (fun k_ => some k_ ≠ (.slice Ao15 t256.length co15 : Value).ownBlock ∧ some k_ ≠ (.slice Ao16 t257.length co16 : Value).ownBlock ∧ some k_ ≠ (v266 : Value).ownBlock ∧ some k_ ≠ (.slice Ao42 y269.length co42 : Value).ownBlock ∧ some k_ ≠ (v290 : Value).ownBlock)) (by (with_reducible repeat (first | apply Kd.V_alloc | apply Kd.V_drewN | apply Kd.V_drew)); exact HO307.out) hg hat)
              have n9_ := Aside0.mk (Kd.N_afterv (ok := (fun k_ => some k_ ≠ (.slice Ao15 t256.length co15 : Value).ownBlock ∧ some k_ ≠ (.slice Ao17 t258.length co17 : Value).ownBlock ∧ some k_ ≠ (v266 : Value).ownBlock ∧ some k_ ≠ (.slice Ao42 y269.length co42 : Value).ownBlock)) (by (with_reducible repeat (first | apply Kd.N_alloc | apply Kd.N_drewN | apply Kd.N_drew)); exact HO291.out) hg hat)
              have n10_ := Aside0.mk (hb)
              have n11_ := Aside0.mk (ho)
              clear HO_9
              clear HO_10
              clear HO_11
              clear HO_12
              clear HO271
              clear HO280
              clear HO288
              clear HO299
              clear HO307
              clear HO291
              clear HB
              clear HO302
              have HO_9 := n0_
              have HO_10 := n1_
              have HO_11 := n2_
              have HO_12 := n3_
              have HO271 := n4_
              have HO280 := n5_
              have HO288 := n6_
              have HO299 := n7_
              have HO307 := n8_
              have HO291 := n9_
              have HB := n10_
              have HO310 := n11_
              clear n0_ n1_ n2_ n3_ n4_ n5_ n6_ n7_ n8_ n9_ n10_ n11_
              clear ho hb hg hat
              refine hK.out _ _ trivial (fun hHeld => ?_)
              clear hK K
              refine norm_ (a' := ?_) ?_ ?_
              rotate_left
              · show Act.put _ (some 75) _ = _
                simp only [Act.put, List.setIfInBounds_toArray, List.set_cons_zero, List.set_cons_succ, i64_w, i32_w]
                rfl
              refine pure_ (i := 18) (N := some 14) (v := ?_) (a' := ?_) #[true, true, true, true, true, true, true, true, true, true, true, true, true, true, true, true, true, true, true, false] rfl rfl (any_of HT_.out (by kernel_rfl)) (fun _ _ _ h => h) (Or.inl ⟨by rfl, ?_⟩) ?_ ?_
              rotate_left
              · intro w'
                go_simp
                with_reducible rfl
              rotate_left
              · simp only [Act.put, List.setIfInBounds_toArray, List.set_cons_zero, List.set_cons_succ, i64_w, i32_w]
                rfl
              refine pure_ (i := 19) (N := some 15) (v := ?_) (a' := ?_) #[true, true, true, true, true, true, true, true, true, true, true, true, true, true, true, true, true, true, true, true] rfl rfl (any_of HT_.out (by kernel_rfl)) (fun _ _ _ h => h) (Or.inl ⟨by rfl, ?_⟩) ?_ ?_
              rotate_left
              · intro w'
                go_simp
                with_reducible rfl
              rotate_left
              · simp only [Act.put, List.setIfInBounds_toArray, List.set_cons_zero, List.set_cons_succ, i64_w, i32_w]
                rfl
              refine done_ (done_of HT_.out (by kernel_rfl)) ?_
              obtain ⟨Ao57, co57, eo57⟩ := Kd.N_slice HO291.out
              subst eo57
              obtain ⟨Ao58, co58, eo58⟩ := Kd.N_slice HO310.out
              subst eo58
              try go_wp2_with (first | ((with_reducible refine gate_callee (f := 13) rfl ?_); refine goesL_ (some 79) rfl rfl Try.func13 (by kernel_rfl) rfl #[.slice Ao15 t256.length co15, .slice Ao57 y289.length co57, .slice Ao58 y308.length co58] rfl (by (try simp only [List.map_toArray, List.map_cons, List.map_nil]); first | done | rfl | (simp only [List.length_drop, List.length_take]; rfl)) ?_; (with_reducible refine (holt_Stuck.calls kj12 _ _ t256 _ _ y289 _ _ y308 t311 _ ?side1 ?side2 ?side3 ?side4 ?side5 ?side6 A38.out).mono ?_); (case side1 => repeat (first | exact (Kd.R_reads' HO_9.out).2.2 | (with_reducible refine Kd.C_alloc ?_ _) | (with_reducible refine Kd.C_drewN ?_ _) | (with_reducible refine Kd.C_drew ?_))); (case side2 => exact (Kd.R_reads' HO_9.out).2.1); (case side3 => repeat (first | exact (Kd.N_reads' HO291.out).2.2 | (with_reducible refine Kd.C_alloc ?_ _) | (with_reducible refine Kd.C_drewN ?_ _) | (with_reducible refine Kd.C_drew ?_))); (case side4 => exact (Kd.N_reads' HO291.out).2.1); (case side5 => repeat (first | exact (Kd.N_reads' HO310.out).2.2 | (with_reducible refine Kd.C_alloc ?_ _) | (with_reducible refine Kd.C_drewN ?_ _) | (with_reducible refine Kd.C_drew ?_))); (case side6 => exact (Kd.N_reads' HO310.out).2.1); rintro e w59 ⟨v312, rfl, ho0, hb⟩; refine ⟨_, rfl, ?_⟩; have n0_ := Aside0.mk (Kd.R_elder' (by (with_reducible repeat (first | apply Kd.R_alloc | apply Kd.R_drewN | apply Kd.R_drew)); exact HO_9.out) (Kd.R_base ho0) hb); have n1_ := Aside0.mk (Kd.N_elder' (by (with_reducible repeat (first | apply Kd.N_alloc | apply Kd.N_drewN | apply Kd.N_drew)); exact HO_10.out) (Kd.R_base ho0) hb); have n2_ := Aside0.mk (Kd.N_elder' (by (with_reducible repeat (first | apply Kd.N_alloc | apply Kd.N_drewN | apply Kd.N_drew)); exact HO_11.out) (Kd.R_base ho0) hb); have n3_ := Aside0.mk (Kd.R_elder' (by (with_reducible repeat (first | apply Kd.R_alloc | apply Kd.R_drewN | apply Kd.R_drew)); exact HO_12.out) (Kd.R_base ho0) hb); have n4_ := Aside0.mk (Kd.R_elder' (by (with_reducible repeat (first | apply Kd.R_alloc | apply Kd.R_drewN | apply Kd.R_drew)); exact HO271.out) (Kd.R_base ho0) hb); have n5_ := Aside0.mk (Kd.V_elder' (by (with_reducible repeat (first | apply Kd.V_alloc | apply Kd.V_drewN | apply Kd.V_drew)); exact HO280.out) (Kd.R_base ho0) hb); have n6_ := Aside0.mk (Kd.V_elder' (by (with_reducible repeat (first | apply Kd.V_alloc | apply Kd.V_drewN | apply Kd.V_drew)); exact HO288.out) (Kd.R_base ho0) hb); have n7_ := Aside0.mk (Kd.V_elder' (by (with_reducible repeat (first | apply Kd.V_alloc | apply Kd.V_drewN | apply Kd.V_drew)); exact HO299.out) (Kd.R_base ho0) hb); have n8_ := Aside0.mk (Kd.V_elder' (by (with_reducible repeat (first | apply Kd.V_alloc | apply Kd.V_drewN | apply Kd.V_drew)); exact HO307.out) (Kd.R_base ho0) hb); have n9_ := Aside0.mk (Kd.N_elder' (by (with_reducible repeat (first | apply Kd.N_alloc | apply Kd.N_drewN | apply Kd.N_drew)); exact HO291.out) (Kd.R_base ho0) hb); have n10_ := Aside0.mk (Kd.N_elder' (by (with_reducible repeat (first | apply Kd.N_alloc | apply Kd.N_drewN | apply Kd.N_drew)); exact HO310.out) (Kd.R_base ho0) hb); have n11_ := Aside0.mk (Kd.R_lower (Kd.R_new' (Kd.R_new' (Kd.R_new' ho0 (Kd.R_lt (by (with_reducible repeat (first | apply Kd.R_alloc | apply Kd.R_drewN | apply Kd.R_drew)); exact HO_9.out))) (Kd.R_lt (by (with_reducible repeat (first | apply Kd.R_alloc | apply Kd.R_drewN | apply Kd.R_drew)); exact HO_12.out))) (Kd.R_lt (by (with_reducible repeat (first | apply Kd.R_alloc | apply Kd.R_drewN | apply Kd.R_drew)); exact HO271.out))) (below_size (by repeat (first | (with_reducible first | exact HB.out | apply below_alloc | apply pw_below_drewN | apply below_drew1) | exact HB.out)))); have n12_ := Aside0.mk (below_step (by repeat (first | (with_reducible first | exact HB.out | apply below_alloc | apply pw_below_drewN | apply below_drew1) | exact HB.out)) hb); clear HO_9; clear HO_10; clear HO_11; clear HO_12; clear HO271; clear HO280; clear HO288; clear HO299; clear HO307; clear HO291; clear HO310; clear HB; have HO_9 := n0_; have HO_10 := n1_; have HO_11 := n2_; have HO_12 := n3_; have HO271 := n4_; have HO280 := n5_; have HO288 := n6_; have HO299 := n7_; have HO307 := n8_; have HO291 := n9_; have HO310 := n10_; have HO313 := n11_; have HB := n12_; clear n0_ n1_ n2_ n3_ n4_ n5_ n6_ n7_ n8_ n9_ n10_ n11_ n12_; (try clear hb); (try clear hb2); (try clear hk); (try clear hi); (try clear ho0); obtain ⟨Ao60, co60, eo60⟩ := Kd.R_slice HO313.out; subst eo60; obtain ⟨Ao61, co61, eo61⟩ := Kd.R_slice HO_12.out; subst eo61))
              go_loopg [17] kj12 (fun kq v17 w' => ∃ (x17_3 : Int), v17 = .int .i64 x17_3 ∧ Aside0 (signalboxlaw15_HoltOne.l0 kq a0 a3 t256 t257 t258 t265 t272 t311 x17_3 = some r) ∧ Aside0 (kq ≤ kj12) ∧ Aside0 (Kd.R (Kd.int .i64) 3 w' w.heap.size (fun k_ => some k_ ≠ ((.slice Ao61 t265.length co61) : Value).ownBlock ∧ some k_ ≠ ((.slice Ao60 t311.length co60) : Value).ownBlock) (.slice Ao15 t256.length co15) t256) ∧ Aside0 (Kd.N (Kd.slice 3 (Kd.int .i64)) 22 w' w.heap.size (fun k_ => some k_ ≠ ((.slice Ao15 t256.length co15) : Value).ownBlock ∧ some k_ ≠ ((.slice Ao17 t258.length co17) : Value).ownBlock ∧ some k_ ≠ ((.slice Ao61 t265.length co61) : Value).ownBlock ∧ some k_ ≠ ((.slice Ao60 t311.length co60) : Value).ownBlock) (.slice Ao16 t257.length co16) t257) ∧ Aside0 (Kd.N (Kd.slice 3 (Kd.int .i64)) 22 w' w.heap.size (fun k_ => some k_ ≠ ((.slice Ao15 t256.length co15) : Value).ownBlock ∧ some k_ ≠ ((.slice Ao16 t257.length co16) : Value).ownBlock ∧ some k_ ≠ ((.slice Ao61 t265.length co61) : Value).ownBlock ∧ some k_ ≠ ((.slice Ao60 t311.length co60) : Value).ownBlock) (.slice Ao17 t258.length co17) t258) ∧ Aside0 (Kd.R (Kd.int .i64) 3 w' w.heap.size (fun k_ => some k_ ≠ ((.slice Ao15 t256.length co15) : Value).ownBlock ∧ some k_ ≠ ((.slice Ao60 t311.length co60) : Value).ownBlock) (.slice Ao61 t265.length co61) t265) ∧ Aside0 (Kd.R (Kd.int .i64) 3 w' w.heap.size (fun k_ => some k_ ≠ ((.slice Ao15 t256.length co15) : Value).ownBlock ∧ some k_ ≠ ((.slice Ao61 t265.length co61) : Value).ownBlock) (.slice Ao60 t311.length co60) t311) ∧ Aside0 (Below w.heap.size w w'))
              case atStart => exact ⟨(0), (by first | rfl | (simp; done) | (simp [*]; done)), H', ⟨Nat.le_refl _⟩, ⟨by (with_reducible repeat (first | apply Kd.R_alloc | apply Kd.R_drewN | apply Kd.R_drew)); exact Kd.R_mono HO_9.out (fun _ hk => by first | exact ⟨hk.1.2, hk.2⟩ | simp only [hk, ne_eq, not_false_eq_true, and_self])⟩, ⟨by (with_reducible repeat (first | apply Kd.N_alloc | apply Kd.N_drewN | apply Kd.N_drew)); exact Kd.N_mono HO_10.out (fun _ hk => by first | exact ⟨hk.1.1.1, ⟨hk.1.1.2.1, ⟨hk.1.1.2.2.1, hk.2⟩⟩⟩ | simp only [hk, ne_eq, not_false_eq_true, and_self])⟩, ⟨by (with_reducible repeat (first | apply Kd.N_alloc | apply Kd.N_drewN | apply Kd.N_drew)); exact Kd.N_mono HO_11.out (fun _ hk => by first | exact ⟨hk.1.1.1, ⟨hk.1.1.2.1, ⟨hk.1.1.2.2.1, hk.2⟩⟩⟩ | simp only [hk, ne_eq, not_false_eq_true, and_self])⟩, ⟨by (with_reducible repeat (first | apply Kd.R_alloc | apply Kd.R_drewN | apply Kd.R_drew)); exact Kd.R_mono HO_12.out (fun _ hk => by first | exact ⟨hk.1.2, hk.2⟩ | simp only [hk, ne_eq, not_false_eq_true, and_self])⟩, ⟨by (with_reducible repeat (first | apply Kd.R_alloc | apply Kd.R_drewN | apply Kd.R_drew)); exact Kd.R_mono HO313.out (fun _ hk => by first | exact ⟨hk.1.1.2, hk.1.2⟩ | simp only [hk, ne_eq, not_false_eq_true, and_self])⟩, ⟨by repeat (first | (with_reducible first | exact HB.out | apply below_alloc | apply pw_below_drewN | apply below_drew1) | exact HB.out)⟩⟩
              case round =>
                clear H'
                try clear c1
                try clear c2
                try clear p2
                try clear c3
                try clear c4
                try clear c13
                try clear c28
                try clear c31
                try clear c34
                try clear c37
                try clear c44
                try clear c46
                obtain ⟨x17_3, rfl, HA, HK3, HO_9, HO_10, HO_11, HO_12, HO_16, HB⟩ := hrel
                cases gk with
                | zero => exact absurd HA.out (by simp [signalboxlaw15_HoltOne.l0])
                | succ k3 =>
                  have H := HA.out
                  clear HA
                  simp only [signalboxlaw15_HoltOne.l0] at H
                  by_cases c62 : x17_3 < (t311.length : Int)
                  · rw [if_pos c62] at H
                    have c62b0 : decide (x17_3 < (t311.length : Int)) = true := decide_eq_true c62
                    clear c62
                    by_cases c63 : 0 ≤ x17_3
                    case neg =>
                      rw [if_neg c63] at H
                      exact absurd H (by simp)
                    rw [if_pos c63] at H
                    have c63b0 : decide (0 ≤ x17_3) = true := decide_eq_true c63
                    clear c63
                    by_cases c64 : a0 = 0
                    · rw [if_pos c64] at H
                      exact absurd H (by simp)
                    · rw [if_neg c64] at H
                      have c64b0 : (a0 == 0) = false := beq_eq_false_iff_ne.mpr c64
                      have c64b1 : (a0 != 0) = true := bne_iff_ne.mpr c64
                      replace H := Option.bind_eq_some_iff.mp H
                      obtain ⟨t315, A650, H⟩ := H
                      replace H : (if t315 = true then (signalboxlaw15_HoltOne.l0 k3 a0 a3 t256 t257 t258 t265 t272 t311 (wrap64 (x17_3 + 1))) else (some false)) = some r := H
                      have A65 := Aside0.mk A650
                      clear A650
                      by_cases c66 : t315 = true
                      · subst c66
                        have H1 : (signalboxlaw15_HoltOne.l0 k3 a0 a3 t256 t257 t258 t265 t272 t311 (wrap64 (x17_3 + 1))) = some r := by rw [if_pos rfl] at H; exact H
                        clear H
                        have H := H1
                        clear H1
                        have H' := Aside0.mk H
                        clear H
                        have p314 : 0 ≤ (x17_3 : Int) := of_decide_eq_true (by first | (with_reducible assumption) | assumption)
                        have q314 : x17_3 < (t311.length : Int) := of_decide_eq_true (by first | (with_reducible assumption) | assumption)
                        obtain ⟨ad314, e314, hx314_0⟩ := Kd.at_int (Kd.R_reads' HO_16.out).2.2 x17_3 p314 q314
                        cases e314
                        replace p314 := eq_true p314
                        replace q314 := eq_true q314
                        go_wp2_with (first | ((with_reducible refine gate_callee (f := 19) rfl ?_); refine goesL_ (some 100) rfl rfl Try.func19 (by kernel_rfl) rfl #[.slice Ao61 t265.length co61, .int .i64 (Int.tmod (wrap64 ((rd t311 x17_3) + t272)) a0)] rfl (by (try simp only [List.map_toArray, List.map_cons, List.map_nil]); first | done | rfl | (simp only [List.length_drop, List.length_take]; rfl)) ?_; (with_reducible refine (signalboxref1_Has.calls k3 _ _ t265 (Int.tmod (wrap64 ((rd t311 x17_3) + t272)) a0) true _ ?side1 ?side2 A65.out).mono ?_); (case side1 => repeat (first | exact (Kd.R_reads' HO_12.out).2.2 | (with_reducible refine Kd.C_alloc ?_ _) | (with_reducible refine Kd.C_drewN ?_ _) | (with_reducible refine Kd.C_drew ?_))); (case side2 => exact (Kd.R_reads' HO_12.out).2.1); rintro e w' ⟨rfl, ⟨nd, rfl⟩⟩; refine ⟨_, rfl, ?_⟩))
                        go_roundg k3
                        case measure => have := HJ4.out; have := HJ12.out; have := HK3.out; omega
                        case rel => exact ⟨(wrap64 (x17_3 + 1)), (by first | rfl | (simp; done) | (simp [*]; done)), H', ⟨by have := HJ4.out; have := HJ12.out; have := HK3.out; omega⟩, ⟨by (with_reducible repeat (first | apply Kd.R_alloc | apply Kd.R_drewN | apply Kd.R_drew)); exact HO_9.out⟩, ⟨by (with_reducible repeat (first | apply Kd.N_alloc | apply Kd.N_drewN | apply Kd.N_drew)); exact HO_10.out⟩, ⟨by (with_reducible repeat (first | apply Kd.N_alloc | apply Kd.N_drewN | apply Kd.N_drew)); exact HO_11.out⟩, ⟨by (with_reducible repeat (first | apply Kd.R_alloc | apply Kd.R_drewN | apply Kd.R_drew)); exact HO_12.out⟩, ⟨by (with_reducible repeat (first | apply Kd.R_alloc | apply Kd.R_drewN | apply Kd.R_drew)); exact HO_16.out⟩, ⟨by repeat (first | (with_reducible first | exact HB.out | apply below_alloc | apply pw_below_drewN | apply below_drew1) | exact HB.out)⟩⟩
                      · replace c66 := Bool.eq_false_iff.mpr c66
                        subst c66
                        have H1 : (some false) = some r := by rw [if_neg (show ¬ (false = true) by decide)] at H; exact H
                        clear H
                        have H := H1
                        clear H1
                        obtain rfl := Option.some.inj H
                        have p314 : 0 ≤ (x17_3 : Int) := of_decide_eq_true (by first | (with_reducible assumption) | assumption)
                        have q314 : x17_3 < (t311.length : Int) := of_decide_eq_true (by first | (with_reducible assumption) | assumption)
                        obtain ⟨ad314, e314, hx314_0⟩ := Kd.at_int (Kd.R_reads' HO_16.out).2.2 x17_3 p314 q314
                        cases e314
                        replace p314 := eq_true p314
                        replace q314 := eq_true q314
                        go_wp2_with (first | ((with_reducible refine gate_callee (f := 19) rfl ?_); refine goesL_ (some 100) rfl rfl Try.func19 (by kernel_rfl) rfl #[.slice Ao61 t265.length co61, .int .i64 (Int.tmod (wrap64 ((rd t311 x17_3) + t272)) a0)] rfl (by (try simp only [List.map_toArray, List.map_cons, List.map_nil]); first | done | rfl | (simp only [List.length_drop, List.length_take]; rfl)) ?_; (with_reducible refine (signalboxref1_Has.calls k3 _ _ t265 (Int.tmod (wrap64 ((rd t311 x17_3) + t272)) a0) false _ ?side1 ?side2 A65.out).mono ?_); (case side1 => repeat (first | exact (Kd.R_reads' HO_12.out).2.2 | (with_reducible refine Kd.C_alloc ?_ _) | (with_reducible refine Kd.C_drewN ?_ _) | (with_reducible refine Kd.C_drew ?_))); (case side2 => exact (Kd.R_reads' HO_12.out).2.1); rintro e w' ⟨rfl, ⟨nd, rfl⟩⟩; refine ⟨_, rfl, ?_⟩))
                        go_ret
                        exact ⟨by first | rfl | (simp [errW_none, errW_some] <;> rfl) | (simp [*, errW_none, errW_some] <;> rfl), by repeat (first | (with_reducible first | exact HB.out | apply below_alloc | apply pw_below_drewN | apply below_drew1) | exact HB.out)⟩
                  · rw [if_neg c62] at H
                    have c62b0 : decide (x17_3 < (t311.length : Int)) = false := decide_eq_false c62
                    clear c62
                    by_cases c67 : 0 < (t256.length : Int)
                    case neg =>
                      rw [if_neg c67] at H
                      exact absurd H (by simp)
                    rw [if_pos c67] at H
                    have c67b0 : decide (0 < (t256.length : Int)) = true := decide_eq_true c67
                    have c67b1 : decide (0 < t256.length) = true := decide_eq_true (by omega)
                    clear c67
                    obtain ⟨y317, hy317⟩ : ∃ y_ : List Int, y_ = (([a3] : List Int)) := ⟨_, rfl⟩
                    replace H : ((signalboxlaw15_next.f y317 0 5).bind fun t320 => (if 1 < (t256.length : Int) then ((holt_Stuck.f k3 (([wrap64 ((rd t256 0) + t320), rd t256 1] : List Int)) t257 t258).bind fun t325 => (signalboxlaw15_HoltOne.l1 k3 t265 t325 0)) else (none))) = some r := by first | (rw [hy317]; with_reducible exact H) | (have H2_ := (Option.bind_some _ _).symm.trans H; rw [hy317]; with_reducible exact H2_) | (have H2_ := (Option.bind_some _ _).symm.trans H; with_reducible exact H2_) | with_reducible exact H | (rw [hy317]; exact H) | exact H
                    have Ny317 := Aside0.mk hy317
                    clear hy317
                    replace H := Option.bind_eq_some_iff.mp H
                    obtain ⟨t320, A680, H⟩ := H
                    replace H : (if 1 < (t256.length : Int) then ((holt_Stuck.f k3 (([wrap64 ((rd t256 0) + t320), rd t256 1] : List Int)) t257 t258).bind fun t325 => (signalboxlaw15_HoltOne.l1 k3 t265 t325 0)) else (none)) = some r := H
                    have A68 := Aside0.mk A680
                    clear A680
                    by_cases c69 : 1 < (t256.length : Int)
                    case neg =>
                      rw [if_neg c69] at H
                      exact absurd H (by simp)
                    rw [if_pos c69] at H
                    have c69b0 : decide (1 < (t256.length : Int)) = true := decide_eq_true c69
                    have c69b1 : decide (1 < t256.length) = true := decide_eq_true (by omega)
                    clear c69
                    obtain ⟨y322, hy322⟩ : ∃ y_ : List Int, y_ = (([wrap64 ((rd t256 0) + t320), rd t256 1] : List Int)) := ⟨_, rfl⟩
                    replace H : ((holt_Stuck.f k3 y322 t257 t258).bind fun t325 => (signalboxlaw15_HoltOne.l1 k3 t265 t325 0)) = some r := by first | (rw [hy322]; with_reducible exact H) | (have H2_ := (Option.bind_some _ _).symm.trans H; rw [hy322]; with_reducible exact H2_) | (have H2_ := (Option.bind_some _ _).symm.trans H; with_reducible exact H2_) | with_reducible exact H | (rw [hy322]; exact H) | exact H
                    have Ny322 := Aside0.mk hy322
                    clear hy322
                    replace H := Option.bind_eq_some_iff.mp H
                    obtain ⟨t325, A700, H⟩ := H
                    replace H : (signalboxlaw15_HoltOne.l1 k3 t265 t325 0) = some r := H
                    have A70 := Aside0.mk A700
                    clear A700
                    have H' := Aside0.mk H
                    clear H
                    try go_wp2
                    have n0_ := Aside0.mk (Kd.R_drew HO_9.out)
                    have n1_ := Aside0.mk (Kd.N_drew HO_10.out)
                    have n2_ := Aside0.mk (Kd.N_drew HO_11.out)
                    have n3_ := Aside0.mk (Kd.R_drew HO_12.out)
                    have n4_ := Aside0.mk (Kd.R_drew HO_16.out)
                    have n5_ := Aside0.mk (below_drew1 HB.out)
                    clear HO_9
                    clear HO_10
                    clear HO_11
                    clear HO_12
                    clear HO_16
                    clear HB
                    have HO_9 := n0_
                    have HO_10 := n1_
                    have HO_11 := n2_
                    have HO_12 := n3_
                    have HO_16 := n4_
                    have HB := n5_
                    clear n0_ n1_ n2_ n3_ n4_ n5_
                    have p316 : 0 ≤ (0 : Int) := (by omega)
                    have q316 : 0 < (t256.length : Int) := of_decide_eq_true (by first | (with_reducible assumption) | assumption)
                    obtain ⟨ad316, e316, hx316_0⟩ := Kd.at_int (Kd.R_reads' HO_9.out).2.2 0 p316 q316
                    cases e316
                    have qi316 : (0 < t256.length) = True := eq_true (by omega)
                    (try rw [show ((0 : Int)).toNat = 0 from rfl] at hx316_0)
                    (try rw [Addr.add_zero'] at hx316_0)
                    replace p316 := eq_true p316
                    replace q316 := eq_true q316
                    have p321 : 0 ≤ (1 : Int) := (by omega)
                    have q321 : 1 < (t256.length : Int) := of_decide_eq_true (by first | (with_reducible assumption) | assumption)
                    obtain ⟨ad321, e321, hx321_0⟩ := Kd.at_int (Kd.R_reads' HO_9.out).2.2 1 p321 q321
                    obtain rfl : ad316 = ad321 := (by injection e321)
                    (try simp only [show (1 : Int).toNat = 1 from rfl, Nat.reduceMul, Nat.reduceEqDiff, Go.Addr.add, ↓reduceIte] at hx321_0)
                    have qi321 : (1 < t256.length) = True := eq_true (by omega)
                    (try rw [show ((1 : Int)).toNat = 1 from rfl] at hx321_0)
                    replace p321 := eq_true p321
                    replace q321 := eq_true q321
                    refine start_ (n := 15) (S := fun w' => w'.cell? ad316 = some (.int .i64 (rd t256 0)) ∧ w'.cell? ⟨ad316.block, ad316.off + 1, none⟩ = some (.int .i64 (rd t256 1))) (ds := []) #[false, false, false, false, false, false, false, false, false, false, false, false, false, false, false] (by kernel_rfl) rfl rfl ⟨hx316_0, hx321_0⟩ (fun hHeld => ?_); refine with_tabW signalboxlaw15_HoltOne.tab17 signalboxlaw15_HoltOne.bits17 (fun HT_ HW_ => ?_)
                    generalize wr.drew = w71 at HO_9 HO_10 HO_11 HO_12 HO_16 HB hx316_0 hx321_0 hHeld ⊢
                    refine pure_ (i := 0) (N := some 102) (v := ?_) (a' := ?_) #[true, false, false, false, false, false, false, false, false, false, false, false, false, false, false] rfl rfl (any_of HT_.out (by kernel_rfl)) (fun _ _ _ h => h) (Or.inl ⟨by rfl, ?_⟩) ?_ ?_
                    rotate_left
                    · intro w'
                      go_simp
                      with_reducible rfl
                    rotate_left
                    · simp only [Act.put, List.setIfInBounds_toArray, List.set_cons_zero, List.set_cons_succ, i64_w, i32_w]
                      rfl
                    refine pure_ (i := 1) (N := some 103) (v := ?_) (a' := ?_) #[true, true, false, false, false, false, false, false, false, false, false, false, false, false, false] rfl rfl (any_of HT_.out (by kernel_rfl)) (fun _ _ _ h => h) (Or.inl ⟨by rfl, ?_⟩) ?_ ?_
                    rotate_left
                    · intro w'
                      go_simp
                      with_reducible rfl
                    rotate_left
                    · simp only [Act.put, List.setIfInBounds_toArray, List.set_cons_zero, List.set_cons_succ, i64_w, i32_w]
                      rfl
                    refine pure_ (i := 3) (N := some 105) (v := ?_) (a' := ?_) #[true, true, false, true, false, false, false, false, false, false, false, false, false, false, false] rfl rfl (any_of HT_.out (by kernel_rfl)) (fun _ _ _ h => h) (Or.inl ⟨by rfl, ?_⟩) ?_ ?_
                    rotate_left
                    · intro w'
                      go_simp
                      with_reducible rfl
                    rotate_left
                    · simp only [Act.put, List.setIfInBounds_toArray, List.set_cons_zero, List.set_cons_succ, i64_w, i32_w]
                      rfl
                    refine pure_ (i := 7) (N := some 109) (v := ?_) (a' := ?_) #[true, true, false, true, false, false, false, true, false, false, false, false, false, false, false] rfl rfl (any_of HT_.out (by kernel_rfl)) (fun _ _ _ h => h) (Or.inl ⟨by rfl, ?_⟩) ?_ ?_
                    rotate_left
                    · intro w'
                      go_simp
                      with_reducible rfl
                    rotate_left
                    · simp only [Act.put, List.setIfInBounds_toArray, List.set_cons_zero, List.set_cons_succ, i64_w, i32_w]
                      rfl
                    refine pure_ (i := 8) (N := some 110) (v := ?_) (a' := ?_) #[true, true, false, true, false, false, false, true, true, false, false, false, false, false, false] rfl rfl (any_of HT_.out (by kernel_rfl)) (fun _ _ _ h => h) (Or.inl ⟨by rfl, ?_⟩) ?_ ?_
                    rotate_left
                    · intro w'
                      go_simp
                      with_reducible rfl
                    rotate_left
                    · simp only [Act.put, List.setIfInBounds_toArray, List.set_cons_zero, List.set_cons_succ, i64_w, i32_w]
                      rfl
                    refine pure_ (i := 11) (N := some 113) (v := ?_) (a' := ?_) #[true, true, false, true, false, false, false, true, true, false, false, true, false, false, false] rfl rfl (any_of HT_.out (by kernel_rfl)) (fun _ _ _ h => h) (Or.inl ⟨by rfl, ?_⟩) ?_ ?_
                    rotate_left
                    · intro w'
                      go_simp
                      with_reducible rfl
                    rotate_left
                    · simp only [Act.put, List.setIfInBounds_toArray, List.set_cons_zero, List.set_cons_succ, i64_w, i32_w]
                      rfl
                    refine pure_ (i := 12) (N := some 114) (v := ?_) (a' := ?_) #[true, true, false, true, false, false, false, true, true, false, false, true, true, false, false] rfl rfl (any_of HT_.out (by kernel_rfl)) (fun _ _ _ h => h) (Or.inl ⟨by rfl, ?_⟩) ?_ ?_
                    rotate_left
                    · intro w'
                      go_simp
                      with_reducible rfl
                    rotate_left
                    · simp only [Act.put, List.setIfInBounds_toArray, List.set_cons_zero, List.set_cons_succ, i64_w, i32_w]
                      rfl
                    refine take_ (i := 2) (N := some 104) (v := ?_) (a' := ?_) #[true, true, true, true, false, false, false, true, true, false, false, true, true, false, false] rfl rfl (take_ofW HT_.out HW_.out (by kernel_rfl)) (fun _ _ _ h => h) (Or.inl ⟨by rfl, ?_⟩) hHeld ?_ ?_
                    rotate_left
                    · rintro w' ⟨s0, s1⟩
                      go_simp
                      with_reducible rfl
                    rotate_left
                    · simp only [Act.put, List.setIfInBounds_toArray, List.set_cons_zero, List.set_cons_succ, i64_w, i32_w]
                      rfl
                    refine take_ (i := 9) (N := some 111) (v := ?_) (a' := ?_) #[true, true, true, true, false, false, false, true, true, true, false, true, true, false, false] rfl rfl (take_ofW HT_.out HW_.out (by kernel_rfl)) (fun _ _ _ h => h) (Or.inl ⟨by rfl, ?_⟩) hHeld ?_ ?_
                    rotate_left
                    · rintro w' ⟨s0, s1⟩
                      go_simp
                      with_reducible rfl
                    rotate_left
                    · simp only [Act.put, List.setIfInBounds_toArray, List.set_cons_zero, List.set_cons_succ, i64_w, i32_w]
                      rfl
                    refine one_ (i := 4) (N := some 106) #[true, true, true, true, true, false, false, true, true, true, false, true, true, false, false] rfl rfl (one_of HT_.out (by kernel_rfl)) (by decide) (fun K hK => ?_)
                    refine Kd.R_lit_step (Kd.int .i64) _ 3 ?hg (N := 106) ?hd (xs := ([a3] : List Int)) (inner := [.int .i64 a3]) (ok := fun _ => True) (okp := fun _ => True) ?hr ?hp (fun _ hk => hk) trivial (Below.refl _ _) (Nat.le_refl _) (by simp) ?_; (case hd => rfl); (case hg => rfl); (case hr => first | (go_simp; done) | (go_simp; rfl)); (case hp => exact (Reps.one (show Kd.M (Kd.int .i64) _ _ _ a3 [.int .i64 a3] from rfl) (Reps.none _ _)))
                    intro v318 w72 ho73 hb hg_ hnew_
                    have HS0_ := (hb.cell (World.block_lt_of_cell? _ _ (hHeld.1))).trans (hHeld.1)
                    have HS1_ := (hb.cell (World.block_lt_of_cell? _ _ (hHeld.2))).trans (hHeld.2)
                    clear hg_ hnew_
                    (first | rw [← Ny317.out] at ho73 | (simp only [Int.reduceToNat] at ho73; rw [← Ny317.out] at ho73))
                    have n0_ := Aside0.mk (Kd.R_elder' (by (with_reducible repeat (first | apply Kd.R_alloc | apply Kd.R_drewN | apply Kd.R_drew)); exact HO_9.out) (Kd.R_base ho73) hb)
                    have n1_ := Aside0.mk (Kd.N_elder' (by (with_reducible repeat (first | apply Kd.N_alloc | apply Kd.N_drewN | apply Kd.N_drew)); exact HO_10.out) (Kd.R_base ho73) hb)
                    have n2_ := Aside0.mk (Kd.N_elder' (by (with_reducible repeat (first | apply Kd.N_alloc | apply Kd.N_drewN | apply Kd.N_drew)); exact HO_11.out) (Kd.R_base ho73) hb)
                    have n3_ := Aside0.mk (Kd.R_elder' (by (with_reducible repeat (first | apply Kd.R_alloc | apply Kd.R_drewN | apply Kd.R_drew)); exact HO_12.out) (Kd.R_base ho73) hb)
                    have n4_ := Aside0.mk (Kd.R_elder' (by (with_reducible repeat (first | apply Kd.R_alloc | apply Kd.R_drewN | apply Kd.R_drew)); exact HO_16.out) (Kd.R_base ho73) hb)
                    have n5_ := Aside0.mk (Kd.R_lower (Kd.R_new' (Kd.R_new' (Kd.R_new' ho73 (Kd.R_lt (by (with_reducible repeat (first | apply Kd.R_alloc | apply Kd.R_drewN | apply Kd.R_drew)); exact HO_9.out))) (Kd.R_lt (by (with_reducible repeat (first | apply Kd.R_alloc | apply Kd.R_drewN | apply Kd.R_drew)); exact HO_12.out))) (Kd.R_lt (by (with_reducible repeat (first | apply Kd.R_alloc | apply Kd.R_drewN | apply Kd.R_drew)); exact HO_16.out))) (below_size (by repeat (first | (with_reducible first | exact HB.out | apply below_alloc | apply pw_below_drewN | apply below_drew1) | exact HB.out))))
                    have n6_ := Aside0.mk (below_step (by repeat (first | (with_reducible first | exact HB.out | apply below_alloc | apply pw_below_drewN | apply below_drew1) | exact HB.out)) hb)
                    clear HO_9
                    clear HO_10
                    clear HO_11
                    clear HO_12
                    clear HO_16
                    clear HB
                    have HO_9 := n0_
                    have HO_10 := n1_
                    have HO_11 := n2_
                    have HO_12 := n3_
                    have HO_16 := n4_
                    have HO319 := n5_
                    have HB := n6_
                    clear n0_ n1_ n2_ n3_ n4_ n5_ n6_
                    clear hb ho73
                    obtain ⟨Ao74, co74, eo74⟩ := Kd.R_slice HO319.out
                    (first | subst eo74 | (injection eo74 with f1_ f2_ f3_; have f4_ := f1_.symm; have f5_ := f3_.symm; clear f1_ f2_ f3_; subst f4_; subst f5_))
                    refine hK.out _ _ ⟨HS0_, HS1_⟩ (fun hHeld => ?_)
                    clear hK K
                    refine norm_ (a' := ?_) ?_ ?_
                    rotate_left
                    · show Act.put _ (some 106) _ = _
                      simp only [Act.put, List.setIfInBounds_toArray, List.set_cons_zero, List.set_cons_succ, i64_w, i32_w]
                      rfl
                    refine one_ (i := 5) (N := some 107) #[true, true, true, true, true, true, false, true, true, true, false, true, true, false, false] rfl rfl (one_of HT_.out (by kernel_rfl)) (by decide) (fun K hK => ?_)
                    refine goes_ Try.func18 (by kernel_rfl) rfl #[.slice Ao74 y317.length co74, .int .i64 0, .int .i64 5] (by rfl) rfl rfl (by (try simp only [List.map_toArray, List.map_cons, List.map_nil]); first | done | rfl | (simp only [List.length_drop, List.length_take]; rfl)) ?_
                    with_reducible refine (signalboxlaw15_next.calls _ _ y317 0 5 t320 _ ?side1 ?side2 A68.out).mono ?_
                    (case side1 => repeat (first | exact (Kd.R_reads' HO319.out).2.2 | (with_reducible refine Kd.C_alloc ?_ _) | (with_reducible refine Kd.C_drewN ?_ _) | (with_reducible refine Kd.C_drew ?_)))
                    (case side2 => exact (Kd.R_reads' HO319.out).2.1)
                    rintro e w' ⟨rfl, ⟨nd, rfl⟩⟩
                    refine ⟨_, rfl, ?_⟩
                    refine hK.out _ _ ⟨hHeld.1, hHeld.2⟩ (fun hHeld => ?_)
                    clear hK K
                    refine norm_ (a' := ?_) ?_ ?_
                    rotate_left
                    · show Act.put _ (some 107) _ = _
                      simp only [Act.put, List.setIfInBounds_toArray, List.set_cons_zero, List.set_cons_succ, i64_w, i32_w]
                      rfl
                    refine pure_ (i := 6) (N := some 108) (v := ?_) (a' := ?_) #[true, true, true, true, true, true, true, true, true, true, false, true, true, false, false] rfl rfl (any_of HT_.out (by kernel_rfl)) (fun _ _ _ h => h) (Or.inl ⟨by rfl, ?_⟩) ?_ ?_
                    rotate_left
                    · intro w'
                      go_simp
                      with_reducible rfl
                    rotate_left
                    · simp only [Act.put, List.setIfInBounds_toArray, List.set_cons_zero, List.set_cons_succ, i64_w, i32_w]
                      rfl
                    refine one_ (i := 10) (N := some 112) #[true, true, true, true, true, true, true, true, true, true, true, true, true, false, false] rfl rfl (one_of HT_.out (by kernel_rfl)) (by decide) (fun K hK => ?_)
                    refine Kd.R_lit_step (Kd.int .i64) _ 3 ?hg (N := 112) ?hd (xs := ([wrap64 ((rd t256 0) + t320), rd t256 1] : List Int)) (inner := [.int .i64 (wrap64 ((rd t256 0) + t320)), .int .i64 (rd t256 1)]) (ok := fun _ => True) (okp := fun _ => True) ?hr ?hp (fun _ hk => hk) trivial (Below.refl _ _) (Nat.le_refl _) (by simp) ?_; (case hd => rfl); (case hg => rfl); (case hr => first | (go_simp; done) | (go_simp; rfl)); (case hp => exact (Reps.one (show Kd.M (Kd.int .i64) _ _ _ (wrap64 ((rd t256 0) + t320)) [.int .i64 (wrap64 ((rd t256 0) + t320))] from rfl) (Reps.one (show Kd.M (Kd.int .i64) _ _ _ (rd t256 1) [.int .i64 (rd t256 1)] from rfl) (Reps.none _ _))))
                    intro v323 w75 ho76 hb hg_ hnew_
                    have HS0_ := (hb.cell (World.block_lt_of_cell? _ _ (hHeld.1))).trans (hHeld.1)
                    have HS1_ := (hb.cell (World.block_lt_of_cell? _ _ (hHeld.2))).trans (hHeld.2)
                    clear hg_ hnew_
                    (first | rw [← Ny322.out] at ho76 | (simp only [Int.reduceToNat] at ho76; rw [← Ny322.out] at ho76))
                    have n0_ := Aside0.mk (Kd.R_elder' (by (with_reducible repeat (first | apply Kd.R_alloc | apply Kd.R_drewN | apply Kd.R_drew)); exact HO_9.out) (Kd.R_base ho76) hb)
                    have n1_ := Aside0.mk (Kd.N_elder' (by (with_reducible repeat (first | apply Kd.N_alloc | apply Kd.N_drewN | apply Kd.N_drew)); exact HO_10.out) (Kd.R_base ho76) hb)
                    have n2_ := Aside0.mk (Kd.N_elder' (by (with_reducible repeat (first | apply Kd.N_alloc | apply Kd.N_drewN | apply Kd.N_drew)); exact HO_11.out) (Kd.R_base ho76) hb)
                    have n3_ := Aside0.mk (Kd.R_elder' (by (with_reducible repeat (first | apply Kd.R_alloc | apply Kd.R_drewN | apply Kd.R_drew)); exact HO_12.out) (Kd.R_base ho76) hb)
                    have n4_ := Aside0.mk (Kd.R_elder' (by (with_reducible repeat (first | apply Kd.R_alloc | apply Kd.R_drewN | apply Kd.R_drew)); exact HO_16.out) (Kd.R_base ho76) hb)
                    have n5_ := Aside0.mk (Kd.R_elder' (by (with_reducible repeat (first | apply Kd.R_alloc | apply Kd.R_drewN | apply Kd.R_drew)); exact HO319.out) (Kd.R_base ho76) hb)
                    have n6_ := Aside0.mk (Kd.R_lower (Kd.R_new' (Kd.R_new' (Kd.R_new' (Kd.R_new' ho76 (Kd.R_lt (by (with_reducible repeat (first | apply Kd.R_alloc | apply Kd.R_drewN | apply Kd.R_drew)); exact HO_9.out))) (Kd.R_lt (by (with_reducible repeat (first | apply Kd.R_alloc | apply Kd.R_drewN | apply Kd.R_drew)); exact HO_12.out))) (Kd.R_lt (by (with_reducible repeat (first | apply Kd.R_alloc | apply Kd.R_drewN | apply Kd.R_drew)); exact HO_16.out))) (Kd.R_lt (by (with_reducible repeat (first | apply Kd.R_alloc | apply Kd.R_drewN | apply Kd.R_drew)); exact HO319.out))) (below_size (by repeat (first | (with_reducible first | exact HB.out | apply below_alloc | apply pw_below_drewN | apply below_drew1) | exact HB.out))))
                    have n7_ := Aside0.mk (below_step (by repeat (first | (with_reducible first | exact HB.out | apply below_alloc | apply pw_below_drewN | apply below_drew1) | exact HB.out)) hb)
                    clear HO_9
                    clear HO_10
                    clear HO_11
                    clear HO_12
                    clear HO_16
                    clear HO319
                    clear HB
                    have HO_9 := n0_
                    have HO_10 := n1_
                    have HO_11 := n2_
                    have HO_12 := n3_
                    have HO_16 := n4_
                    have HO319 := n5_
                    have HO324 := n6_
                    have HB := n7_
                    clear n0_ n1_ n2_ n3_ n4_ n5_ n6_ n7_
                    clear hb ho76
                    obtain ⟨Ao77, co77, eo77⟩ := Kd.R_slice HO324.out
                    (first | subst eo77 | (injection eo77 with f1_ f2_ f3_; have f4_ := f1_.symm; have f5_ := f3_.symm; clear f1_ f2_ f3_; subst f4_; subst f5_))
                    refine hK.out _ _ ⟨HS0_, HS1_⟩ (fun hHeld => ?_)
                    clear hK K
                    refine norm_ (a' := ?_) ?_ ?_
                    rotate_left
                    · show Act.put _ (some 112) _ = _
                      simp only [Act.put, List.setIfInBounds_toArray, List.set_cons_zero, List.set_cons_succ, i64_w, i32_w]
                      rfl
                    refine one_ (i := 13) (N := some 115) #[true, true, true, true, true, true, true, true, true, true, true, true, true, true, false] rfl rfl (one_of HT_.out (by kernel_rfl)) (by decide) (fun K hK => ?_)
                    refine goes_ Try.func13 (by kernel_rfl) rfl #[.slice Ao77 y322.length co77, .slice Ao16 t257.length co16, .slice Ao17 t258.length co17] (by rfl) rfl rfl (by (try simp only [List.map_toArray, List.map_cons, List.map_nil]); first | done | rfl | (simp only [List.length_drop, List.length_take]; rfl)) ?_
                    with_reducible refine (holt_Stuck.calls k3 _ _ y322 _ _ t257 _ _ t258 t325 _ ?side1 ?side2 ?side3 ?side4 ?side5 ?side6 A70.out).mono ?_
                    (case side1 => repeat (first | exact (Kd.R_reads' HO324.out).2.2 | (with_reducible refine Kd.C_alloc ?_ _) | (with_reducible refine Kd.C_drewN ?_ _) | (with_reducible refine Kd.C_drew ?_)))
                    (case side2 => exact (Kd.R_reads' HO324.out).2.1)
                    (case side3 => repeat (first | exact (Kd.N_reads' HO_10.out).2.2 | (with_reducible refine Kd.C_alloc ?_ _) | (with_reducible refine Kd.C_drewN ?_ _) | (with_reducible refine Kd.C_drew ?_)))
                    (case side4 => exact (Kd.N_reads' HO_10.out).2.1)
                    (case side5 => repeat (first | exact (Kd.N_reads' HO_11.out).2.2 | (with_reducible refine Kd.C_alloc ?_ _) | (with_reducible refine Kd.C_drewN ?_ _) | (with_reducible refine Kd.C_drew ?_)))
                    (case side6 => exact (Kd.N_reads' HO_11.out).2.1)
                    rintro e w78 ⟨v326, rfl, ho0, hb⟩
                    have HS0_ := (hb.cell (World.block_lt_of_cell? _ _ (hHeld.1))).trans (hHeld.1)
                    have HS1_ := (hb.cell (World.block_lt_of_cell? _ _ (hHeld.2))).trans (hHeld.2)
                    refine ⟨_, rfl, ?_⟩
                    have n0_ := Aside0.mk (Kd.R_elder' (by (with_reducible repeat (first | apply Kd.R_alloc | apply Kd.R_drewN | apply Kd.R_drew)); exact HO_9.out) (Kd.R_base ho0) hb)
                    have n1_ := Aside0.mk (Kd.N_elder' (by (with_reducible repeat (first | apply Kd.N_alloc | apply Kd.N_drewN | apply Kd.N_drew)); exact HO_10.out) (Kd.R_base ho0) hb)
                    have n2_ := Aside0.mk (Kd.N_elder' (by (with_reducible repeat (first | apply Kd.N_alloc | apply Kd.N_drewN | apply Kd.N_drew)); exact HO_11.out) (Kd.R_base ho0) hb)
                    have n3_ := Aside0.mk (Kd.R_elder' (by (with_reducible repeat (first | apply Kd.R_alloc | apply Kd.R_drewN | apply Kd.R_drew)); exact HO_12.out) (Kd.R_base ho0) hb)
                    have n4_ := Aside0.mk (Kd.R_elder' (by (with_reducible repeat (first | apply Kd.R_alloc | apply Kd.R_drewN | apply Kd.R_drew)); exact HO_16.out) (Kd.R_base ho0) hb)
                    have n5_ := Aside0.mk (Kd.R_elder' (by (with_reducible repeat (first | apply Kd.R_alloc | apply Kd.R_drewN | apply Kd.R_drew)); exact HO319.out) (Kd.R_base ho0) hb)
                    have n6_ := Aside0.mk (Kd.R_elder' (by (with_reducible repeat (first | apply Kd.R_alloc | apply Kd.R_drewN | apply Kd.R_drew)); exact HO324.out) (Kd.R_base ho0) hb)
                    have n7_ := Aside0.mk (Kd.R_lower (Kd.R_new' (Kd.R_new' (Kd.R_new' (Kd.R_new' (Kd.R_new' ho0 (Kd.R_lt (by (with_reducible repeat (first | apply Kd.R_alloc | apply Kd.R_drewN | apply Kd.R_drew)); exact HO_9.out))) (Kd.R_lt (by (with_reducible repeat (first | apply Kd.R_alloc | apply Kd.R_drewN | apply Kd.R_drew)); exact HO_12.out))) (Kd.R_lt (by (with_reducible repeat (first | apply Kd.R_alloc | apply Kd.R_drewN | apply Kd.R_drew)); exact HO_16.out))) (Kd.R_lt (by (with_reducible repeat (first | apply Kd.R_alloc | apply Kd.R_drewN | apply Kd.R_drew)); exact HO319.out))) (Kd.R_lt (by (with_reducible repeat (first | apply Kd.R_alloc | apply Kd.R_drewN | apply Kd.R_drew)); exact HO324.out))) (below_size (by repeat (first | (with_reducible first | exact HB.out | apply below_alloc | apply pw_below_drewN | apply below_drew1) | exact HB.out))))
                    have n8_ := Aside0.mk (below_step (by repeat (first | (with_reducible first | exact HB.out | apply below_alloc | apply pw_below_drewN | apply below_drew1) | exact HB.out)) hb)
                    clear HO_9
                    clear HO_10
                    clear HO_11
                    clear HO_12
                    clear HO_16
                    clear HO319
                    clear HO324
                    clear HB
                    have HO_9 := n0_
                    have HO_10 := n1_
                    have HO_11 := n2_
                    have HO_12 := n3_
                    have HO_16 := n4_
                    have HO319 := n5_
                    have HO324 := n6_
                    have HO327 := n7_
                    have HB := n8_
                    clear n0_ n1_ n2_ n3_ n4_ n5_ n6_ n7_ n8_
                    (try clear hb)
                    (try clear hb2)
                    (try clear hk)
                    (try clear hi)
                    (try clear ho0)
                    refine hK.out _ _ ⟨HS0_, HS1_⟩ (fun hHeld => ?_)
                    clear hK K
                    refine norm_ (a' := ?_) ?_ ?_
                    rotate_left
                    · show Act.put _ (some 115) _ = _
                      simp only [Act.put, List.setIfInBounds_toArray, List.set_cons_zero, List.set_cons_succ, i64_w, i32_w]
                      rfl
                    refine pure_ (i := 14) (N := some 18) (v := ?_) (a' := ?_) #[true, true, true, true, true, true, true, true, true, true, true, true, true, true, true] rfl rfl (any_of HT_.out (by kernel_rfl)) (fun _ _ _ h => h) (Or.inl ⟨by rfl, ?_⟩) ?_ ?_
                    rotate_left
                    · intro w'
                      go_simp
                      with_reducible rfl
                    rotate_left
                    · simp only [Act.put, List.setIfInBounds_toArray, List.set_cons_zero, List.set_cons_succ, i64_w, i32_w]
                      rfl
                    refine done_ (done_of HT_.out (by kernel_rfl)) ?_
                    try go_wp2
                    go_loopg [19] k3 (fun kq v19 w' => ∃ (x19_4 : Int), v19 = .int .i64 x19_4 ∧ Aside0 (signalboxlaw15_HoltOne.l1 kq t265 t325 x19_4 = some r) ∧ Aside0 (kq ≤ k3) ∧ Aside0 (Kd.R (Kd.int .i64) 3 w' w.heap.size (fun k_ => some k_ ≠ (v326 : Value).ownBlock) (.slice Ao61 t265.length co61) t265) ∧ Aside0 (Kd.R (Kd.int .i64) 3 w' w.heap.size (fun k_ => some k_ ≠ ((.slice Ao61 t265.length co61) : Value).ownBlock) v326 t325) ∧ Aside0 (Below w.heap.size w w'))
                    case atStart => exact ⟨(0), (by first | rfl | (simp; done) | (simp [*]; done)), H', ⟨Nat.le_refl _⟩, ⟨by (with_reducible repeat (first | apply Kd.R_alloc | apply Kd.R_drewN | apply Kd.R_drew)); exact Kd.R_mono HO_12.out (fun _ hk => hk.2)⟩, ⟨by (with_reducible repeat (first | apply Kd.R_alloc | apply Kd.R_drewN | apply Kd.R_drew)); exact Kd.R_mono HO327.out (fun _ hk => hk.1.1.1.2)⟩, ⟨by repeat (first | (with_reducible first | exact HB.out | apply below_alloc | apply pw_below_drewN | apply below_drew1) | exact HB.out)⟩⟩
                    case round =>
                      clear H'
                      try clear c1
                      try clear c2
                      try clear p2
                      try clear c3
                      try clear p3
                      try clear q3
                      try clear hx3
                      try clear qi3
                      try clear c4
                      try clear c6
                      try clear p6
                      try clear c13
                      try clear c18
                      try clear c19
                      try clear c28
                      try clear c31
                      try clear p31
                      try clear q31
                      try clear hx31
                      try clear qi31
                      try clear p32
                      try clear q32
                      try clear hx32
                      try clear qi32
                      try clear c34
                      try clear c37
                      try clear c44
                      try clear c46
                      try clear c62
                      try clear c62b0
                      try clear c63
                      try clear c63b0
                      try clear c64
                      try clear c64b0
                      try clear c64b1
                      try clear p64
                      try clear c66
                      try clear c67
                      try clear c67b0
                      try clear c67b1
                      try clear c69
                      try clear c69b0
                      try clear c69b1
                      try clear hx314_0
                      try clear hx316_0
                      try clear hx321_0
                      try clear p2
                      try clear p314
                      try clear p316
                      try clear p321
                      try clear q314
                      try clear q316
                      try clear q321
                      obtain ⟨x19_4, rfl, HA, HK4, HO_12, HO_18, HB⟩ := hrel
                      cases gk with
                      | zero => exact absurd HA.out (by simp [signalboxlaw15_HoltOne.l1])
                      | succ k4 =>
                        have H := HA.out
                        clear HA
                        simp only [signalboxlaw15_HoltOne.l1] at H
                        by_cases c79 : x19_4 < (t325.length : Int)
                        · rw [if_pos c79] at H
                          have c79b0 : decide (x19_4 < (t325.length : Int)) = true := decide_eq_true c79
                          clear c79
                          by_cases c80 : 0 ≤ x19_4
                          case neg =>
                            rw [if_neg c80] at H
                            exact absurd H (by simp)
                          rw [if_pos c80] at H
                          have c80b0 : decide (0 ≤ x19_4) = true := decide_eq_true c80
                          clear c80
                          replace H := Option.bind_eq_some_iff.mp H
                          obtain ⟨t329, A810, H⟩ := H
                          replace H : (if t329 = true then (signalboxlaw15_HoltOne.l1 k4 t265 t325 (wrap64 (x19_4 + 1))) else (some false)) = some r := H
                          have A81 := Aside0.mk A810
                          clear A810
                          by_cases c82 : t329 = true
                          · subst c82
                            have H1 : (signalboxlaw15_HoltOne.l1 k4 t265 t325 (wrap64 (x19_4 + 1))) = some r := by rw [if_pos rfl] at H; exact H
                            clear H
                            have H := H1
                            clear H1
                            have H' := Aside0.mk H
                            clear H
                            obtain ⟨Ao83, co83, eo83⟩ := Kd.R_slice HO_18.out
                            subst eo83
                            have p328 : 0 ≤ (x19_4 : Int) := of_decide_eq_true (by first | (with_reducible assumption) | assumption)
                            have q328 : x19_4 < (t325.length : Int) := of_decide_eq_true (by first | (with_reducible assumption) | assumption)
                            obtain ⟨ad328, e328, hx328_0⟩ := Kd.at_int (Kd.R_reads' HO_18.out).2.2 x19_4 p328 q328
                            cases e328
                            replace p328 := eq_true p328
                            replace q328 := eq_true q328
                            go_wp2_with (first | ((with_reducible refine gate_callee (f := 19) rfl ?_); refine goesL_ (some 127) rfl rfl Try.func19 (by kernel_rfl) rfl #[.slice Ao61 t265.length co61, .int .i64 (rd t325 x19_4)] rfl (by (try simp only [List.map_toArray, List.map_cons, List.map_nil]); first | done | rfl | (simp only [List.length_drop, List.length_take]; rfl)) ?_; (with_reducible refine (signalboxref1_Has.calls k4 _ _ t265 (rd t325 x19_4) true _ ?side1 ?side2 A81.out).mono ?_); (case side1 => repeat (first | exact (Kd.R_reads' HO_12.out).2.2 | (with_reducible refine Kd.C_alloc ?_ _) | (with_reducible refine Kd.C_drewN ?_ _) | (with_reducible refine Kd.C_drew ?_))); (case side2 => exact (Kd.R_reads' HO_12.out).2.1); rintro e w' ⟨rfl, ⟨nd, rfl⟩⟩; refine ⟨_, rfl, ?_⟩))
                            go_roundg k4
                            case measure => have := HJ4.out; have := HJ12.out; have := HK3.out; have := HK4.out; omega
                            case rel => exact ⟨(wrap64 (x19_4 + 1)), (by first | rfl | (simp; done) | (simp [*]; done)), H', ⟨by have := HJ4.out; have := HJ12.out; have := HK3.out; have := HK4.out; omega⟩, ⟨by (with_reducible repeat (first | apply Kd.R_alloc | apply Kd.R_drewN | apply Kd.R_drew)); exact HO_12.out⟩, ⟨by (with_reducible repeat (first | apply Kd.R_alloc | apply Kd.R_drewN | apply Kd.R_drew)); exact HO_18.out⟩, ⟨by repeat (first | (with_reducible first | exact HB.out | apply below_alloc | apply pw_below_drewN | apply below_drew1) | exact HB.out)⟩⟩
                          · replace c82 := Bool.eq_false_iff.mpr c82
                            subst c82
                            have H1 : (some false) = some r := by rw [if_neg (show ¬ (false = true) by decide)] at H; exact H
                            clear H
                            have H := H1
                            clear H1
                            obtain rfl := Option.some.inj H
                            obtain ⟨Ao84, co84, eo84⟩ := Kd.R_slice HO_18.out
                            subst eo84
                            have p328 : 0 ≤ (x19_4 : Int) := of_decide_eq_true (by first | (with_reducible assumption) | assumption)
                            have q328 : x19_4 < (t325.length : Int) := of_decide_eq_true (by first | (with_reducible assumption) | assumption)
                            obtain ⟨ad328, e328, hx328_0⟩ := Kd.at_int (Kd.R_reads' HO_18.out).2.2 x19_4 p328 q328
                            cases e328
                            replace p328 := eq_true p328
                            replace q328 := eq_true q328
                            go_wp2_with (first | ((with_reducible refine gate_callee (f := 19) rfl ?_); refine goesL_ (some 127) rfl rfl Try.func19 (by kernel_rfl) rfl #[.slice Ao61 t265.length co61, .int .i64 (rd t325 x19_4)] rfl (by (try simp only [List.map_toArray, List.map_cons, List.map_nil]); first | done | rfl | (simp only [List.length_drop, List.length_take]; rfl)) ?_; (with_reducible refine (signalboxref1_Has.calls k4 _ _ t265 (rd t325 x19_4) false _ ?side1 ?side2 A81.out).mono ?_); (case side1 => repeat (first | exact (Kd.R_reads' HO_12.out).2.2 | (with_reducible refine Kd.C_alloc ?_ _) | (with_reducible refine Kd.C_drewN ?_ _) | (with_reducible refine Kd.C_drew ?_))); (case side2 => exact (Kd.R_reads' HO_12.out).2.1); rintro e w' ⟨rfl, ⟨nd, rfl⟩⟩; refine ⟨_, rfl, ?_⟩))
                            go_ret
                            exact ⟨by first | rfl | (simp [errW_none, errW_some] <;> rfl) | (simp [*, errW_none, errW_some] <;> rfl), by repeat (first | (with_reducible first | exact HB.out | apply below_alloc | apply pw_below_drewN | apply below_drew1) | exact HB.out)⟩
                        · rw [if_neg c79] at H
                          have c79b0 : decide (x19_4 < (t325.length : Int)) = false := decide_eq_false c79
                          clear c79
                          replace H := Option.bind_eq_some_iff.mp H
                          obtain ⟨t330, A850, H⟩ := H
                          replace H : (some t330) = some r := H
                          have A85 := Aside0.mk A850
                          clear A850
                          obtain rfl := Option.some.inj H
                          obtain ⟨Ao86, co86, eo86⟩ := Kd.R_slice HO_18.out
                          subst eo86
                          go_wp2_with (first | ((with_reducible refine gate_callee (f := 9) rfl ?_); refine goesL_ (some 129) rfl rfl Try.func9 (by kernel_rfl) rfl #[] rfl (by (try simp only [List.map_toArray, List.map_cons, List.map_nil]); first | done | rfl | (simp only [List.length_drop, List.length_take]; rfl)) ?_; (with_reducible refine (signalboxlaw15_awake.calls k4  t330 _ A85.out).mono ?_); rintro e w87 ⟨rfl, hb⟩; refine ⟨_, rfl, ?_⟩; have n0_ := Aside0.mk (Kd.R_below (by (with_reducible repeat (first | apply Kd.R_alloc | apply Kd.R_drewN | apply Kd.R_drew)); exact HO_12.out) hb); have n1_ := Aside0.mk (Kd.R_below (by (with_reducible repeat (first | apply Kd.R_alloc | apply Kd.R_drewN | apply Kd.R_drew)); exact HO_18.out) hb); have n2_ := Aside0.mk (below_step (by repeat (first | (with_reducible first | exact HB.out | apply below_alloc | apply pw_below_drewN | apply below_drew1) | exact HB.out)) hb); clear HO_12; clear HO_18; clear HB; have HO_12 := n0_; have HO_18 := n1_; have HB := n2_; clear n0_ n1_ n2_; (try clear hb); (try clear hb2); (try clear hk); (try clear hi)))
                          go_ret
                          exact ⟨by first | rfl | (simp [errW_none, errW_some] <;> rfl) | (simp [*, errW_none, errW_some] <;> rfl), by repeat (first | (with_reducible first | exact HB.out | apply below_alloc | apply pw_below_drewN | apply below_drew1) | exact HB.out)⟩

/-- THE ONE PURE STATEMENT of signalboxlaw15_HoltOne: yours. -/
def signalboxlaw15_HoltOne.Pure : Prop := ∀ (a0 : Int) (l1 : List Int) (a2 : Int) (a3 : Int), (Lit.int .i64 a0).wf = true → l1.length ≤ maxLen → l1.length * 8 ≤ 140737488351232 → (∀ x ∈ l1, (Lit.int .i64 x).wf = true) → (Lit.int .i64 a2).wf = true → (Lit.int .i64 a3).wf = true → ∃ k, signalboxlaw15_HoltOne.f k a0 l1 a2 a3 = some true
theorem signalboxlaw15_HoltOne.walk (P : signalboxlaw15_HoltOne.Pure) (a0 : Int) (a1 : Option Addr) (len1 cap1 : Nat) (z1 : List Int) (a2 : Int) (a3 : Int) (w : World) (w0 : (Lit.int .i64 a0).wf = true) (w1 : (a1 = none ∧ len1 = 0 ∧ cap1 = 0 ∧ z1 = []) ∨ ∃ x, a1 = some x ∧ len1 ≤ cap1 ∧ cap1 ≤ maxLen ∧ z1.length = cap1 ∧ (∀ i, i < z1.length → w.cell? (x.add i) = some (.int .i64 (z1.getD i 0))) ∧ ∀ n ∈ z1, (Lit.int .i64 n).wf = true) (y1 : len1 * 8 ≤ 140737488351232) (w2 : (Lit.int .i64 a2).wf = true) (w3 : (Lit.int .i64 a3).wf = true) :
    Calls Try.prog 7 #[.int .i64 a0, .slice a1 len1 cap1, .int .i64 a2, .int .i64 a3] w fun e w' => e = .returned (.bool true) ∧ Below w.heap.size w w' := by
  obtain ⟨l1, rfl, hr1, hm1, hw1, hc1⟩ := ReadsInt.ofRowC w1
  obtain ⟨k, h⟩ := P a0 l1 a2 a3 w0 hm1 y1 hw1 w2 w3
  refine (signalboxlaw15_HoltOne.calls k a0 _ _ l1 a2 a3 true w (Kd.C_of_reads (d := (0 : Int)) (h1 := fun _ => rfl) hr1) hc1 h).mono ?_
  rintro e w' ⟨rfl, hd⟩
  exact ⟨rfl, hd⟩

end Go.Proofs.Ytdbcmmckjlbffaa.PHoltO
