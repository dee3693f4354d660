-- Written by a program of this session (over the kit's printer): not typed by hand.
import Derived.Test.YtdgaklldijkoaaaPCodex0
namespace Go.Proofs.Ytdgaklldijkoaaa.PCode
open Go.RowKit Go.Proofs.YtdgaklldijkoaaaW.PrintWords Go.Proofs.YtdgaklldijkoaaaW.PrintLast Go.Proofs.YtdgaklldijkoaaaW.PrintMore
attribute [local go_sem] max2_int min2_int max_two min_two max_three min_three max_four min_four   -- for this text's walks alone
set_option linter.unusedVariables false
set_option linter.unusedSimpArgs false

/-! ### signalboxref1_May: function 13 -/
mutual
def signalboxref1_May.j0 : Nat → Bool → List (S44) → List (S46) → List (S56) → Int → List Int → List Int → List (List Int) → List (S65) → Int → Option (Bool)
  | 0, _, _, _, _, _, _, _, _, _, _ => none
  | k + 1, x49, x142000, x142001, x142002, x142003, x142004, x142005, x142006, x142007, x142008 => if x49 = true then (some false) else (signalboxref1_May.l0 k 0 x142000 x142001 x142002 x142003 x142004 x142005 x142006 x142007 x142008)
def signalboxref1_May.l0 : Nat → Int → List (S44) → List (S46) → List (S56) → Int → List Int → List Int → List (List Int) → List (S65) → Int → Option (Bool)
  | 0, _, _, _, _, _, _, _, _, _, _ => none
  | k + 1, x3, x142000, x142001, x142002, x142003, x142004, x142005, x142006, x142007, x142008 => if x3 < (x142006.length : Int) then (if 0 ≤ x3 then (if ((rd_L1 x142006 x3).length : Int) = (x142005.length : Int) then (signalboxref1_May.l0 k (wrap64 (x3 + 1)) x142000 x142001 x142002 x142003 x142004 x142005 x142006 x142007 x142008) else (some false)) else (none)) else (some true)
end
def signalboxref1_May.f (k : Nat) (l0_0 : List (S44)) (l0_1 : List (S46)) (l0_2 : List (S56)) (a0_3 : Int) (l0_4 : List Int) (l0_5 : List Int) (l0_6 : List (List Int)) (l0_7 : List (S65)) (a0_8 : Int) : Option (Bool) := if (l0_0.length : Int) > 5000 then (signalboxref1_May.j0 k true l0_0 l0_1 l0_2 a0_3 l0_4 l0_5 l0_6 l0_7 a0_8) else (if (l0_1.length : Int) < 1 then (signalboxref1_May.j0 k true l0_0 l0_1 l0_2 a0_3 l0_4 l0_5 l0_6 l0_7 a0_8) else (if (l0_1.length : Int) > 13 then (signalboxref1_May.j0 k true l0_0 l0_1 l0_2 a0_3 l0_4 l0_5 l0_6 l0_7 a0_8) else (if (l0_2.length : Int) > 16 then (signalboxref1_May.j0 k true l0_0 l0_1 l0_2 a0_3 l0_4 l0_5 l0_6 l0_7 a0_8) else (if (l0_4.length : Int) > 8 then (signalboxref1_May.j0 k true l0_0 l0_1 l0_2 a0_3 l0_4 l0_5 l0_6 l0_7 a0_8) else (if (l0_5.length : Int) > 6 then (signalboxref1_May.j0 k true l0_0 l0_1 l0_2 a0_3 l0_4 l0_5 l0_6 l0_7 a0_8) else (if (l0_6.length : Int) > 1000 then (signalboxref1_May.j0 k true l0_0 l0_1 l0_2 a0_3 l0_4 l0_5 l0_6 l0_7 a0_8) else (signalboxref1_May.j0 k (decide ((l0_7.length : Int) > 1000)) l0_0 l0_1 l0_2 a0_3 l0_4 l0_5 l0_6 l0_7 a0_8)))))))
theorem signalboxref1_May.mono_l : ∀ k, (∀ y0 y1 y2 y3 y4 y5 y6 y7 y8 y9, LeO (signalboxref1_May.j0 k y0 y1 y2 y3 y4 y5 y6 y7 y8 y9) (signalboxref1_May.j0 (k + 1) y0 y1 y2 y3 y4 y5 y6 y7 y8 y9)) ∧ (∀ y0 y1 y2 y3 y4 y5 y6 y7 y8 y9, LeO (signalboxref1_May.l0 k y0 y1 y2 y3 y4 y5 y6 y7 y8 y9) (signalboxref1_May.l0 (k + 1) y0 y1 y2 y3 y4 y5 y6 y7 y8 y9))
  | 0 => ⟨fun _ _ _ _ _ _ _ _ _ _ r h => by simp [signalboxref1_May.j0] at h, fun _ _ _ _ _ _ _ _ _ _ r h => by simp [signalboxref1_May.l0] at h⟩
  | k + 1 => by
    obtain ⟨ih0, ih1⟩ := signalboxref1_May.mono_l k
    refine ⟨?_, ?_⟩
    · intro y0 y1 y2 y3 y4 y5 y6 y7 y8 y9
      unfold signalboxref1_May.j0
      repeat' first
      | (with_reducible exact ih0 _ _ _ _ _ _ _ _ _ _)
      | (with_reducible exact ih1 _ _ _ _ _ _ _ _ _ _)
      | (with_reducible exact LeO.refl _)
      | (with_reducible exact LeO.none _)
      | (with_reducible refine LeO.ite ?_ ?_)
      | (with_reducible refine LeO.bind ?_ (fun _ => ?_))
      | exact ih0 _ _ _ _ _ _ _ _ _ _
      | exact ih1 _ _ _ _ _ _ _ _ _ _
      | exact LeO.none _
      | refine LeO.ite ?_ ?_
      | refine LeO.bind ?_ (fun _ => ?_)
    · intro y0 y1 y2 y3 y4 y5 y6 y7 y8 y9
      unfold signalboxref1_May.l0
      repeat' first
      | (with_reducible exact ih0 _ _ _ _ _ _ _ _ _ _)
      | (with_reducible exact ih1 _ _ _ _ _ _ _ _ _ _)
      | (with_reducible exact LeO.refl _)
      | (with_reducible exact LeO.none _)
      | (with_reducible refine LeO.ite ?_ ?_)
      | (with_reducible refine LeO.bind ?_ (fun _ => ?_))
      | exact ih0 _ _ _ _ _ _ _ _ _ _
      | exact ih1 _ _ _ _ _ _ _ _ _ _
      | exact LeO.none _
      | refine LeO.ite ?_ ?_
      | refine LeO.bind ?_ (fun _ => ?_)
theorem signalboxref1_May.mono : ∀ a0 a1 a2 a3 a4 a5 a6 a7 a8 k, LeO (signalboxref1_May.f k a0 a1 a2 a3 a4 a5 a6 a7 a8) (signalboxref1_May.f (k + 1) a0 a1 a2 a3 a4 a5 a6 a7 a8) := by
  intro a0 a1 a2 a3 a4 a5 a6 a7 a8 k
  obtain ⟨ih0, ih1⟩ := signalboxref1_May.mono_l k
  unfold signalboxref1_May.f
  repeat' first
      | (with_reducible exact ih0 _ _ _ _ _ _ _ _ _ _)
      | (with_reducible exact ih1 _ _ _ _ _ _ _ _ _ _)
      | (with_reducible exact LeO.refl _)
      | (with_reducible exact LeO.none _)
      | (with_reducible refine LeO.ite ?_ ?_)
      | (with_reducible refine LeO.bind ?_ (fun _ => ?_))
      | exact ih0 _ _ _ _ _ _ _ _ _ _
      | exact ih1 _ _ _ _ _ _ _ _ _ _
      | exact LeO.none _
      | refine LeO.ite ?_ ?_
      | refine LeO.bind ?_ (fun _ => ?_)
set_option maxHeartbeats 8000000 in
set_option maxRecDepth 100000 in
theorem signalboxref1_May.calls (k : Nat) (A0_0 : Option Addr) (c0_0 : Nat) (l0_0 : List (S44)) (A0_1 : Option Addr) (c0_1 : Nat) (l0_1 : List (S46)) (A0_2 : Option Addr) (c0_2 : Nat) (l0_2 : List (S56)) (a0_3 : Int) (A0_4 : Option Addr) (c0_4 : Nat) (l0_4 : List Int) (A0_5 : Option Addr) (c0_5 : Nat) (l0_5 : List Int) (A0_6 : Option Addr) (c0_6 : Nat) (l0_6 : List (List Int)) (A0_7 : Option Addr) (c0_7 : Nat) (l0_7 : List (S65)) (a0_8 : Int) (r : Bool) (w : World) (hr0_0 : Kd.C k44 w A0_0 l0_0.length l0_0) (hc0_0 : l0_0.length ≤ c0_0) (hr0_1 : Kd.C k46 w A0_1 l0_1.length l0_1) (hc0_1 : l0_1.length ≤ c0_1) (hr0_2 : Kd.C k56 w A0_2 l0_2.length l0_2) (hc0_2 : l0_2.length ≤ c0_2) (hr0_4 : Kd.C (Kd.int .i64) w A0_4 l0_4.length l0_4) (hc0_4 : l0_4.length ≤ c0_4) (hr0_5 : Kd.C (Kd.int .i64) w A0_5 l0_5.length l0_5) (hc0_5 : l0_5.length ≤ c0_5) (hr0_6 : Kd.C (Kd.slice 3 (Kd.int .i64)) w A0_6 l0_6.length l0_6) (hc0_6 : l0_6.length ≤ c0_6) (hr0_7 : Kd.C k65 w A0_7 l0_7.length l0_7) (hc0_7 : l0_7.length ≤ c0_7) (h : signalboxref1_May.f k l0_0 l0_1 l0_2 a0_3 l0_4 l0_5 l0_6 l0_7 a0_8 = some r) :
    Calls Try.prog 13 #[.agg #[.slice A0_0 l0_0.length c0_0, .slice A0_1 l0_1.length c0_1, .slice A0_2 l0_2.length c0_2, .int .i64 a0_3, .slice A0_4 l0_4.length c0_4, .slice A0_5 l0_5.length c0_5, .slice A0_6 l0_6.length c0_6, .slice A0_7 l0_7.length c0_7, .int .i64 a0_8]] w fun e w' => e = .returned (.bool r) ∧ Below w.heap.size w w' := by
  have hu29 := Try.underlying29
  have HR0_0 := Aside0.mk hr0_0
  have HC0_0 := Aside0.mk hc0_0
  clear hr0_0 hc0_0
  have HR0_1 := Aside0.mk hr0_1
  have HC0_1 := Aside0.mk hc0_1
  clear hr0_1 hc0_1
  have HR0_2 := Aside0.mk hr0_2
  have HC0_2 := Aside0.mk hc0_2
  clear hr0_2 hc0_2
  have HR0_4 := Aside0.mk hr0_4
  have HC0_4 := Aside0.mk hc0_4
  clear hr0_4 hc0_4
  have HR0_5 := Aside0.mk hr0_5
  have HC0_5 := Aside0.mk hc0_5
  clear hr0_5 hc0_5
  have HR0_6 := Aside0.mk hr0_6
  have HC0_6 := Aside0.mk hc0_6
  clear hr0_6 hc0_6
  have HR0_7 := Aside0.mk hr0_7
  have HC0_7 := Aside0.mk hc0_7
  clear hr0_7 hc0_7
  have HB := Aside0.mk (Below.refl w.heap.size w)
  have H : (if (l0_0.length : Int) > 5000 then (signalboxref1_May.j0 k true l0_0 l0_1 l0_2 a0_3 l0_4 l0_5 l0_6 l0_7 a0_8) else (if (l0_1.length : Int) < 1 then (signalboxref1_May.j0 k true l0_0 l0_1 l0_2 a0_3 l0_4 l0_5 l0_6 l0_7 a0_8) else (if (l0_1.length : Int) > 13 then (signalboxref1_May.j0 k true l0_0 l0_1 l0_2 a0_3 l0_4 l0_5 l0_6 l0_7 a0_8) else (if (l0_2.length : Int) > 16 then (signalboxref1_May.j0 k true l0_0 l0_1 l0_2 a0_3 l0_4 l0_5 l0_6 l0_7 a0_8) else (if (l0_4.length : Int) > 8 then (signalboxref1_May.j0 k true l0_0 l0_1 l0_2 a0_3 l0_4 l0_5 l0_6 l0_7 a0_8) else (if (l0_5.length : Int) > 6 then (signalboxref1_May.j0 k true l0_0 l0_1 l0_2 a0_3 l0_4 l0_5 l0_6 l0_7 a0_8) else (if (l0_6.length : Int) > 1000 then (signalboxref1_May.j0 k true l0_0 l0_1 l0_2 a0_3 l0_4 l0_5 l0_6 l0_7 a0_8) else (signalboxref1_May.j0 k (decide ((l0_7.length : Int) > 1000)) l0_0 l0_1 l0_2 a0_3 l0_4 l0_5 l0_6 l0_7 a0_8)))))))) = some r := h
  clear h
  have HC2 := Aside0.mk H
  clear H
  go_enter Try.func13, Try.ntmps13
  go_upto_region 1 with (first | ((with_reducible refine gate_dst (N := 1) rfl ?_); (try (refine gate_guard (by rfl) ?_; dsimp only)); refine box_event ?hg (N := 1) ?hd (cs := #[.slice A0_0 l0_0.length c0_0, .slice A0_1 l0_1.length c0_1, .slice A0_2 l0_2.length c0_2, .int .i64 a0_3, .slice A0_4 l0_4.length c0_4, .slice A0_5 l0_5.length c0_5, .slice A0_6 l0_6.length c0_6, .slice A0_7 l0_7.length c0_7, .int .i64 a0_8]) (t := 29) ?hr ?_; (case hd => rfl); (case hg => rfl); (case hr => first | (go_simp; done) | (go_simp; rfl)); intro gb141 hg w3 hbox hb; have n0_ := Aside0.mk (below_step (by repeat (first | (with_reducible first | exact HB.out | apply below_alloc | apply pw_below_drewN | apply below_drew1) | exact HB.out)) hb); have n1_ := Aside0.mk (hbox); have n2_ := Aside0.mk ((by rw [hg]; exact (below_size (by repeat (first | (with_reducible first | exact HB.out | apply below_alloc | apply pw_below_drewN | apply below_drew1) | exact HB.out))) : w.heap.size ≤ gb141)); have n3_ := Aside0.mk ((by rw [hg]; exact (below_size (by repeat (first | (with_reducible first | exact HB.out | apply below_alloc | apply pw_below_drewN | apply below_drew1) | exact HB.out))) : w.heap.size ≤ gb141)); clear HB; have HB := n0_; have BK141 := n1_; have GW141 := n2_; have GE141 := n3_; clear n0_ n1_ n2_ n3_; clear hb hbox hg))
  repeat (go_quiet (first | ((with_reducible refine gate_dst (N := 1) rfl ?_); (try (refine gate_guard (by rfl) ?_; dsimp only)); refine box_event ?hg (N := 1) ?hd (cs := #[.slice A0_0 l0_0.length c0_0, .slice A0_1 l0_1.length c0_1, .slice A0_2 l0_2.length c0_2, .int .i64 a0_3, .slice A0_4 l0_4.length c0_4, .slice A0_5 l0_5.length c0_5, .slice A0_6 l0_6.length c0_6, .slice A0_7 l0_7.length c0_7, .int .i64 a0_8]) (t := 29) ?hr ?_; (case hd => rfl); (case hg => rfl); (case hr => first | (go_simp; done) | (go_simp; rfl)); intro gb141 hg w3 hbox hb; have n0_ := Aside0.mk (below_step (by repeat (first | (with_reducible first | exact HB.out | apply below_alloc | apply pw_below_drewN | apply below_drew1) | exact HB.out)) hb); have n1_ := Aside0.mk (hbox); have n2_ := Aside0.mk ((by rw [hg]; exact (below_size (by repeat (first | (with_reducible first | exact HB.out | apply below_alloc | apply pw_below_drewN | apply below_drew1) | exact HB.out))) : w.heap.size ≤ gb141)); have n3_ := Aside0.mk ((by rw [hg]; exact (below_size (by repeat (first | (with_reducible first | exact HB.out | apply below_alloc | apply pw_below_drewN | apply below_drew1) | exact HB.out))) : w.heap.size ≤ gb141)); clear HB; have HB := n0_; have BK141 := n1_; have GW141 := n2_; have GE141 := n3_; clear n0_ n1_ n2_ n3_; clear hb hbox hg)); go_upto_region 1 with (first | ((with_reducible refine gate_dst (N := 1) rfl ?_); (try (refine gate_guard (by rfl) ?_; dsimp only)); refine box_event ?hg (N := 1) ?hd (cs := #[.slice A0_0 l0_0.length c0_0, .slice A0_1 l0_1.length c0_1, .slice A0_2 l0_2.length c0_2, .int .i64 a0_3, .slice A0_4 l0_4.length c0_4, .slice A0_5 l0_5.length c0_5, .slice A0_6 l0_6.length c0_6, .slice A0_7 l0_7.length c0_7, .int .i64 a0_8]) (t := 29) ?hr ?_; (case hd => rfl); (case hg => rfl); (case hr => first | (go_simp; done) | (go_simp; rfl)); intro gb141 hg w3 hbox hb; have n0_ := Aside0.mk (below_step (by repeat (first | (with_reducible first | exact HB.out | apply below_alloc | apply pw_below_drewN | apply below_drew1) | exact HB.out)) hb); have n1_ := Aside0.mk (hbox); have n2_ := Aside0.mk ((by rw [hg]; exact (below_size (by repeat (first | (with_reducible first | exact HB.out | apply below_alloc | apply pw_below_drewN | apply below_drew1) | exact HB.out))) : w.heap.size ≤ gb141)); have n3_ := Aside0.mk ((by rw [hg]; exact (below_size (by repeat (first | (with_reducible first | exact HB.out | apply below_alloc | apply pw_below_drewN | apply below_drew1) | exact HB.out))) : w.heap.size ≤ gb141)); clear HB; have HB := n0_; have BK141 := n1_; have GW141 := n2_; have GE141 := n3_; clear n0_ n1_ n2_ n3_; clear hb hbox hg)))
  (try simp only [Act.put, List.setIfInBounds_toArray, List.set_cons_zero, List.set_cons_succ])
  go_cut [49] (fun v49 wc => ∃ (kq : Nat) (x49_1 : Bool), v49 = .bool x49_1 ∧ Aside0 (signalboxref1_May.j0 kq x49_1 l0_0 l0_1 l0_2 a0_3 l0_4 l0_5 l0_6 l0_7 a0_8 = some r) ∧ Aside0 (kq ≤ k) ∧ Aside0 (wc.heap[gb141]? = some (.cells #[(.slice A0_0 l0_0.length c0_0), (.slice A0_1 l0_1.length c0_1), (.slice A0_2 l0_2.length c0_2), .int .i64 a0_3, (.slice A0_4 l0_4.length c0_4), (.slice A0_5 l0_5.length c0_5), (.slice A0_6 l0_6.length c0_6), (.slice A0_7 l0_7.length c0_7), .int .i64 a0_8] 29 (0, 0))) ∧ Aside0 (Below w.heap.size w wc))
  case first =>
    have H := HC2.out
    clear HC2
    by_cases c4 : (l0_0.length : Int) > 5000
    · rw [if_pos c4] at H
      have c4b0 : decide (5000 < (l0_0.length : Int)) = true := decide_eq_true c4
      have c4b1 : decide (5000 < l0_0.length) = true := decide_eq_true (by omega)
      clear c4
      (first | rw [c4b0] | (simp only [i64_w, i32_w]; rw [c4b0]) | skip)
      have H' := Aside0.mk H
      clear H
      have hcz5_0 : w3.cell? ⟨gb141, 0, none⟩ = some (.slice A0_0 l0_0.length c0_0) := (blk_cell BK141.out 0).trans rfl
      have hcz5_1 : w3.cell? ⟨gb141, 1, none⟩ = some (.slice A0_1 l0_1.length c0_1) := (blk_cell BK141.out 1).trans rfl
      have hcz5_2 : w3.cell? ⟨gb141, 2, none⟩ = some (.slice A0_2 l0_2.length c0_2) := (blk_cell BK141.out 2).trans rfl
      have hcz5_3 : w3.cell? ⟨gb141, 3, none⟩ = some (.int .i64 a0_3) := (blk_cell BK141.out 3).trans rfl
      have hcz5_4 : w3.cell? ⟨gb141, 4, none⟩ = some (.slice A0_4 l0_4.length c0_4) := (blk_cell BK141.out 4).trans rfl
      have hcz5_5 : w3.cell? ⟨gb141, 5, none⟩ = some (.slice A0_5 l0_5.length c0_5) := (blk_cell BK141.out 5).trans rfl
      have hcz5_6 : w3.cell? ⟨gb141, 6, none⟩ = some (.slice A0_6 l0_6.length c0_6) := (blk_cell BK141.out 6).trans rfl
      have hcz5_7 : w3.cell? ⟨gb141, 7, none⟩ = some (.slice A0_7 l0_7.length c0_7) := (blk_cell BK141.out 7).trans rfl
      have hcz5_8 : w3.cell? ⟨gb141, 8, none⟩ = some (.int .i64 a0_8) := (blk_cell BK141.out 8).trans rfl
      have hfz5_0 := blk_frozen BK141.out 0
      have hfz5_1 := blk_frozen BK141.out 1
      have hfz5_2 := blk_frozen BK141.out 2
      have hfz5_3 := blk_frozen BK141.out 3
      have hfz5_4 := blk_frozen BK141.out 4
      have hfz5_5 := blk_frozen BK141.out 5
      have hfz5_6 := blk_frozen BK141.out 6
      have hfz5_7 := blk_frozen BK141.out 7
      have hfz5_8 := blk_frozen BK141.out 8
      go_wp2
      repeat (go_quiet (fail); try go_wp2)
      go_meet
      case rel => exact ⟨_, (true), (by first | rfl | (simp; done) | (simp [*]; done)), H', ⟨by first | omega | exact Nat.le_refl _⟩, ⟨by (with_reducible repeat (first | refine blk_drewN ?_ _ | refine blk_drew ?_ | refine blk_alloc ?_ _)); exact BK141.out⟩, ⟨by repeat (first | (with_reducible first | exact HB.out | apply below_alloc | apply pw_below_drewN | apply below_drew1 | refine below_set ?_ GE141.out) | exact HB.out)⟩⟩
    · rw [if_neg c4] at H
      have c4b0 : decide (5000 < (l0_0.length : Int)) = false := decide_eq_false c4
      have c4b1 : decide (5000 < l0_0.length) = false := decide_eq_false (by omega)
      clear c4
      (first | rw [c4b0] | (simp only [i64_w, i32_w]; rw [c4b0]) | skip)
      by_cases c6 : (l0_1.length : Int) < 1
      · rw [if_pos c6] at H
        have c6b0 : decide ((l0_1.length : Int) < 1) = true := decide_eq_true c6
        have c6b1 : decide (l0_1.length < 1) = true := decide_eq_true (by omega)
        clear c6
        have H' := Aside0.mk H
        clear H
        have hcz7_0 : w3.cell? ⟨gb141, 0, none⟩ = some (.slice A0_0 l0_0.length c0_0) := (blk_cell BK141.out 0).trans rfl
        have hcz7_1 : w3.cell? ⟨gb141, 1, none⟩ = some (.slice A0_1 l0_1.length c0_1) := (blk_cell BK141.out 1).trans rfl
        have hcz7_2 : w3.cell? ⟨gb141, 2, none⟩ = some (.slice A0_2 l0_2.length c0_2) := (blk_cell BK141.out 2).trans rfl
        have hcz7_3 : w3.cell? ⟨gb141, 3, none⟩ = some (.int .i64 a0_3) := (blk_cell BK141.out 3).trans rfl
        have hcz7_4 : w3.cell? ⟨gb141, 4, none⟩ = some (.slice A0_4 l0_4.length c0_4) := (blk_cell BK141.out 4).trans rfl
        have hcz7_5 : w3.cell? ⟨gb141, 5, none⟩ = some (.slice A0_5 l0_5.length c0_5) := (blk_cell BK141.out 5).trans rfl
        have hcz7_6 : w3.cell? ⟨gb141, 6, none⟩ = some (.slice A0_6 l0_6.length c0_6) := (blk_cell BK141.out 6).trans rfl
        have hcz7_7 : w3.cell? ⟨gb141, 7, none⟩ = some (.slice A0_7 l0_7.length c0_7) := (blk_cell BK141.out 7).trans rfl
        have hcz7_8 : w3.cell? ⟨gb141, 8, none⟩ = some (.int .i64 a0_8) := (blk_cell BK141.out 8).trans rfl
        have hfz7_0 := blk_frozen BK141.out 0
        have hfz7_1 := blk_frozen BK141.out 1
        have hfz7_2 := blk_frozen BK141.out 2
        have hfz7_3 := blk_frozen BK141.out 3
        have hfz7_4 := blk_frozen BK141.out 4
        have hfz7_5 := blk_frozen BK141.out 5
        have hfz7_6 := blk_frozen BK141.out 6
        have hfz7_7 := blk_frozen BK141.out 7
        have hfz7_8 := blk_frozen BK141.out 8
        go_wp2
        repeat (go_quiet (fail); try go_wp2)
        go_meet
        case rel => exact ⟨_, (true), (by first | rfl | (simp; done) | (simp [*]; done)), H', ⟨by first | omega | exact Nat.le_refl _⟩, ⟨by (with_reducible repeat (first | refine blk_drewN ?_ _ | refine blk_drew ?_ | refine blk_alloc ?_ _)); exact BK141.out⟩, ⟨by repeat (first | (with_reducible first | exact HB.out | apply below_alloc | apply pw_below_drewN | apply below_drew1 | refine below_set ?_ GE141.out) | exact HB.out)⟩⟩
      · rw [if_neg c6] at H
        have c6b0 : decide ((l0_1.length : Int) < 1) = false := decide_eq_false c6
        have c6b1 : decide (l0_1.length < 1) = false := decide_eq_false (by omega)
        clear c6
        by_cases c8 : (l0_1.length : Int) > 13
        · rw [if_pos c8] at H
          have c8b0 : decide (13 < (l0_1.length : Int)) = true := decide_eq_true c8
          have c8b1 : decide (13 < l0_1.length) = true := decide_eq_true (by omega)
          clear c8
          have H' := Aside0.mk H
          clear H
          have hcz9_0 : w3.cell? ⟨gb141, 0, none⟩ = some (.slice A0_0 l0_0.length c0_0) := (blk_cell BK141.out 0).trans rfl
          have hcz9_1 : w3.cell? ⟨gb141, 1, none⟩ = some (.slice A0_1 l0_1.length c0_1) := (blk_cell BK141.out 1).trans rfl
          have hcz9_2 : w3.cell? ⟨gb141, 2, none⟩ = some (.slice A0_2 l0_2.length c0_2) := (blk_cell BK141.out 2).trans rfl
          have hcz9_3 : w3.cell? ⟨gb141, 3, none⟩ = some (.int .i64 a0_3) := (blk_cell BK141.out 3).trans rfl
          have hcz9_4 : w3.cell? ⟨gb141, 4, none⟩ = some (.slice A0_4 l0_4.length c0_4) := (blk_cell BK141.out 4).trans rfl
          have hcz9_5 : w3.cell? ⟨gb141, 5, none⟩ = some (.slice A0_5 l0_5.length c0_5) := (blk_cell BK141.out 5).trans rfl
          have hcz9_6 : w3.cell? ⟨gb141, 6, none⟩ = some (.slice A0_6 l0_6.length c0_6) := (blk_cell BK141.out 6).trans rfl
          have hcz9_7 : w3.cell? ⟨gb141, 7, none⟩ = some (.slice A0_7 l0_7.length c0_7) := (blk_cell BK141.out 7).trans rfl
          have hcz9_8 : w3.cell? ⟨gb141, 8, none⟩ = some (.int .i64 a0_8) := (blk_cell BK141.out 8).trans rfl
          have hfz9_0 := blk_frozen BK141.out 0
          have hfz9_1 := blk_frozen BK141.out 1
          have hfz9_2 := blk_frozen BK141.out 2
          have hfz9_3 := blk_frozen BK141.out 3
          have hfz9_4 := blk_frozen BK141.out 4
          have hfz9_5 := blk_frozen BK141.out 5
          have hfz9_6 := blk_frozen BK141.out 6
          have hfz9_7 := blk_frozen BK141.out 7
          have hfz9_8 := blk_frozen BK141.out 8
          go_wp2
          repeat (go_quiet (fail); try go_wp2)
          go_meet
          case rel => exact ⟨_, (true), (by first | rfl | (simp; done) | (simp [*]; done)), H', ⟨by first | omega | exact Nat.le_refl _⟩, ⟨by (with_reducible repeat (first | refine blk_drewN ?_ _ | refine blk_drew ?_ | refine blk_alloc ?_ _)); exact BK141.out⟩, ⟨by repeat (first | (with_reducible first | exact HB.out | apply below_alloc | apply pw_below_drewN | apply below_drew1 | refine below_set ?_ GE141.out) | exact HB.out)⟩⟩
        · rw [if_neg c8] at H
          have c8b0 : decide (13 < (l0_1.length : Int)) = false := decide_eq_false c8
          have c8b1 : decide (13 < l0_1.length) = false := decide_eq_false (by omega)
          clear c8
          by_cases c10 : (l0_2.length : Int) > 16
          · rw [if_pos c10] at H
            have c10b0 : decide (16 < (l0_2.length : Int)) = true := decide_eq_true c10
            have c10b1 : decide (16 < l0_2.length) = true := decide_eq_true (by omega)
            clear c10
            have H' := Aside0.mk H
            clear H
            have hcz11_0 : w3.cell? ⟨gb141, 0, none⟩ = some (.slice A0_0 l0_0.length c0_0) := (blk_cell BK141.out 0).trans rfl
            have hcz11_1 : w3.cell? ⟨gb141, 1, none⟩ = some (.slice A0_1 l0_1.length c0_1) := (blk_cell BK141.out 1).trans rfl
            have hcz11_2 : w3.cell? ⟨gb141, 2, none⟩ = some (.slice A0_2 l0_2.length c0_2) := (blk_cell BK141.out 2).trans rfl
            have hcz11_3 : w3.cell? ⟨gb141, 3, none⟩ = some (.int .i64 a0_3) := (blk_cell BK141.out 3).trans rfl
            have hcz11_4 : w3.cell? ⟨gb141, 4, none⟩ = some (.slice A0_4 l0_4.length c0_4) := (blk_cell BK141.out 4).trans rfl
            have hcz11_5 : w3.cell? ⟨gb141, 5, none⟩ = some (.slice A0_5 l0_5.length c0_5) := (blk_cell BK141.out 5).trans rfl
            have hcz11_6 : w3.cell? ⟨gb141, 6, none⟩ = some (.slice A0_6 l0_6.length c0_6) := (blk_cell BK141.out 6).trans rfl
            have hcz11_7 : w3.cell? ⟨gb141, 7, none⟩ = some (.slice A0_7 l0_7.length c0_7) := (blk_cell BK141.out 7).trans rfl
            have hcz11_8 : w3.cell? ⟨gb141, 8, none⟩ = some (.int .i64 a0_8) := (blk_cell BK141.out 8).trans rfl
            have hfz11_0 := blk_frozen BK141.out 0
            have hfz11_1 := blk_frozen BK141.out 1
            have hfz11_2 := blk_frozen BK141.out 2
            have hfz11_3 := blk_frozen BK141.out 3
            have hfz11_4 := blk_frozen BK141.out 4
            have hfz11_5 := blk_frozen BK141.out 5
            have hfz11_6 := blk_frozen BK141.out 6
            have hfz11_7 := blk_frozen BK141.out 7
            have hfz11_8 := blk_frozen BK141.out 8
            go_wp2
            repeat (go_quiet (fail); try go_wp2)
            go_meet
            case rel => exact ⟨_, (true), (by first | rfl | (simp; done) | (simp [*]; done)), H', ⟨by first | omega | exact Nat.le_refl _⟩, ⟨by (with_reducible repeat (first | refine blk_drewN ?_ _ | refine blk_drew ?_ | refine blk_alloc ?_ _)); exact BK141.out⟩, ⟨by repeat (first | (with_reducible first | exact HB.out | apply below_alloc | apply pw_below_drewN | apply below_drew1 | refine below_set ?_ GE141.out) | exact HB.out)⟩⟩
          · rw [if_neg c10] at H
            have c10b0 : decide (16 < (l0_2.length : Int)) = false := decide_eq_false c10
            have c10b1 : decide (16 < l0_2.length) = false := decide_eq_false (by omega)
            clear c10
            by_cases c12 : (l0_4.length : Int) > 8
            · rw [if_pos c12] at H
              have c12b0 : decide (8 < (l0_4.length : Int)) = true := decide_eq_true c12
              have c12b1 : decide (8 < l0_4.length) = true := decide_eq_true (by omega)
              clear c12
              have H' := Aside0.mk H
              clear H
              have hcz13_0 : w3.cell? ⟨gb141, 0, none⟩ = some (.slice A0_0 l0_0.length c0_0) := (blk_cell BK141.out 0).trans rfl
              have hcz13_1 : w3.cell? ⟨gb141, 1, none⟩ = some (.slice A0_1 l0_1.length c0_1) := (blk_cell BK141.out 1).trans rfl
              have hcz13_2 : w3.cell? ⟨gb141, 2, none⟩ = some (.slice A0_2 l0_2.length c0_2) := (blk_cell BK141.out 2).trans rfl
              have hcz13_3 : w3.cell? ⟨gb141, 3, none⟩ = some (.int .i64 a0_3) := (blk_cell BK141.out 3).trans rfl
              have hcz13_4 : w3.cell? ⟨gb141, 4, none⟩ = some (.slice A0_4 l0_4.length c0_4) := (blk_cell BK141.out 4).trans rfl
              have hcz13_5 : w3.cell? ⟨gb141, 5, none⟩ = some (.slice A0_5 l0_5.length c0_5) := (blk_cell BK141.out 5).trans rfl
              have hcz13_6 : w3.cell? ⟨gb141, 6, none⟩ = some (.slice A0_6 l0_6.length c0_6) := (blk_cell BK141.out 6).trans rfl
              have hcz13_7 : w3.cell? ⟨gb141, 7, none⟩ = some (.slice A0_7 l0_7.length c0_7) := (blk_cell BK141.out 7).trans rfl
              have hcz13_8 : w3.cell? ⟨gb141, 8, none⟩ = some (.int .i64 a0_8) := (blk_cell BK141.out 8).trans rfl
              have hfz13_0 := blk_frozen BK141.out 0
              have hfz13_1 := blk_frozen BK141.out 1
              have hfz13_2 := blk_frozen BK141.out 2
              have hfz13_3 := blk_frozen BK141.out 3
              have hfz13_4 := blk_frozen BK141.out 4
              have hfz13_5 := blk_frozen BK141.out 5
              have hfz13_6 := blk_frozen BK141.out 6
              have hfz13_7 := blk_frozen BK141.out 7
              have hfz13_8 := blk_frozen BK141.out 8
              go_wp2
              repeat (go_quiet (fail); try go_wp2)
              go_meet
              case rel => exact ⟨_, (true), (by first | rfl | (simp; done) | (simp [*]; done)), H', ⟨by first | omega | exact Nat.le_refl _⟩, ⟨by (with_reducible repeat (first | refine blk_drewN ?_ _ | refine blk_drew ?_ | refine blk_alloc ?_ _)); exact BK141.out⟩, ⟨by repeat (first | (with_reducible first | exact HB.out | apply below_alloc | apply pw_below_drewN | apply below_drew1 | refine below_set ?_ GE141.out) | exact HB.out)⟩⟩
            · rw [if_neg c12] at H
              have c12b0 : decide (8 < (l0_4.length : Int)) = false := decide_eq_false c12
              have c12b1 : decide (8 < l0_4.length) = false := decide_eq_false (by omega)
              clear c12
              by_cases c14 : (l0_5.length : Int) > 6
              · rw [if_pos c14] at H
                have c14b0 : decide (6 < (l0_5.length : Int)) = true := decide_eq_true c14
                have c14b1 : decide (6 < l0_5.length) = true := decide_eq_true (by omega)
                clear c14
                have H' := Aside0.mk H
                clear H
                have hcz15_0 : w3.cell? ⟨gb141, 0, none⟩ = some (.slice A0_0 l0_0.length c0_0) := (blk_cell BK141.out 0).trans rfl
                have hcz15_1 : w3.cell? ⟨gb141, 1, none⟩ = some (.slice A0_1 l0_1.length c0_1) := (blk_cell BK141.out 1).trans rfl
                have hcz15_2 : w3.cell? ⟨gb141, 2, none⟩ = some (.slice A0_2 l0_2.length c0_2) := (blk_cell BK141.out 2).trans rfl
                have hcz15_3 : w3.cell? ⟨gb141, 3, none⟩ = some (.int .i64 a0_3) := (blk_cell BK141.out 3).trans rfl
                have hcz15_4 : w3.cell? ⟨gb141, 4, none⟩ = some (.slice A0_4 l0_4.length c0_4) := (blk_cell BK141.out 4).trans rfl
                have hcz15_5 : w3.cell? ⟨gb141, 5, none⟩ = some (.slice A0_5 l0_5.length c0_5) := (blk_cell BK141.out 5).trans rfl
                have hcz15_6 : w3.cell? ⟨gb141, 6, none⟩ = some (.slice A0_6 l0_6.length c0_6) := (blk_cell BK141.out 6).trans rfl
                have hcz15_7 : w3.cell? ⟨gb141, 7, none⟩ = some (.slice A0_7 l0_7.length c0_7) := (blk_cell BK141.out 7).trans rfl
                have hcz15_8 : w3.cell? ⟨gb141, 8, none⟩ = some (.int .i64 a0_8) := (blk_cell BK141.out 8).trans rfl
                have hfz15_0 := blk_frozen BK141.out 0
                have hfz15_1 := blk_frozen BK141.out 1
                have hfz15_2 := blk_frozen BK141.out 2
                have hfz15_3 := blk_frozen BK141.out 3
                have hfz15_4 := blk_frozen BK141.out 4
                have hfz15_5 := blk_frozen BK141.out 5
                have hfz15_6 := blk_frozen BK141.out 6
                have hfz15_7 := blk_frozen BK141.out 7
                have hfz15_8 := blk_frozen BK141.out 8
                go_wp2
                repeat (go_quiet (fail); try go_wp2)
                go_meet
                case rel => exact ⟨_, (true), (by first | rfl | (simp; done) | (simp [*]; done)), H', ⟨by first | omega | exact Nat.le_refl _⟩, ⟨by (with_reducible repeat (first | refine blk_drewN ?_ _ | refine blk_drew ?_ | refine blk_alloc ?_ _)); exact BK141.out⟩, ⟨by repeat (first | (with_reducible first | exact HB.out | apply below_alloc | apply pw_below_drewN | apply below_drew1 | refine below_set ?_ GE141.out) | exact HB.out)⟩⟩
              · rw [if_neg c14] at H
                have c14b0 : decide (6 < (l0_5.length : Int)) = false := decide_eq_false c14
                have c14b1 : decide (6 < l0_5.length) = false := decide_eq_false (by omega)
                clear c14
                by_cases c16 : (l0_6.length : Int) > 1000
                · rw [if_pos c16] at H
                  have c16b0 : decide (1000 < (l0_6.length : Int)) = true := decide_eq_true c16
                  have c16b1 : decide (1000 < l0_6.length) = true := decide_eq_true (by omega)
                  clear c16
                  have H' := Aside0.mk H
                  clear H
                  have hcz17_0 : w3.cell? ⟨gb141, 0, none⟩ = some (.slice A0_0 l0_0.length c0_0) := (blk_cell BK141.out 0).trans rfl
                  have hcz17_1 : w3.cell? ⟨gb141, 1, none⟩ = some (.slice A0_1 l0_1.length c0_1) := (blk_cell BK141.out 1).trans rfl
                  have hcz17_2 : w3.cell? ⟨gb141, 2, none⟩ = some (.slice A0_2 l0_2.length c0_2) := (blk_cell BK141.out 2).trans rfl
                  have hcz17_3 : w3.cell? ⟨gb141, 3, none⟩ = some (.int .i64 a0_3) := (blk_cell BK141.out 3).trans rfl
                  have hcz17_4 : w3.cell? ⟨gb141, 4, none⟩ = some (.slice A0_4 l0_4.length c0_4) := (blk_cell BK141.out 4).trans rfl
                  have hcz17_5 : w3.cell? ⟨gb141, 5, none⟩ = some (.slice A0_5 l0_5.length c0_5) := (blk_cell BK141.out 5).trans rfl
                  have hcz17_6 : w3.cell? ⟨gb141, 6, none⟩ = some (.slice A0_6 l0_6.length c0_6) := (blk_cell BK141.out 6).trans rfl
                  have hcz17_7 : w3.cell? ⟨gb141, 7, none⟩ = some (.slice A0_7 l0_7.length c0_7) := (blk_cell BK141.out 7).trans rfl
                  have hcz17_8 : w3.cell? ⟨gb141, 8, none⟩ = some (.int .i64 a0_8) := (blk_cell BK141.out 8).trans rfl
                  have hfz17_0 := blk_frozen BK141.out 0
                  have hfz17_1 := blk_frozen BK141.out 1
                  have hfz17_2 := blk_frozen BK141.out 2
                  have hfz17_3 := blk_frozen BK141.out 3
                  have hfz17_4 := blk_frozen BK141.out 4
                  have hfz17_5 := blk_frozen BK141.out 5
                  have hfz17_6 := blk_frozen BK141.out 6
                  have hfz17_7 := blk_frozen BK141.out 7
                  have hfz17_8 := blk_frozen BK141.out 8
                  go_wp2
                  repeat (go_quiet (fail); try go_wp2)
                  go_meet
                  case rel => exact ⟨_, (true), (by first | rfl | (simp; done) | (simp [*]; done)), H', ⟨by first | omega | exact Nat.le_refl _⟩, ⟨by (with_reducible repeat (first | refine blk_drewN ?_ _ | refine blk_drew ?_ | refine blk_alloc ?_ _)); exact BK141.out⟩, ⟨by repeat (first | (with_reducible first | exact HB.out | apply below_alloc | apply pw_below_drewN | apply below_drew1 | refine below_set ?_ GE141.out) | exact HB.out)⟩⟩
                · rw [if_neg c16] at H
                  have c16b0 : decide (1000 < (l0_6.length : Int)) = false := decide_eq_false c16
                  have c16b1 : decide (1000 < l0_6.length) = false := decide_eq_false (by omega)
                  clear c16
                  have H' := Aside0.mk H
                  clear H
                  have hcz18_0 : w3.cell? ⟨gb141, 0, none⟩ = some (.slice A0_0 l0_0.length c0_0) := (blk_cell BK141.out 0).trans rfl
                  have hcz18_1 : w3.cell? ⟨gb141, 1, none⟩ = some (.slice A0_1 l0_1.length c0_1) := (blk_cell BK141.out 1).trans rfl
                  have hcz18_2 : w3.cell? ⟨gb141, 2, none⟩ = some (.slice A0_2 l0_2.length c0_2) := (blk_cell BK141.out 2).trans rfl
                  have hcz18_3 : w3.cell? ⟨gb141, 3, none⟩ = some (.int .i64 a0_3) := (blk_cell BK141.out 3).trans rfl
                  have hcz18_4 : w3.cell? ⟨gb141, 4, none⟩ = some (.slice A0_4 l0_4.length c0_4) := (blk_cell BK141.out 4).trans rfl
                  have hcz18_5 : w3.cell? ⟨gb141, 5, none⟩ = some (.slice A0_5 l0_5.length c0_5) := (blk_cell BK141.out 5).trans rfl
                  have hcz18_6 : w3.cell? ⟨gb141, 6, none⟩ = some (.slice A0_6 l0_6.length c0_6) := (blk_cell BK141.out 6).trans rfl
                  have hcz18_7 : w3.cell? ⟨gb141, 7, none⟩ = some (.slice A0_7 l0_7.length c0_7) := (blk_cell BK141.out 7).trans rfl
                  have hcz18_8 : w3.cell? ⟨gb141, 8, none⟩ = some (.int .i64 a0_8) := (blk_cell BK141.out 8).trans rfl
                  have hfz18_0 := blk_frozen BK141.out 0
                  have hfz18_1 := blk_frozen BK141.out 1
                  have hfz18_2 := blk_frozen BK141.out 2
                  have hfz18_3 := blk_frozen BK141.out 3
                  have hfz18_4 := blk_frozen BK141.out 4
                  have hfz18_5 := blk_frozen BK141.out 5
                  have hfz18_6 := blk_frozen BK141.out 6
                  have hfz18_7 := blk_frozen BK141.out 7
                  have hfz18_8 := blk_frozen BK141.out 8
                  go_wp2
                  repeat (go_quiet (fail); try go_wp2)
                  go_meet
                  case rel => exact ⟨_, (decide ((l0_7.length : Int) > 1000)), (by first | rfl | (simp; done) | (simp [*]; done)), H', ⟨by first | omega | exact Nat.le_refl _⟩, ⟨by (with_reducible repeat (first | refine blk_drewN ?_ _ | refine blk_drew ?_ | refine blk_alloc ?_ _)); exact BK141.out⟩, ⟨by repeat (first | (with_reducible first | exact HB.out | apply below_alloc | apply pw_below_drewN | apply below_drew1 | refine below_set ?_ GE141.out) | exact HB.out)⟩⟩
  case rest =>
    clear HC2
    try clear c1
    try clear p2
    try clear c4
    try clear c4b0
    try clear c4b1
    try clear c6
    try clear c6b0
    try clear c6b1
    try clear c8
    try clear c8b0
    try clear c8b1
    try clear c10
    try clear c10b0
    try clear c10b1
    try clear c12
    try clear c12b0
    try clear c12b1
    try clear c13
    try clear c14
    try clear c14b0
    try clear c14b1
    try clear c16
    try clear c16b0
    try clear c16b1
    try clear hcz11_0
    try clear hcz11_1
    try clear hcz11_2
    try clear hcz11_3
    try clear hcz11_4
    try clear hcz11_5
    try clear hcz11_6
    try clear hcz11_7
    try clear hcz11_8
    try clear hcz13_0
    try clear hcz13_1
    try clear hcz13_2
    try clear hcz13_3
    try clear hcz13_4
    try clear hcz13_5
    try clear hcz13_6
    try clear hcz13_7
    try clear hcz13_8
    try clear hcz15_0
    try clear hcz15_1
    try clear hcz15_2
    try clear hcz15_3
    try clear hcz15_4
    try clear hcz15_5
    try clear hcz15_6
    try clear hcz15_7
    try clear hcz15_8
    try clear hcz17_0
    try clear hcz17_1
    try clear hcz17_2
    try clear hcz17_3
    try clear hcz17_4
    try clear hcz17_5
    try clear hcz17_6
    try clear hcz17_7
    try clear hcz17_8
    try clear hcz18_0
    try clear hcz18_1
    try clear hcz18_2
    try clear hcz18_3
    try clear hcz18_4
    try clear hcz18_5
    try clear hcz18_6
    try clear hcz18_7
    try clear hcz18_8
    try clear hcz5_0
    try clear hcz5_1
    try clear hcz5_2
    try clear hcz5_3
    try clear hcz5_4
    try clear hcz5_5
    try clear hcz5_6
    try clear hcz5_7
    try clear hcz5_8
    try clear hcz7_0
    try clear hcz7_1
    try clear hcz7_2
    try clear hcz7_3
    try clear hcz7_4
    try clear hcz7_5
    try clear hcz7_6
    try clear hcz7_7
    try clear hcz7_8
    try clear hcz9_0
    try clear hcz9_1
    try clear hcz9_2
    try clear hcz9_3
    try clear hcz9_4
    try clear hcz9_5
    try clear hcz9_6
    try clear hcz9_7
    try clear hcz9_8
    try clear hfz11_0
    try clear hfz11_1
    try clear hfz11_2
    try clear hfz11_3
    try clear hfz11_4
    try clear hfz11_5
    try clear hfz11_6
    try clear hfz11_7
    try clear hfz11_8
    try clear hfz13_0
    try clear hfz13_1
    try clear hfz13_2
    try clear hfz13_3
    try clear hfz13_4
    try clear hfz13_5
    try clear hfz13_6
    try clear hfz13_7
    try clear hfz13_8
    try clear hfz15_0
    try clear hfz15_1
    try clear hfz15_2
    try clear hfz15_3
    try clear hfz15_4
    try clear hfz15_5
    try clear hfz15_6
    try clear hfz15_7
    try clear hfz15_8
    try clear hfz17_0
    try clear hfz17_1
    try clear hfz17_2
    try clear hfz17_3
    try clear hfz17_4
    try clear hfz17_5
    try clear hfz17_6
    try clear hfz17_7
    try clear hfz17_8
    try clear hfz18_0
    try clear hfz18_1
    try clear hfz18_2
    try clear hfz18_3
    try clear hfz18_4
    try clear hfz18_5
    try clear hfz18_6
    try clear hfz18_7
    try clear hfz18_8
    try clear hfz5_0
    try clear hfz5_1
    try clear hfz5_2
    try clear hfz5_3
    try clear hfz5_4
    try clear hfz5_5
    try clear hfz5_6
    try clear hfz5_7
    try clear hfz5_8
    try clear hfz7_0
    try clear hfz7_1
    try clear hfz7_2
    try clear hfz7_3
    try clear hfz7_4
    try clear hfz7_5
    try clear hfz7_6
    try clear hfz7_7
    try clear hfz7_8
    try clear hfz9_0
    try clear hfz9_1
    try clear hfz9_2
    try clear hfz9_3
    try clear hfz9_4
    try clear hfz9_5
    try clear hfz9_6
    try clear hfz9_7
    try clear hfz9_8
    obtain ⟨kq, x49_1, rfl, HA, HJ1, BK141, HB⟩ := hcut
    cases kq with
    | zero => exact absurd HA.out (by simp [signalboxref1_May.j0])
    | succ kj1 =>
      have H := HA.out
      clear HA
      simp only [signalboxref1_May.j0] at H
      by_cases c19 : x49_1 = true
      · subst c19
        have H1 : (some false) = some r := by rw [if_pos rfl] at H; exact H
        clear H
        have H := H1
        clear H1
        obtain rfl := Option.some.inj H
        go_wp2
        repeat (go_quiet (fail); try go_wp2)
        go_ret
        exact ⟨by first | rfl | (simp [errW_none, errW_some] <;> rfl) | (simp [*, errW_none, errW_some] <;> rfl), by repeat (first | (with_reducible first | exact HB.out | apply below_alloc | apply pw_below_drewN | apply below_drew1 | refine below_set ?_ GE141.out) | exact HB.out)⟩
      · replace c19 := Bool.eq_false_iff.mpr c19
        subst c19
        have H1 : (signalboxref1_May.l0 kj1 0 l0_0 l0_1 l0_2 a0_3 l0_4 l0_5 l0_6 l0_7 a0_8) = some r := by rw [if_neg (show ¬ (false = true) by decide)] at H; exact H
        clear H
        have H := H1
        clear H1
        have H' := Aside0.mk H
        clear H
        go_wp2
        repeat (go_quiet (fail); try go_wp2)
        go_loopg [3] kj1 (fun kq v3 w' => ∃ (x3_2 : Int), v3 = .int .i64 x3_2 ∧ Aside0 (signalboxref1_May.l0 kq x3_2 l0_0 l0_1 l0_2 a0_3 l0_4 l0_5 l0_6 l0_7 a0_8 = some r) ∧ Aside0 (kq ≤ kj1) ∧ Aside0 (w'.heap[gb141]? = some (.cells #[(.slice A0_0 l0_0.length c0_0), (.slice A0_1 l0_1.length c0_1), (.slice A0_2 l0_2.length c0_2), .int .i64 a0_3, (.slice A0_4 l0_4.length c0_4), (.slice A0_5 l0_5.length c0_5), (.slice A0_6 l0_6.length c0_6), (.slice A0_7 l0_7.length c0_7), .int .i64 a0_8] 29 (0, 0))) ∧ Aside0 (Below w.heap.size w w'))
        case atStart => exact ⟨(0), (by first | rfl | (simp; done) | (simp [*]; done)), H', ⟨Nat.le_refl _⟩, ⟨by (with_reducible repeat (first | refine blk_drewN ?_ _ | refine blk_drew ?_ | refine blk_alloc ?_ _)); exact BK141.out⟩, ⟨by repeat (first | (with_reducible first | exact HB.out | apply below_alloc | apply pw_below_drewN | apply below_drew1 | refine below_set ?_ GE141.out) | exact HB.out)⟩⟩
        case round =>
          clear H'
          try clear c1
          try clear p2
          try clear c4
          try clear c4b0
          try clear c4b1
          try clear c6
          try clear c6b0
          try clear c6b1
          try clear c8
          try clear c8b0
          try clear c8b1
          try clear c10
          try clear c10b0
          try clear c10b1
          try clear c12
          try clear c12b0
          try clear c12b1
          try clear c13
          try clear c14
          try clear c14b0
          try clear c14b1
          try clear c16
          try clear c16b0
          try clear c16b1
          try clear c19
          try clear hcz11_0
          try clear hcz11_1
          try clear hcz11_2
          try clear hcz11_3
          try clear hcz11_4
          try clear hcz11_5
          try clear hcz11_6
          try clear hcz11_7
          try clear hcz11_8
          try clear hcz13_0
          try clear hcz13_1
          try clear hcz13_2
          try clear hcz13_3
          try clear hcz13_4
          try clear hcz13_5
          try clear hcz13_6
          try clear hcz13_7
          try clear hcz13_8
          try clear hcz15_0
          try clear hcz15_1
          try clear hcz15_2
          try clear hcz15_3
          try clear hcz15_4
          try clear hcz15_5
          try clear hcz15_6
          try clear hcz15_7
          try clear hcz15_8
          try clear hcz17_0
          try clear hcz17_1
          try clear hcz17_2
          try clear hcz17_3
          try clear hcz17_4
          try clear hcz17_5
          try clear hcz17_6
          try clear hcz17_7
          try clear hcz17_8
          try clear hcz18_0
          try clear hcz18_1
          try clear hcz18_2
          try clear hcz18_3
          try clear hcz18_4
          try clear hcz18_5
          try clear hcz18_6
          try clear hcz18_7
          try clear hcz18_8
          try clear hcz5_0
          try clear hcz5_1
          try clear hcz5_2
          try clear hcz5_3
          try clear hcz5_4
          try clear hcz5_5
          try clear hcz5_6
          try clear hcz5_7
          try clear hcz5_8
          try clear hcz7_0
          try clear hcz7_1
          try clear hcz7_2
          try clear hcz7_3
          try clear hcz7_4
          try clear hcz7_5
          try clear hcz7_6
          try clear hcz7_7
          try clear hcz7_8
          try clear hcz9_0
          try clear hcz9_1
          try clear hcz9_2
          try clear hcz9_3
          try clear hcz9_4
          try clear hcz9_5
          try clear hcz9_6
          try clear hcz9_7
          try clear hcz9_8
          try clear hfz11_0
          try clear hfz11_1
          try clear hfz11_2
          try clear hfz11_3
          try clear hfz11_4
          try clear hfz11_5
          try clear hfz11_6
          try clear hfz11_7
          try clear hfz11_8
          try clear hfz13_0
          try clear hfz13_1
          try clear hfz13_2
          try clear hfz13_3
          try clear hfz13_4
          try clear hfz13_5
          try clear hfz13_6
          try clear hfz13_7
          try clear hfz13_8
          try clear hfz15_0
          try clear hfz15_1
          try clear hfz15_2
          try clear hfz15_3
          try clear hfz15_4
          try clear hfz15_5
          try clear hfz15_6
          try clear hfz15_7
          try clear hfz15_8
          try clear hfz17_0
          try clear hfz17_1
          try clear hfz17_2
          try clear hfz17_3
          try clear hfz17_4
          try clear hfz17_5
          try clear hfz17_6
          try clear hfz17_7
          try clear hfz17_8
          try clear hfz18_0
          try clear hfz18_1
          try clear hfz18_2
          try clear hfz18_3
          try clear hfz18_4
          try clear hfz18_5
          try clear hfz18_6
          try clear hfz18_7
          try clear hfz18_8
          try clear hfz5_0
          try clear hfz5_1
          try clear hfz5_2
          try clear hfz5_3
          try clear hfz5_4
          try clear hfz5_5
          try clear hfz5_6
          try clear hfz5_7
          try clear hfz5_8
          try clear hfz7_0
          try clear hfz7_1
          try clear hfz7_2
          try clear hfz7_3
          try clear hfz7_4
          try clear hfz7_5
          try clear hfz7_6
          try clear hfz7_7
          try clear hfz7_8
          try clear hfz9_0
          try clear hfz9_1
          try clear hfz9_2
          try clear hfz9_3
          try clear hfz9_4
          try clear hfz9_5
          try clear hfz9_6
          try clear hfz9_7
          try clear hfz9_8
          try clear p2
          obtain ⟨x3_2, rfl, HA, HK2, BK141, HB⟩ := hrel
          cases gk with
          | zero => exact absurd HA.out (by simp [signalboxref1_May.l0])
          | succ k2 =>
            have H := HA.out
            clear HA
            simp only [signalboxref1_May.l0] at H
            by_cases c20 : x3_2 < (l0_6.length : Int)
            · rw [if_pos c20] at H
              have c20b0 : decide (x3_2 < (l0_6.length : Int)) = true := decide_eq_true c20
              clear c20
              by_cases c21 : 0 ≤ x3_2
              · rw [if_pos c21] at H
                have c21b0 : decide (0 ≤ x3_2) = true := decide_eq_true c21
                clear c21
                by_cases c22 : ((rd_L1 l0_6 x3_2).length : Int) = (l0_5.length : Int)
                · rw [if_pos c22] at H
                  have c22b0 : (((rd_L1 l0_6 x3_2).length : Int) == (l0_5.length : Int)) = true := beq_iff_eq.mpr c22
                  have c22b1 : (((rd_L1 l0_6 x3_2).length : Int) != (l0_5.length : Int)) = false := bne_eq_false_iff_eq.mpr c22
                  have c22b2 : ((rd_L1 l0_6 x3_2).length == l0_5.length) = true := by first | simpa using c22 | (simp at c22 ⊢; omega)
                  clear c22
                  have H' := Aside0.mk H
                  clear H
                  have hcz23_0 : wr.cell? ⟨gb141, 0, none⟩ = some (.slice A0_0 l0_0.length c0_0) := (blk_cell BK141.out 0).trans rfl
                  have hcz23_1 : wr.cell? ⟨gb141, 1, none⟩ = some (.slice A0_1 l0_1.length c0_1) := (blk_cell BK141.out 1).trans rfl
                  have hcz23_2 : wr.cell? ⟨gb141, 2, none⟩ = some (.slice A0_2 l0_2.length c0_2) := (blk_cell BK141.out 2).trans rfl
                  have hcz23_3 : wr.cell? ⟨gb141, 3, none⟩ = some (.int .i64 a0_3) := (blk_cell BK141.out 3).trans rfl
                  have hcz23_4 : wr.cell? ⟨gb141, 4, none⟩ = some (.slice A0_4 l0_4.length c0_4) := (blk_cell BK141.out 4).trans rfl
                  have hcz23_5 : wr.cell? ⟨gb141, 5, none⟩ = some (.slice A0_5 l0_5.length c0_5) := (blk_cell BK141.out 5).trans rfl
                  have hcz23_6 : wr.cell? ⟨gb141, 6, none⟩ = some (.slice A0_6 l0_6.length c0_6) := (blk_cell BK141.out 6).trans rfl
                  have hcz23_7 : wr.cell? ⟨gb141, 7, none⟩ = some (.slice A0_7 l0_7.length c0_7) := (blk_cell BK141.out 7).trans rfl
                  have hcz23_8 : wr.cell? ⟨gb141, 8, none⟩ = some (.int .i64 a0_8) := (blk_cell BK141.out 8).trans rfl
                  have hfz23_0 := blk_frozen BK141.out 0
                  have hfz23_1 := blk_frozen BK141.out 1
                  have hfz23_2 := blk_frozen BK141.out 2
                  have hfz23_3 := blk_frozen BK141.out 3
                  have hfz23_4 := blk_frozen BK141.out 4
                  have hfz23_5 := blk_frozen BK141.out 5
                  have hfz23_6 := blk_frozen BK141.out 6
                  have hfz23_7 := blk_frozen BK141.out 7
                  have hfz23_8 := blk_frozen BK141.out 8
                  have p142 : 0 ≤ (x3_2 : Int) := of_decide_eq_true (by first | (with_reducible assumption) | assumption)
                  have q142 : x3_2 < (l0_6.length : Int) := of_decide_eq_true (by first | (with_reducible assumption) | assumption)
                  obtain ⟨ad142, A142_0, c142_0, e142, hx142_0, hl142_0, hi142_0⟩ := at_L1 HR0_6.out x3_2 p142 q142
                  cases e142
                  replace hx142_0 := (HB.out.cell (World.block_lt_of_cell? w _ hx142_0)).trans hx142_0
                  have HR142_0 := Aside0.mk hi142_0
                  have HC142_0 := Aside0.mk hl142_0
                  clear hi142_0 hl142_0
                  replace p142 := eq_true p142
                  replace q142 := eq_true q142
                  go_wp2
                  repeat (go_quiet (fail); try go_wp2)
                  go_roundg k2
                  case measure => have := HJ1.out; have := HK2.out; omega
                  case rel => exact ⟨(wrap64 (x3_2 + 1)), (by first | rfl | (simp; done) | (simp [*]; done)), H', ⟨by have := HJ1.out; have := HK2.out; omega⟩, ⟨by (with_reducible repeat (first | refine blk_drewN ?_ _ | refine blk_drew ?_ | refine blk_alloc ?_ _)); exact BK141.out⟩, ⟨by repeat (first | (with_reducible first | exact HB.out | apply below_alloc | apply pw_below_drewN | apply below_drew1 | refine below_set ?_ GE141.out) | exact HB.out)⟩⟩
                · rw [if_neg c22] at H
                  have c22b0 : (((rd_L1 l0_6 x3_2).length : Int) == (l0_5.length : Int)) = false := beq_eq_false_iff_ne.mpr c22
                  have c22b1 : (((rd_L1 l0_6 x3_2).length : Int) != (l0_5.length : Int)) = true := bne_iff_ne.mpr c22
                  have c22b2 : ((rd_L1 l0_6 x3_2).length == l0_5.length) = false := by first | simpa using c22 | (simp at c22 ⊢; omega)
                  obtain rfl := Option.some.inj H
                  have hcz24_0 : wr.cell? ⟨gb141, 0, none⟩ = some (.slice A0_0 l0_0.length c0_0) := (blk_cell BK141.out 0).trans rfl
                  have hcz24_1 : wr.cell? ⟨gb141, 1, none⟩ = some (.slice A0_1 l0_1.length c0_1) := (blk_cell BK141.out 1).trans rfl
                  have hcz24_2 : wr.cell? ⟨gb141, 2, none⟩ = some (.slice A0_2 l0_2.length c0_2) := (blk_cell BK141.out 2).trans rfl
                  have hcz24_3 : wr.cell? ⟨gb141, 3, none⟩ = some (.int .i64 a0_3) := (blk_cell BK141.out 3).trans rfl
                  have hcz24_4 : wr.cell? ⟨gb141, 4, none⟩ = some (.slice A0_4 l0_4.length c0_4) := (blk_cell BK141.out 4).trans rfl
                  have hcz24_5 : wr.cell? ⟨gb141, 5, none⟩ = some (.slice A0_5 l0_5.length c0_5) := (blk_cell BK141.out 5).trans rfl
                  have hcz24_6 : wr.cell? ⟨gb141, 6, none⟩ = some (.slice A0_6 l0_6.length c0_6) := (blk_cell BK141.out 6).trans rfl
                  have hcz24_7 : wr.cell? ⟨gb141, 7, none⟩ = some (.slice A0_7 l0_7.length c0_7) := (blk_cell BK141.out 7).trans rfl
                  have hcz24_8 : wr.cell? ⟨gb141, 8, none⟩ = some (.int .i64 a0_8) := (blk_cell BK141.out 8).trans rfl
                  have hfz24_0 := blk_frozen BK141.out 0
                  have hfz24_1 := blk_frozen BK141.out 1
                  have hfz24_2 := blk_frozen BK141.out 2
                  have hfz24_3 := blk_frozen BK141.out 3
                  have hfz24_4 := blk_frozen BK141.out 4
                  have hfz24_5 := blk_frozen BK141.out 5
                  have hfz24_6 := blk_frozen BK141.out 6
                  have hfz24_7 := blk_frozen BK141.out 7
                  have hfz24_8 := blk_frozen BK141.out 8
                  have p142 : 0 ≤ (x3_2 : Int) := of_decide_eq_true (by first | (with_reducible assumption) | assumption)
                  have q142 : x3_2 < (l0_6.length : Int) := of_decide_eq_true (by first | (with_reducible assumption) | assumption)
                  obtain ⟨ad142, A142_0, c142_0, e142, hx142_0, hl142_0, hi142_0⟩ := at_L1 HR0_6.out x3_2 p142 q142
                  cases e142
                  replace hx142_0 := (HB.out.cell (World.block_lt_of_cell? w _ hx142_0)).trans hx142_0
                  have HR142_0 := Aside0.mk hi142_0
                  have HC142_0 := Aside0.mk hl142_0
                  clear hi142_0 hl142_0
                  replace p142 := eq_true p142
                  replace q142 := eq_true q142
                  go_wp2
                  repeat (go_quiet (fail); try go_wp2)
                  go_ret
                  exact ⟨by first | rfl | (simp [errW_none, errW_some] <;> rfl) | (simp [*, errW_none, errW_some] <;> rfl), by repeat (first | (with_reducible first | exact HB.out | apply below_alloc | apply pw_below_drewN | apply below_drew1 | refine below_set ?_ GE141.out) | exact HB.out)⟩
              · rw [if_neg c21] at H
                exact absurd H (by simp)
            · rw [if_neg c20] at H
              have c20b0 : decide (x3_2 < (l0_6.length : Int)) = false := decide_eq_false c20
              clear c20
              obtain rfl := Option.some.inj H
              have hcz25_0 : wr.cell? ⟨gb141, 0, none⟩ = some (.slice A0_0 l0_0.length c0_0) := (blk_cell BK141.out 0).trans rfl
              have hcz25_1 : wr.cell? ⟨gb141, 1, none⟩ = some (.slice A0_1 l0_1.length c0_1) := (blk_cell BK141.out 1).trans rfl
              have hcz25_2 : wr.cell? ⟨gb141, 2, none⟩ = some (.slice A0_2 l0_2.length c0_2) := (blk_cell BK141.out 2).trans rfl
              have hcz25_3 : wr.cell? ⟨gb141, 3, none⟩ = some (.int .i64 a0_3) := (blk_cell BK141.out 3).trans rfl
              have hcz25_4 : wr.cell? ⟨gb141, 4, none⟩ = some (.slice A0_4 l0_4.length c0_4) := (blk_cell BK141.out 4).trans rfl
              have hcz25_5 : wr.cell? ⟨gb141, 5, none⟩ = some (.slice A0_5 l0_5.length c0_5) := (blk_cell BK141.out 5).trans rfl
              have hcz25_6 : wr.cell? ⟨gb141, 6, none⟩ = some (.slice A0_6 l0_6.length c0_6) := (blk_cell BK141.out 6).trans rfl
              have hcz25_7 : wr.cell? ⟨gb141, 7, none⟩ = some (.slice A0_7 l0_7.length c0_7) := (blk_cell BK141.out 7).trans rfl
              have hcz25_8 : wr.cell? ⟨gb141, 8, none⟩ = some (.int .i64 a0_8) := (blk_cell BK141.out 8).trans rfl
              have hfz25_0 := blk_frozen BK141.out 0
              have hfz25_1 := blk_frozen BK141.out 1
              have hfz25_2 := blk_frozen BK141.out 2
              have hfz25_3 := blk_frozen BK141.out 3
              have hfz25_4 := blk_frozen BK141.out 4
              have hfz25_5 := blk_frozen BK141.out 5
              have hfz25_6 := blk_frozen BK141.out 6
              have hfz25_7 := blk_frozen BK141.out 7
              have hfz25_8 := blk_frozen BK141.out 8
              go_wp2
              repeat (go_quiet (fail); try go_wp2)
              go_ret
              exact ⟨by first | rfl | (simp [errW_none, errW_some] <;> rfl) | (simp [*, errW_none, errW_some] <;> rfl), by repeat (first | (with_reducible first | exact HB.out | apply below_alloc | apply pw_below_drewN | apply below_drew1 | refine below_set ?_ GE141.out) | exact HB.out)⟩

end Go.Proofs.Ytdgaklldijkoaaa.PCode
