import Derived.Test.YtdgaklldijkoaaaPCodex0
import Derived.Test.YtdgaklldijkoaaaCodeB
import Derived.BigQuiet
import Derived.IntWalk
import Derived.WalkMore
import Derived.Laws.EntriesVeiled
import Derived.StillTailTactics
namespace Go.Proofs.Ytdgaklldijkoaaa.PCode
open Go.RowKit Go.Proofs.YtdgaklldijkoaaaW.PrintWords Go.Proofs.YtdgaklldijkoaaaW.PrintLast Go.Proofs.YtdgaklldijkoaaaW.PrintMore
attribute [local go_sem] max2_int min2_int max_two min_two max_three min_three max_four min_four
set_option linter.unusedVariables false
set_option linter.unusedSimpArgs false
set_option maxHeartbeats 8000000 in
set_option maxRecDepth 100000 in
theorem may_any {w : World} {v : Value} {p : Pg} (h : PR w v p) : Calls Try.prog 12 #[v] w fun e w' => e = .returned (.bool p.may) ∧ Below w.heap.size w w' := by
  obtain ⟨A0, c0, A1, c1, A2, c2, A4, c4, A5, c5, A6, c6, A7, c7, rfl, hx⟩ := h
  have HG := Aside0.mk hx.g.2
  have HB := Aside0.mk (Below.refl w.heap.size w)
  clear hx
  by_cases h0 : p.a.length ≤ 5000
  rotate_left
  · have HM : Aside0 (p.may = false) := ⟨by simp [Pg.may, h0]⟩
    have q0_0 : decide ((p.a.length : Int) ≤ 5000) = false := decide_eq_false (by omega)
    have q0_1 : decide (p.a.length ≤ 5000) = false := decide_eq_false (by omega)
    clear h0
    go_enter Try.func12, Try.ntmps12
    go_wp2_with (first | ((with_reducible refine gate_dst (N := 1) rfl ?_); refine box_event ?hg (N := 1) ?hd (cs := (pv A0 c0 A1 c1 A2 c2 A4 c4 A5 c5 A6 c6 A7 c7 p)) (t := 29) ?hr ?_; (case hd => rfl); (case hg => rfl); (case hr => first | (go_simp; done) | (go_simp; rfl)); intro g1 hg w1 hbox hb; have n0_ := Aside0.mk (below_step HB.out hb); have n1_ := Aside0.mk (hbox); clear HB; have HB := n0_; have BP := n1_; clear n0_ n1_; have hcp0 : w1.cell? ⟨g1, 0, none⟩ = some (.slice A0 p.a.length c0) := (blk_cell hbox 0).trans rfl; have hcp1 : w1.cell? ⟨g1, 1, none⟩ = some (.slice A1 p.b.length c1) := (blk_cell hbox 1).trans rfl; have hcp2 : w1.cell? ⟨g1, 2, none⟩ = some (.slice A2 p.c.length c2) := (blk_cell hbox 2).trans rfl; have hcp3 : w1.cell? ⟨g1, 3, none⟩ = some (.int .i64 p.d) := (blk_cell hbox 3).trans rfl; have hcp4 : w1.cell? ⟨g1, 4, none⟩ = some (.slice A4 p.e.length c4) := (blk_cell hbox 4).trans rfl; have hcp5 : w1.cell? ⟨g1, 5, none⟩ = some (.slice A5 p.f.length c5) := (blk_cell hbox 5).trans rfl; have hcp6 : w1.cell? ⟨g1, 6, none⟩ = some (.slice A6 p.g.length c6) := (blk_cell hbox 6).trans rfl; have hcp7 : w1.cell? ⟨g1, 7, none⟩ = some (.slice A7 p.h.length c7) := (blk_cell hbox 7).trans rfl; clear hg hbox hb))
    go_ret
    exact ⟨by rw [HM.out]; rfl, HB.out⟩
  by_cases h1 : 1 ≤ p.b.length
  rotate_left
  · have HM : Aside0 (p.may = false) := ⟨by simp [Pg.may, h1]⟩
    have q0_0 : decide ((p.a.length : Int) ≤ 5000) = true := decide_eq_true (by omega)
    have q0_1 : decide (p.a.length ≤ 5000) = true := decide_eq_true (by omega)
    have q1_0 : decide ((p.b.length : Int) ≥ 1) = false := decide_eq_false (by omega)
    have q1_1 : decide (1 ≤ (p.b.length : Int)) = false := decide_eq_false (by omega)
    have q1_2 : decide (1 ≤ p.b.length) = false := decide_eq_false (by omega)
    have q1_3 : decide (p.b.length ≥ 1) = false := decide_eq_false (by omega)
    clear h0 h1
    go_enter Try.func12, Try.ntmps12
    go_wp2_with (first | ((with_reducible refine gate_dst (N := 1) rfl ?_); refine box_event ?hg (N := 1) ?hd (cs := (pv A0 c0 A1 c1 A2 c2 A4 c4 A5 c5 A6 c6 A7 c7 p)) (t := 29) ?hr ?_; (case hd => rfl); (case hg => rfl); (case hr => first | (go_simp; done) | (go_simp; rfl)); intro g1 hg w1 hbox hb; have n0_ := Aside0.mk (below_step HB.out hb); have n1_ := Aside0.mk (hbox); clear HB; have HB := n0_; have BP := n1_; clear n0_ n1_; have hcp0 : w1.cell? ⟨g1, 0, none⟩ = some (.slice A0 p.a.length c0) := (blk_cell hbox 0).trans rfl; have hcp1 : w1.cell? ⟨g1, 1, none⟩ = some (.slice A1 p.b.length c1) := (blk_cell hbox 1).trans rfl; have hcp2 : w1.cell? ⟨g1, 2, none⟩ = some (.slice A2 p.c.length c2) := (blk_cell hbox 2).trans rfl; have hcp3 : w1.cell? ⟨g1, 3, none⟩ = some (.int .i64 p.d) := (blk_cell hbox 3).trans rfl; have hcp4 : w1.cell? ⟨g1, 4, none⟩ = some (.slice A4 p.e.length c4) := (blk_cell hbox 4).trans rfl; have hcp5 : w1.cell? ⟨g1, 5, none⟩ = some (.slice A5 p.f.length c5) := (blk_cell hbox 5).trans rfl; have hcp6 : w1.cell? ⟨g1, 6, none⟩ = some (.slice A6 p.g.length c6) := (blk_cell hbox 6).trans rfl; have hcp7 : w1.cell? ⟨g1, 7, none⟩ = some (.slice A7 p.h.length c7) := (blk_cell hbox 7).trans rfl; clear hg hbox hb))
    go_ret
    exact ⟨by rw [HM.out]; rfl, HB.out⟩
  by_cases h2 : p.b.length ≤ 13
  rotate_left
  · have HM : Aside0 (p.may = false) := ⟨by simp [Pg.may, h2]⟩
    have q0_0 : decide ((p.a.length : Int) ≤ 5000) = true := decide_eq_true (by omega)
    have q0_1 : decide (p.a.length ≤ 5000) = true := decide_eq_true (by omega)
    have q1_0 : decide ((p.b.length : Int) ≥ 1) = true := decide_eq_true (by omega)
    have q1_1 : decide (1 ≤ (p.b.length : Int)) = true := decide_eq_true (by omega)
    have q1_2 : decide (1 ≤ p.b.length) = true := decide_eq_true (by omega)
    have q1_3 : decide (p.b.length ≥ 1) = true := decide_eq_true (by omega)
    have q2_0 : decide ((p.b.length : Int) ≤ 13) = false := decide_eq_false (by omega)
    have q2_1 : decide (p.b.length ≤ 13) = false := decide_eq_false (by omega)
    clear h0 h1 h2
    go_enter Try.func12, Try.ntmps12
    go_wp2_with (first | ((with_reducible refine gate_dst (N := 1) rfl ?_); refine box_event ?hg (N := 1) ?hd (cs := (pv A0 c0 A1 c1 A2 c2 A4 c4 A5 c5 A6 c6 A7 c7 p)) (t := 29) ?hr ?_; (case hd => rfl); (case hg => rfl); (case hr => first | (go_simp; done) | (go_simp; rfl)); intro g1 hg w1 hbox hb; have n0_ := Aside0.mk (below_step HB.out hb); have n1_ := Aside0.mk (hbox); clear HB; have HB := n0_; have BP := n1_; clear n0_ n1_; have hcp0 : w1.cell? ⟨g1, 0, none⟩ = some (.slice A0 p.a.length c0) := (blk_cell hbox 0).trans rfl; have hcp1 : w1.cell? ⟨g1, 1, none⟩ = some (.slice A1 p.b.length c1) := (blk_cell hbox 1).trans rfl; have hcp2 : w1.cell? ⟨g1, 2, none⟩ = some (.slice A2 p.c.length c2) := (blk_cell hbox 2).trans rfl; have hcp3 : w1.cell? ⟨g1, 3, none⟩ = some (.int .i64 p.d) := (blk_cell hbox 3).trans rfl; have hcp4 : w1.cell? ⟨g1, 4, none⟩ = some (.slice A4 p.e.length c4) := (blk_cell hbox 4).trans rfl; have hcp5 : w1.cell? ⟨g1, 5, none⟩ = some (.slice A5 p.f.length c5) := (blk_cell hbox 5).trans rfl; have hcp6 : w1.cell? ⟨g1, 6, none⟩ = some (.slice A6 p.g.length c6) := (blk_cell hbox 6).trans rfl; have hcp7 : w1.cell? ⟨g1, 7, none⟩ = some (.slice A7 p.h.length c7) := (blk_cell hbox 7).trans rfl; clear hg hbox hb))
    go_ret
    exact ⟨by rw [HM.out]; rfl, HB.out⟩
  by_cases h3 : p.c.length ≤ 16
  rotate_left
  · have HM : Aside0 (p.may = false) := ⟨by simp [Pg.may, h3]⟩
    have q0_0 : decide ((p.a.length : Int) ≤ 5000) = true := decide_eq_true (by omega)
    have q0_1 : decide (p.a.length ≤ 5000) = true := decide_eq_true (by omega)
    have q1_0 : decide ((p.b.length : Int) ≥ 1) = true := decide_eq_true (by omega)
    have q1_1 : decide (1 ≤ (p.b.length : Int)) = true := decide_eq_true (by omega)
    have q1_2 : decide (1 ≤ p.b.length) = true := decide_eq_true (by omega)
    have q1_3 : decide (p.b.length ≥ 1) = true := decide_eq_true (by omega)
    have q2_0 : decide ((p.b.length : Int) ≤ 13) = true := decide_eq_true (by omega)
    have q2_1 : decide (p.b.length ≤ 13) = true := decide_eq_true (by omega)
    have q3_0 : decide ((p.c.length : Int) ≤ 16) = false := decide_eq_false (by omega)
    have q3_1 : decide (p.c.length ≤ 16) = false := decide_eq_false (by omega)
    clear h0 h1 h2 h3
    go_enter Try.func12, Try.ntmps12
    go_wp2_with (first | ((with_reducible refine gate_dst (N := 1) rfl ?_); refine box_event ?hg (N := 1) ?hd (cs := (pv A0 c0 A1 c1 A2 c2 A4 c4 A5 c5 A6 c6 A7 c7 p)) (t := 29) ?hr ?_; (case hd => rfl); (case hg => rfl); (case hr => first | (go_simp; done) | (go_simp; rfl)); intro g1 hg w1 hbox hb; have n0_ := Aside0.mk (below_step HB.out hb); have n1_ := Aside0.mk (hbox); clear HB; have HB := n0_; have BP := n1_; clear n0_ n1_; have hcp0 : w1.cell? ⟨g1, 0, none⟩ = some (.slice A0 p.a.length c0) := (blk_cell hbox 0).trans rfl; have hcp1 : w1.cell? ⟨g1, 1, none⟩ = some (.slice A1 p.b.length c1) := (blk_cell hbox 1).trans rfl; have hcp2 : w1.cell? ⟨g1, 2, none⟩ = some (.slice A2 p.c.length c2) := (blk_cell hbox 2).trans rfl; have hcp3 : w1.cell? ⟨g1, 3, none⟩ = some (.int .i64 p.d) := (blk_cell hbox 3).trans rfl; have hcp4 : w1.cell? ⟨g1, 4, none⟩ = some (.slice A4 p.e.length c4) := (blk_cell hbox 4).trans rfl; have hcp5 : w1.cell? ⟨g1, 5, none⟩ = some (.slice A5 p.f.length c5) := (blk_cell hbox 5).trans rfl; have hcp6 : w1.cell? ⟨g1, 6, none⟩ = some (.slice A6 p.g.length c6) := (blk_cell hbox 6).trans rfl; have hcp7 : w1.cell? ⟨g1, 7, none⟩ = some (.slice A7 p.h.length c7) := (blk_cell hbox 7).trans rfl; clear hg hbox hb))
    go_ret
    exact ⟨by rw [HM.out]; rfl, HB.out⟩
  by_cases h4 : p.e.length ≤ 8
  rotate_left
  · have HM : Aside0 (p.may = false) := ⟨by simp [Pg.may, h4]⟩
    have q0_0 : decide ((p.a.length : Int) ≤ 5000) = true := decide_eq_true (by omega)
    have q0_1 : decide (p.a.length ≤ 5000) = true := decide_eq_true (by omega)
    have q1_0 : decide ((p.b.length : Int) ≥ 1) = true := decide_eq_true (by omega)
    have q1_1 : decide (1 ≤ (p.b.length : Int)) = true := decide_eq_true (by omega)
    have q1_2 : decide (1 ≤ p.b.length) = true := decide_eq_true (by omega)
    have q1_3 : decide (p.b.length ≥ 1) = true := decide_eq_true (by omega)
    have q2_0 : decide ((p.b.length : Int) ≤ 13) = true := decide_eq_true (by omega)
    have q2_1 : decide (p.b.length ≤ 13) = true := decide_eq_true (by omega)
    have q3_0 : decide ((p.c.length : Int) ≤ 16) = true := decide_eq_true (by omega)
    have q3_1 : decide (p.c.length ≤ 16) = true := decide_eq_true (by omega)
    have q4_0 : decide ((p.e.length : Int) ≤ 8) = false := decide_eq_false (by omega)
    have q4_1 : decide (p.e.length ≤ 8) = false := decide_eq_false (by omega)
    clear h0 h1 h2 h3 h4
    go_enter Try.func12, Try.ntmps12
    go_wp2_with (first | ((with_reducible refine gate_dst (N := 1) rfl ?_); refine box_event ?hg (N := 1) ?hd (cs := (pv A0 c0 A1 c1 A2 c2 A4 c4 A5 c5 A6 c6 A7 c7 p)) (t := 29) ?hr ?_; (case hd => rfl); (case hg => rfl); (case hr => first | (go_simp; done) | (go_simp; rfl)); intro g1 hg w1 hbox hb; have n0_ := Aside0.mk (below_step HB.out hb); have n1_ := Aside0.mk (hbox); clear HB; have HB := n0_; have BP := n1_; clear n0_ n1_; have hcp0 : w1.cell? ⟨g1, 0, none⟩ = some (.slice A0 p.a.length c0) := (blk_cell hbox 0).trans rfl; have hcp1 : w1.cell? ⟨g1, 1, none⟩ = some (.slice A1 p.b.length c1) := (blk_cell hbox 1).trans rfl; have hcp2 : w1.cell? ⟨g1, 2, none⟩ = some (.slice A2 p.c.length c2) := (blk_cell hbox 2).trans rfl; have hcp3 : w1.cell? ⟨g1, 3, none⟩ = some (.int .i64 p.d) := (blk_cell hbox 3).trans rfl; have hcp4 : w1.cell? ⟨g1, 4, none⟩ = some (.slice A4 p.e.length c4) := (blk_cell hbox 4).trans rfl; have hcp5 : w1.cell? ⟨g1, 5, none⟩ = some (.slice A5 p.f.length c5) := (blk_cell hbox 5).trans rfl; have hcp6 : w1.cell? ⟨g1, 6, none⟩ = some (.slice A6 p.g.length c6) := (blk_cell hbox 6).trans rfl; have hcp7 : w1.cell? ⟨g1, 7, none⟩ = some (.slice A7 p.h.length c7) := (blk_cell hbox 7).trans rfl; clear hg hbox hb))
    go_ret
    exact ⟨by rw [HM.out]; rfl, HB.out⟩
  by_cases h5 : p.f.length ≤ 6
  rotate_left
  · have HM : Aside0 (p.may = false) := ⟨by simp [Pg.may, h5]⟩
    have q0_0 : decide ((p.a.length : Int) ≤ 5000) = true := decide_eq_true (by omega)
    have q0_1 : decide (p.a.length ≤ 5000) = true := decide_eq_true (by omega)
    have q1_0 : decide ((p.b.length : Int) ≥ 1) = true := decide_eq_true (by omega)
    have q1_1 : decide (1 ≤ (p.b.length : Int)) = true := decide_eq_true (by omega)
    have q1_2 : decide (1 ≤ p.b.length) = true := decide_eq_true (by omega)
    have q1_3 : decide (p.b.length ≥ 1) = true := decide_eq_true (by omega)
    have q2_0 : decide ((p.b.length : Int) ≤ 13) = true := decide_eq_true (by omega)
    have q2_1 : decide (p.b.length ≤ 13) = true := decide_eq_true (by omega)
    have q3_0 : decide ((p.c.length : Int) ≤ 16) = true := decide_eq_true (by omega)
    have q3_1 : decide (p.c.length ≤ 16) = true := decide_eq_true (by omega)
    have q4_0 : decide ((p.e.length : Int) ≤ 8) = true := decide_eq_true (by omega)
    have q4_1 : decide (p.e.length ≤ 8) = true := decide_eq_true (by omega)
    have q5_0 : decide ((p.f.length : Int) ≤ 6) = false := decide_eq_false (by omega)
    have q5_1 : decide (p.f.length ≤ 6) = false := decide_eq_false (by omega)
    clear h0 h1 h2 h3 h4 h5
    go_enter Try.func12, Try.ntmps12
    go_wp2_with (first | ((with_reducible refine gate_dst (N := 1) rfl ?_); refine box_event ?hg (N := 1) ?hd (cs := (pv A0 c0 A1 c1 A2 c2 A4 c4 A5 c5 A6 c6 A7 c7 p)) (t := 29) ?hr ?_; (case hd => rfl); (case hg => rfl); (case hr => first | (go_simp; done) | (go_simp; rfl)); intro g1 hg w1 hbox hb; have n0_ := Aside0.mk (below_step HB.out hb); have n1_ := Aside0.mk (hbox); clear HB; have HB := n0_; have BP := n1_; clear n0_ n1_; have hcp0 : w1.cell? ⟨g1, 0, none⟩ = some (.slice A0 p.a.length c0) := (blk_cell hbox 0).trans rfl; have hcp1 : w1.cell? ⟨g1, 1, none⟩ = some (.slice A1 p.b.length c1) := (blk_cell hbox 1).trans rfl; have hcp2 : w1.cell? ⟨g1, 2, none⟩ = some (.slice A2 p.c.length c2) := (blk_cell hbox 2).trans rfl; have hcp3 : w1.cell? ⟨g1, 3, none⟩ = some (.int .i64 p.d) := (blk_cell hbox 3).trans rfl; have hcp4 : w1.cell? ⟨g1, 4, none⟩ = some (.slice A4 p.e.length c4) := (blk_cell hbox 4).trans rfl; have hcp5 : w1.cell? ⟨g1, 5, none⟩ = some (.slice A5 p.f.length c5) := (blk_cell hbox 5).trans rfl; have hcp6 : w1.cell? ⟨g1, 6, none⟩ = some (.slice A6 p.g.length c6) := (blk_cell hbox 6).trans rfl; have hcp7 : w1.cell? ⟨g1, 7, none⟩ = some (.slice A7 p.h.length c7) := (blk_cell hbox 7).trans rfl; clear hg hbox hb))
    go_ret
    exact ⟨by rw [HM.out]; rfl, HB.out⟩
  by_cases h6 : p.g.length ≤ 1000
  rotate_left
  · have HM : Aside0 (p.may = false) := ⟨by simp [Pg.may, h6]⟩
    have q0_0 : decide ((p.a.length : Int) ≤ 5000) = true := decide_eq_true (by omega)
    have q0_1 : decide (p.a.length ≤ 5000) = true := decide_eq_true (by omega)
    have q1_0 : decide ((p.b.length : Int) ≥ 1) = true := decide_eq_true (by omega)
    have q1_1 : decide (1 ≤ (p.b.length : Int)) = true := decide_eq_true (by omega)
    have q1_2 : decide (1 ≤ p.b.length) = true := decide_eq_true (by omega)
    have q1_3 : decide (p.b.length ≥ 1) = true := decide_eq_true (by omega)
    have q2_0 : decide ((p.b.length : Int) ≤ 13) = true := decide_eq_true (by omega)
    have q2_1 : decide (p.b.length ≤ 13) = true := decide_eq_true (by omega)
    have q3_0 : decide ((p.c.length : Int) ≤ 16) = true := decide_eq_true (by omega)
    have q3_1 : decide (p.c.length ≤ 16) = true := decide_eq_true (by omega)
    have q4_0 : decide ((p.e.length : Int) ≤ 8) = true := decide_eq_true (by omega)
    have q4_1 : decide (p.e.length ≤ 8) = true := decide_eq_true (by omega)
    have q5_0 : decide ((p.f.length : Int) ≤ 6) = true := decide_eq_true (by omega)
    have q5_1 : decide (p.f.length ≤ 6) = true := decide_eq_true (by omega)
    have q6_0 : decide ((p.g.length : Int) ≤ 1000) = false := decide_eq_false (by omega)
    have q6_1 : decide (p.g.length ≤ 1000) = false := decide_eq_false (by omega)
    clear h0 h1 h2 h3 h4 h5 h6
    go_enter Try.func12, Try.ntmps12
    go_wp2_with (first | ((with_reducible refine gate_dst (N := 1) rfl ?_); refine box_event ?hg (N := 1) ?hd (cs := (pv A0 c0 A1 c1 A2 c2 A4 c4 A5 c5 A6 c6 A7 c7 p)) (t := 29) ?hr ?_; (case hd => rfl); (case hg => rfl); (case hr => first | (go_simp; done) | (go_simp; rfl)); intro g1 hg w1 hbox hb; have n0_ := Aside0.mk (below_step HB.out hb); have n1_ := Aside0.mk (hbox); clear HB; have HB := n0_; have BP := n1_; clear n0_ n1_; have hcp0 : w1.cell? ⟨g1, 0, none⟩ = some (.slice A0 p.a.length c0) := (blk_cell hbox 0).trans rfl; have hcp1 : w1.cell? ⟨g1, 1, none⟩ = some (.slice A1 p.b.length c1) := (blk_cell hbox 1).trans rfl; have hcp2 : w1.cell? ⟨g1, 2, none⟩ = some (.slice A2 p.c.length c2) := (blk_cell hbox 2).trans rfl; have hcp3 : w1.cell? ⟨g1, 3, none⟩ = some (.int .i64 p.d) := (blk_cell hbox 3).trans rfl; have hcp4 : w1.cell? ⟨g1, 4, none⟩ = some (.slice A4 p.e.length c4) := (blk_cell hbox 4).trans rfl; have hcp5 : w1.cell? ⟨g1, 5, none⟩ = some (.slice A5 p.f.length c5) := (blk_cell hbox 5).trans rfl; have hcp6 : w1.cell? ⟨g1, 6, none⟩ = some (.slice A6 p.g.length c6) := (blk_cell hbox 6).trans rfl; have hcp7 : w1.cell? ⟨g1, 7, none⟩ = some (.slice A7 p.h.length c7) := (blk_cell hbox 7).trans rfl; clear hg hbox hb))
    go_ret
    exact ⟨by rw [HM.out]; rfl, HB.out⟩
  by_cases h7 : p.h.length ≤ 1000
  rotate_left
  · have HM : Aside0 (p.may = false) := ⟨by simp [Pg.may, h7]⟩
    have q0_0 : decide ((p.a.length : Int) ≤ 5000) = true := decide_eq_true (by omega)
    have q0_1 : decide (p.a.length ≤ 5000) = true := decide_eq_true (by omega)
    have q1_0 : decide ((p.b.length : Int) ≥ 1) = true := decide_eq_true (by omega)
    have q1_1 : decide (1 ≤ (p.b.length : Int)) = true := decide_eq_true (by omega)
    have q1_2 : decide (1 ≤ p.b.length) = true := decide_eq_true (by omega)
    have q1_3 : decide (p.b.length ≥ 1) = true := decide_eq_true (by omega)
    have q2_0 : decide ((p.b.length : Int) ≤ 13) = true := decide_eq_true (by omega)
    have q2_1 : decide (p.b.length ≤ 13) = true := decide_eq_true (by omega)
    have q3_0 : decide ((p.c.length : Int) ≤ 16) = true := decide_eq_true (by omega)
    have q3_1 : decide (p.c.length ≤ 16) = true := decide_eq_true (by omega)
    have q4_0 : decide ((p.e.length : Int) ≤ 8) = true := decide_eq_true (by omega)
    have q4_1 : decide (p.e.length ≤ 8) = true := decide_eq_true (by omega)
    have q5_0 : decide ((p.f.length : Int) ≤ 6) = true := decide_eq_true (by omega)
    have q5_1 : decide (p.f.length ≤ 6) = true := decide_eq_true (by omega)
    have q6_0 : decide ((p.g.length : Int) ≤ 1000) = true := decide_eq_true (by omega)
    have q6_1 : decide (p.g.length ≤ 1000) = true := decide_eq_true (by omega)
    have q7_0 : decide ((p.h.length : Int) ≤ 1000) = false := decide_eq_false (by omega)
    have q7_1 : decide (p.h.length ≤ 1000) = false := decide_eq_false (by omega)
    clear h0 h1 h2 h3 h4 h5 h6 h7
    go_enter Try.func12, Try.ntmps12
    go_wp2_with (first | ((with_reducible refine gate_dst (N := 1) rfl ?_); refine box_event ?hg (N := 1) ?hd (cs := (pv A0 c0 A1 c1 A2 c2 A4 c4 A5 c5 A6 c6 A7 c7 p)) (t := 29) ?hr ?_; (case hd => rfl); (case hg => rfl); (case hr => first | (go_simp; done) | (go_simp; rfl)); intro g1 hg w1 hbox hb; have n0_ := Aside0.mk (below_step HB.out hb); have n1_ := Aside0.mk (hbox); clear HB; have HB := n0_; have BP := n1_; clear n0_ n1_; have hcp0 : w1.cell? ⟨g1, 0, none⟩ = some (.slice A0 p.a.length c0) := (blk_cell hbox 0).trans rfl; have hcp1 : w1.cell? ⟨g1, 1, none⟩ = some (.slice A1 p.b.length c1) := (blk_cell hbox 1).trans rfl; have hcp2 : w1.cell? ⟨g1, 2, none⟩ = some (.slice A2 p.c.length c2) := (blk_cell hbox 2).trans rfl; have hcp3 : w1.cell? ⟨g1, 3, none⟩ = some (.int .i64 p.d) := (blk_cell hbox 3).trans rfl; have hcp4 : w1.cell? ⟨g1, 4, none⟩ = some (.slice A4 p.e.length c4) := (blk_cell hbox 4).trans rfl; have hcp5 : w1.cell? ⟨g1, 5, none⟩ = some (.slice A5 p.f.length c5) := (blk_cell hbox 5).trans rfl; have hcp6 : w1.cell? ⟨g1, 6, none⟩ = some (.slice A6 p.g.length c6) := (blk_cell hbox 6).trans rfl; have hcp7 : w1.cell? ⟨g1, 7, none⟩ = some (.slice A7 p.h.length c7) := (blk_cell hbox 7).trans rfl; clear hg hbox hb))
    go_ret
    exact ⟨by rw [HM.out]; rfl, HB.out⟩
  have q0_0 : decide ((p.a.length : Int) ≤ 5000) = true := decide_eq_true (by omega)
  have q0_1 : decide (p.a.length ≤ 5000) = true := decide_eq_true (by omega)
  have q1_0 : decide ((p.b.length : Int) ≥ 1) = true := decide_eq_true (by omega)
  have q1_1 : decide (1 ≤ (p.b.length : Int)) = true := decide_eq_true (by omega)
  have q1_2 : decide (1 ≤ p.b.length) = true := decide_eq_true (by omega)
  have q1_3 : decide (p.b.length ≥ 1) = true := decide_eq_true (by omega)
  have q2_0 : decide ((p.b.length : Int) ≤ 13) = true := decide_eq_true (by omega)
  have q2_1 : decide (p.b.length ≤ 13) = true := decide_eq_true (by omega)
  have q3_0 : decide ((p.c.length : Int) ≤ 16) = true := decide_eq_true (by omega)
  have q3_1 : decide (p.c.length ≤ 16) = true := decide_eq_true (by omega)
  have q4_0 : decide ((p.e.length : Int) ≤ 8) = true := decide_eq_true (by omega)
  have q4_1 : decide (p.e.length ≤ 8) = true := decide_eq_true (by omega)
  have q5_0 : decide ((p.f.length : Int) ≤ 6) = true := decide_eq_true (by omega)
  have q5_1 : decide (p.f.length ≤ 6) = true := decide_eq_true (by omega)
  have q6_0 : decide ((p.g.length : Int) ≤ 1000) = true := decide_eq_true (by omega)
  have q6_1 : decide (p.g.length ≤ 1000) = true := decide_eq_true (by omega)
  have q7_0 : decide ((p.h.length : Int) ≤ 1000) = true := decide_eq_true (by omega)
  have q7_1 : decide (p.h.length ≤ 1000) = true := decide_eq_true (by omega)
  have HM : Aside0 (p.may = !oddB p.f.length p.g) := ⟨by simp [Pg.may, h0, h1, h2, h3, h4, h5, h6, h7]⟩
  have HN := Aside0.mk h6
  clear h0 h1 h2 h3 h4 h5 h6 h7
  go_enter Try.func12, Try.ntmps12
  go_wp2_with (first | ((with_reducible refine gate_dst (N := 1) rfl ?_); refine box_event ?hg (N := 1) ?hd (cs := (pv A0 c0 A1 c1 A2 c2 A4 c4 A5 c5 A6 c6 A7 c7 p)) (t := 29) ?hr ?_; (case hd => rfl); (case hg => rfl); (case hr => first | (go_simp; done) | (go_simp; rfl)); intro g1 hg w1 hbox hb; have n0_ := Aside0.mk (below_step HB.out hb); have n1_ := Aside0.mk (hbox); clear HB; have HB := n0_; have BP := n1_; clear n0_ n1_; have hcp0 : w1.cell? ⟨g1, 0, none⟩ = some (.slice A0 p.a.length c0) := (blk_cell hbox 0).trans rfl; have hcp1 : w1.cell? ⟨g1, 1, none⟩ = some (.slice A1 p.b.length c1) := (blk_cell hbox 1).trans rfl; have hcp2 : w1.cell? ⟨g1, 2, none⟩ = some (.slice A2 p.c.length c2) := (blk_cell hbox 2).trans rfl; have hcp3 : w1.cell? ⟨g1, 3, none⟩ = some (.int .i64 p.d) := (blk_cell hbox 3).trans rfl; have hcp4 : w1.cell? ⟨g1, 4, none⟩ = some (.slice A4 p.e.length c4) := (blk_cell hbox 4).trans rfl; have hcp5 : w1.cell? ⟨g1, 5, none⟩ = some (.slice A5 p.f.length c5) := (blk_cell hbox 5).trans rfl; have hcp6 : w1.cell? ⟨g1, 6, none⟩ = some (.slice A6 p.g.length c6) := (blk_cell hbox 6).trans rfl; have hcp7 : w1.cell? ⟨g1, 7, none⟩ = some (.slice A7 p.h.length c7) := (blk_cell hbox 7).trans rfl; clear hg hbox hb) | (go_at_call 34; (with_reducible refine (contains_any (m := p.f.length) ((blk_cell BP.out 5).trans rfl) (Kd.C_below HG.out HB.out) HN.out).mono ?_); rintro e w' ⟨rfl, rfl⟩))
  go_ret
  exact ⟨by rw [HM.out]; rfl, HB.out⟩

end Go.Proofs.Ytdgaklldijkoaaa.PCode
