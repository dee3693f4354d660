import Derived.Test.YtdgaklldijkoaaaPCodex0
import Derived.Test.YtdgaklldijkoaaaCodeU
import Derived.Test.YtdgaklldijkoaaaPCodex7
import Derived.BigQuiet
import Derived.IntWalk
import Derived.WalkMore
import Derived.Laws.EntriesVeiled
import Derived.StillTailTactics
import Derived.Laws.BitsAllLaws
import Derived.Laws.BitsLemmas
import Derived.Laws.Strings
namespace Go.Proofs.Ytdgaklldijkoaaa.PCode
open Go.RowKit Go.Proofs.YtdgaklldijkoaaaW.PrintWords Go.Proofs.YtdgaklldijkoaaaW.PrintLast Go.Proofs.YtdgaklldijkoaaaW.PrintMore
attribute [local go_sem] max2_int min2_int max_two min_two max_three min_three max_four min_four
set_option linter.unusedVariables false
set_option linter.unusedSimpArgs false
/-! The reference's May, as printed. -/
section
open Go.Proofs.Ytdgaklldijkoaaa.EvKit
theorem may_l {p : Pg} (hg : p.g.length ≤ 1000) : ∀ (d i : Nat), p.g.length - i = d → i ≤ p.g.length → Ev (fun k => signalboxref1_May.l0 k (i : Int) p.a p.b p.c p.d p.e p.f p.g p.h p.i) (!oddB p.f.length (p.g.drop i))
  | 0, i, hd, hi => by
    refine Ev.step (fun k => by rw [signalboxref1_May.l0]) ?_
    exact neg (by omega) (somec (by rw [List.drop_of_length_le (by omega)]; rfl))
  | d + 1, i, hd, hi => by
    have hil : i < p.g.length := by omega
    have e : rd_L1 p.g (i : Int) = p.g[i] := rdX hil
    refine Ev.step (fun k => by rw [signalboxref1_May.l0]) ?_
    rw [e]
    have hs : oddB p.f.length (p.g.drop i) = (decide ((p.g[i]).length ≠ p.f.length) || oddB p.f.length (p.g.drop (i + 1))) := by rw [drop_cons' _ hil]; rfl
    refine pos (by omega) (pos (by omega) (ite (fun h => ?_) (fun h => ?_)))
    · rw [w64 (by omega) (by omega), show ((i : Int) + 1) = ((i + 1 : Nat) : Int) by omega]
      refine eqr (may_l hg d (i + 1) (by omega) (by omega)) ?_
      rw [hs, decide_eq_false (by omega), Bool.false_or]
    · refine somec ?_
      rw [hs, decide_eq_true (by omega), Bool.true_or]; rfl
theorem rmay (p : Pg) : Ev (fun k => signalboxref1_May.f k p.a p.b p.c p.d p.e p.f p.g p.h p.i) p.may := by
  have far : p.may = false → Ev (fun k => signalboxref1_May.j0 k true p.a p.b p.c p.d p.e p.f p.g p.h p.i) p.may := fun h => by
    refine Ev.step (fun k => by rw [signalboxref1_May.j0]) ?_
    exact pos rfl (somec h.symm)
  unfold signalboxref1_May.f
  refine ite (fun h => far (by simp [Pg.may]; intros; omega)) (fun h1 => ite (fun h => far (by simp [Pg.may]; intros; omega)) (fun h2 => ite (fun h => far (by simp [Pg.may]; intros; omega)) (fun h3 => ite (fun h => far (by simp [Pg.may]; intros; omega)) (fun h4 => ite (fun h => far (by simp [Pg.may]; intros; omega)) (fun h5 => ite (fun h => far (by simp [Pg.may]; intros; omega)) (fun h6 => ite (fun h => far (by simp [Pg.may]; intros; omega)) (fun h7 => ?_)))))))
  by_cases h8 : (p.h.length : Int) > 1000
  · rw [decide_eq_true h8]
    exact far (by simp [Pg.may]; intros; omega)
  · rw [decide_eq_false h8]
    refine Ev.step (fun k => by rw [signalboxref1_May.j0]) ?_
    refine neg (by decide) ?_
    refine eqr (may_l (by omega) p.g.length 0 (by omega) (by omega)) ?_
    rw [List.drop_zero]
    unfold Pg.may
    rw [decide_eq_true (show p.a.length ≤ 5000 by omega), decide_eq_true (show 1 ≤ p.b.length by omega), decide_eq_true (show p.b.length ≤ 13 by omega), decide_eq_true (show p.c.length ≤ 16 by omega), decide_eq_true (show p.e.length ≤ 8 by omega), decide_eq_true (show p.f.length ≤ 6 by omega), decide_eq_true (show p.g.length ≤ 1000 by omega), decide_eq_true (show p.h.length ≤ 1000 by omega)]
    rfl
end
theorem rmay_any {w : World} {v : Value} {p : Pg} (h : PR w v p) : Calls Try.prog 13 #[v] w fun e w' => e = .returned (.bool p.may) ∧ Below w.heap.size w w' := by
  obtain ⟨A0, c0, A1, c1, A2, c2, A4, c4, A5, c5, A6, c6, A7, c7, rfl, x⟩ := h
  obtain ⟨k, hk⟩ := Ev.rounds (rmay p)
  exact signalboxref1_May.calls k A0 c0 p.a A1 c1 p.b A2 c2 p.c p.d A4 c4 p.e A5 c5 p.f A6 c6 p.g A7 c7 p.h p.i _ w x.a.2 x.a.1 x.b.2 x.b.1 x.c.2 x.c.1 x.e.2 x.e.1 x.f.2 x.f.1 x.g.2 x.g.1 x.h.2 x.h.1 hk
theorem rmay_t {w : World} {v : Value} {p : Pg} {t : Bool} (ht : p.may = t) (h : PR w v p) : Calls Try.prog 13 #[v] w fun e w' => e = .returned (.bool t) ∧ Below w.heap.size w w' := by
  subst ht
  exact rmay_any h
theorem dec_e {w : World} {A : Option Addr} {c n : Nat} {l : List Int} {q : Pg} {f : Int} (he : dec l = (q, f)) (hn : n = l.length) (hy : Byt l) (hC : Kd.C (Kd.int .u8) w A l.length l) (hc : l.length ≤ c) :
    Calls Try.prog 14 #[.slice A n c] w fun e w' => (∃ B0 d0 B1 d1 B2 d2 B4 d4 B5 d5 B6 d6 B7 d7, e = .returned (.tuple #[.agg #[.slice B0 q.a.length d0, .slice B1 q.b.length d1, .slice B2 q.c.length d2, .int .i64 q.d, .slice B4 q.e.length d4, .slice B5 q.f.length d5, .slice B6 q.g.length d6, .slice B7 q.h.length d7, .int .i64 q.i], .int .i64 f]) ∧ PX w' B0 d0 B1 d1 B2 d2 B4 d4 B5 d5 B6 d6 B7 d7 q) ∧ Below w.heap.size w w' := by
  have H := decode_any hn hy hC hc
  rw [he] at H
  exact H.mono fun e w' ⟨v, k1, ⟨B0, d0, B1, d1, B2, d2, B4, d4, B5, d5, B6, d6, B7, d7, k2, k3⟩, k4⟩ => ⟨⟨B0, d0, B1, d1, B2, d2, B4, d4, B5, d5, B6, d6, B7, d7, by rw [k1, k2], k3⟩, k4⟩
set_option maxHeartbeats 16000000 in
set_option maxRecDepth 100000 in
theorem back_small {w : World} {v : Value} {p : Pg} (h : PR w v p) (hs : Ev (fun k => signalboxmake_Small.f k p.a p.b p.c p.d p.e p.f p.g p.h p.i 12000) false) : Calls Try.prog 4 #[v] w fun e w' => e = .returned (.bool true) ∧ Below w.heap.size w w' := by
  obtain ⟨A0, c0, A1, c1, A2, c2, A4, c4, A5, c5, A6, c6, A7, c7, rfl, hx⟩ := h
  have HP := Aside0.mk hx
  have HS := Aside0.mk hs
  have HB := Aside0.mk (Below.refl w.heap.size w)
  clear hx hs
  go_enter Try.func4, Try.ntmps4
  go_wp2_with (first | ((with_reducible refine gate_dst (N := 1) rfl ?_); refine box_event ?hg (N := 1) ?hd (cs := (pv A0 c0 A1 c1 A2 c2 A4 c4 A5 c5 A6 c6 A7 c7 p)) (t := 29) ?hr ?_; (case hd => rfl); (case hg => rfl); (case hr => first | (go_simp; done) | (go_simp; rfl)); intro g1 hg w1 hbox hb; have n0_ := Aside0.mk (below_step HB.out hb); have n1_ := Aside0.mk (HP.out.below hb); have n2_ := Aside0.mk (hbox); clear HB HP; have HB := n0_; have HP := n1_; have BP := n2_; clear n0_ n1_ n2_; have hcp0 : w1.cell? ⟨g1, 0, none⟩ = some (.slice A0 p.a.length c0) := (blk_cell BP.out 0).trans rfl; have hcp1 : w1.cell? ⟨g1, 1, none⟩ = some (.slice A1 p.b.length c1) := (blk_cell BP.out 1).trans rfl; have hcp2 : w1.cell? ⟨g1, 2, none⟩ = some (.slice A2 p.c.length c2) := (blk_cell BP.out 2).trans rfl; have hcp3 : w1.cell? ⟨g1, 3, none⟩ = some (.int .i64 p.d) := (blk_cell BP.out 3).trans rfl; have hcp4 : w1.cell? ⟨g1, 4, none⟩ = some (.slice A4 p.e.length c4) := (blk_cell BP.out 4).trans rfl; have hcp5 : w1.cell? ⟨g1, 5, none⟩ = some (.slice A5 p.f.length c5) := (blk_cell BP.out 5).trans rfl; have hcp6 : w1.cell? ⟨g1, 6, none⟩ = some (.slice A6 p.g.length c6) := (blk_cell BP.out 6).trans rfl; have hcp7 : w1.cell? ⟨g1, 7, none⟩ = some (.slice A7 p.h.length c7) := (blk_cell BP.out 7).trans rfl; have hcp8 : w1.cell? ⟨g1, 8, none⟩ = some (.int .i64 p.i) := (blk_cell BP.out 8).trans rfl; clear hg hbox hb) | (go_at_call 8; (with_reducible refine (small_any HP.out.pr HS.out).mono ?_); rintro e w8 ⟨rfl, hb⟩; have n0_ := Aside0.mk (below_step HB.out hb); have n1_ := Aside0.mk (HP.out.below hb); have n2_ := Aside0.mk (blk_below BP.out hb); clear HB HP BP; have HB := n0_; have HP := n1_; have BP := n2_; clear n0_ n1_ n2_; clear hb hcp0 hcp1 hcp2 hcp3 hcp4 hcp5 hcp6 hcp7 hcp8; have hcp0 : w8.cell? ⟨g1, 0, none⟩ = some (.slice A0 p.a.length c0) := (blk_cell BP.out 0).trans rfl; have hcp1 : w8.cell? ⟨g1, 1, none⟩ = some (.slice A1 p.b.length c1) := (blk_cell BP.out 1).trans rfl; have hcp2 : w8.cell? ⟨g1, 2, none⟩ = some (.slice A2 p.c.length c2) := (blk_cell BP.out 2).trans rfl; have hcp3 : w8.cell? ⟨g1, 3, none⟩ = some (.int .i64 p.d) := (blk_cell BP.out 3).trans rfl; have hcp4 : w8.cell? ⟨g1, 4, none⟩ = some (.slice A4 p.e.length c4) := (blk_cell BP.out 4).trans rfl; have hcp5 : w8.cell? ⟨g1, 5, none⟩ = some (.slice A5 p.f.length c5) := (blk_cell BP.out 5).trans rfl; have hcp6 : w8.cell? ⟨g1, 6, none⟩ = some (.slice A6 p.g.length c6) := (blk_cell BP.out 6).trans rfl; have hcp7 : w8.cell? ⟨g1, 7, none⟩ = some (.slice A7 p.h.length c7) := (blk_cell BP.out 7).trans rfl; have hcp8 : w8.cell? ⟨g1, 8, none⟩ = some (.int .i64 p.i) := (blk_cell BP.out 8).trans rfl) | (go_at_call 9; (with_reducible refine (awake6_any _).mono ?_); rintro e w9 ⟨rfl, hb⟩; have n0_ := Aside0.mk (below_step HB.out hb); clear HB; have HB := n0_; clear n0_; clear hb))
  go_ret
  exact ⟨rfl, HB.out⟩
set_option maxHeartbeats 16000000 in
set_option maxRecDepth 100000 in
theorem back_refused {w : World} {v : Value} {p : Pg} (h : PR w v p) (hs : Ev (fun k => signalboxmake_Small.f k p.a p.b p.c p.d p.e p.f p.g p.h p.i 12000) true) (he : encP p = ([], 1)) (hm : p.may = false) : Calls Try.prog 4 #[v] w fun e w' => e = .returned (.bool true) ∧ Below w.heap.size w w' := by
  obtain ⟨A0, c0, A1, c1, A2, c2, A4, c4, A5, c5, A6, c6, A7, c7, rfl, hx⟩ := h
  have HP := Aside0.mk hx
  have HS := Aside0.mk hs
  have HB := Aside0.mk (Below.refl w.heap.size w)
  have HE := Aside0.mk he
  have HM := Aside0.mk hm
  clear hx hs he hm
  go_enter Try.func4, Try.ntmps4
  go_wp2_with (first | ((with_reducible refine gate_dst (N := 1) rfl ?_); refine box_event ?hg (N := 1) ?hd (cs := (pv A0 c0 A1 c1 A2 c2 A4 c4 A5 c5 A6 c6 A7 c7 p)) (t := 29) ?hr ?_; (case hd => rfl); (case hg => rfl); (case hr => first | (go_simp; done) | (go_simp; rfl)); intro g1 hg w1 hbox hb; have n0_ := Aside0.mk (below_step HB.out hb); have n1_ := Aside0.mk (HP.out.below hb); have n2_ := Aside0.mk (hbox); clear HB HP; have HB := n0_; have HP := n1_; have BP := n2_; clear n0_ n1_ n2_; have hcp0 : w1.cell? ⟨g1, 0, none⟩ = some (.slice A0 p.a.length c0) := (blk_cell BP.out 0).trans rfl; have hcp1 : w1.cell? ⟨g1, 1, none⟩ = some (.slice A1 p.b.length c1) := (blk_cell BP.out 1).trans rfl; have hcp2 : w1.cell? ⟨g1, 2, none⟩ = some (.slice A2 p.c.length c2) := (blk_cell BP.out 2).trans rfl; have hcp3 : w1.cell? ⟨g1, 3, none⟩ = some (.int .i64 p.d) := (blk_cell BP.out 3).trans rfl; have hcp4 : w1.cell? ⟨g1, 4, none⟩ = some (.slice A4 p.e.length c4) := (blk_cell BP.out 4).trans rfl; have hcp5 : w1.cell? ⟨g1, 5, none⟩ = some (.slice A5 p.f.length c5) := (blk_cell BP.out 5).trans rfl; have hcp6 : w1.cell? ⟨g1, 6, none⟩ = some (.slice A6 p.g.length c6) := (blk_cell BP.out 6).trans rfl; have hcp7 : w1.cell? ⟨g1, 7, none⟩ = some (.slice A7 p.h.length c7) := (blk_cell BP.out 7).trans rfl; have hcp8 : w1.cell? ⟨g1, 8, none⟩ = some (.int .i64 p.i) := (blk_cell BP.out 8).trans rfl; clear hg hbox hb) | (go_at_call 8; (with_reducible refine (small_any HP.out.pr HS.out).mono ?_); rintro e w8 ⟨rfl, hb⟩; have n0_ := Aside0.mk (below_step HB.out hb); have n1_ := Aside0.mk (HP.out.below hb); have n2_ := Aside0.mk (blk_below BP.out hb); clear HB HP BP; have HB := n0_; have HP := n1_; have BP := n2_; clear n0_ n1_ n2_; clear hb hcp0 hcp1 hcp2 hcp3 hcp4 hcp5 hcp6 hcp7 hcp8; have hcp0 : w8.cell? ⟨g1, 0, none⟩ = some (.slice A0 p.a.length c0) := (blk_cell BP.out 0).trans rfl; have hcp1 : w8.cell? ⟨g1, 1, none⟩ = some (.slice A1 p.b.length c1) := (blk_cell BP.out 1).trans rfl; have hcp2 : w8.cell? ⟨g1, 2, none⟩ = some (.slice A2 p.c.length c2) := (blk_cell BP.out 2).trans rfl; have hcp3 : w8.cell? ⟨g1, 3, none⟩ = some (.int .i64 p.d) := (blk_cell BP.out 3).trans rfl; have hcp4 : w8.cell? ⟨g1, 4, none⟩ = some (.slice A4 p.e.length c4) := (blk_cell BP.out 4).trans rfl; have hcp5 : w8.cell? ⟨g1, 5, none⟩ = some (.slice A5 p.f.length c5) := (blk_cell BP.out 5).trans rfl; have hcp6 : w8.cell? ⟨g1, 6, none⟩ = some (.slice A6 p.g.length c6) := (blk_cell BP.out 6).trans rfl; have hcp7 : w8.cell? ⟨g1, 7, none⟩ = some (.slice A7 p.h.length c7) := (blk_cell BP.out 7).trans rfl; have hcp8 : w8.cell? ⟨g1, 8, none⟩ = some (.int .i64 p.i) := (blk_cell BP.out 8).trans rfl) | (go_at_call 10; (with_reducible refine (enc_e HE.out HP.out.pr).mono ?_); rintro e w13 ⟨⟨X3, x3, rfl, hk, hc⟩, hb⟩; have n0_ := Aside0.mk (below_step HB.out hb); have n1_ := Aside0.mk (HP.out.below hb); have n2_ := Aside0.mk (blk_below BP.out hb); clear HB HP BP; have HB := n0_; have HP := n1_; have BP := n2_; clear n0_ n1_ n2_; have HS1 := Aside0.mk hc; have HK1 := Aside0.mk hk; clear hb hc hk hcp0 hcp1 hcp2 hcp3 hcp4 hcp5 hcp6 hcp7 hcp8; have hcp0 : w13.cell? ⟨g1, 0, none⟩ = some (.slice A0 p.a.length c0) := (blk_cell BP.out 0).trans rfl; have hcp1 : w13.cell? ⟨g1, 1, none⟩ = some (.slice A1 p.b.length c1) := (blk_cell BP.out 1).trans rfl; have hcp2 : w13.cell? ⟨g1, 2, none⟩ = some (.slice A2 p.c.length c2) := (blk_cell BP.out 2).trans rfl; have hcp3 : w13.cell? ⟨g1, 3, none⟩ = some (.int .i64 p.d) := (blk_cell BP.out 3).trans rfl; have hcp4 : w13.cell? ⟨g1, 4, none⟩ = some (.slice A4 p.e.length c4) := (blk_cell BP.out 4).trans rfl; have hcp5 : w13.cell? ⟨g1, 5, none⟩ = some (.slice A5 p.f.length c5) := (blk_cell BP.out 5).trans rfl; have hcp6 : w13.cell? ⟨g1, 6, none⟩ = some (.slice A6 p.g.length c6) := (blk_cell BP.out 6).trans rfl; have hcp7 : w13.cell? ⟨g1, 7, none⟩ = some (.slice A7 p.h.length c7) := (blk_cell BP.out 7).trans rfl; have hcp8 : w13.cell? ⟨g1, 8, none⟩ = some (.int .i64 p.i) := (blk_cell BP.out 8).trans rfl) | (go_at_call 13; (with_reducible refine (rmay_t HM.out HP.out.pr).mono ?_); rintro e w19 ⟨rfl, hb⟩; have n0_ := Aside0.mk (below_step HB.out hb); clear HB; have HB := n0_; clear n0_; clear hb) | (go_at_call 9; (with_reducible refine (awake6_any _).mono ?_); rintro e w9 ⟨rfl, hb⟩; have n0_ := Aside0.mk (below_step HB.out hb); clear HB; have HB := n0_; clear n0_; clear hb))
  go_ret
  exact ⟨rfl, HB.out⟩
set_option maxHeartbeats 16000000 in
set_option maxRecDepth 100000 in
theorem back_long {w : World} {v : Value} {p q : Pg} {bs : List Int} (h : PR w v p) (hs : Ev (fun k => signalboxmake_Small.f k p.a p.b p.c p.d p.e p.f p.g p.h p.i 12000) true) (he : encP p = (bs, 0)) (hy : Byt bs) (hd : dec bs = (q, 0)) (heq : EqB true (p = q)) : Calls Try.prog 4 #[v] w fun e w' => e = .returned (.bool true) ∧ Below w.heap.size w w' := by
  obtain ⟨A0, c0, A1, c1, A2, c2, A4, c4, A5, c5, A6, c6, A7, c7, rfl, hx⟩ := h
  have HP := Aside0.mk hx
  have HS := Aside0.mk hs
  have HB := Aside0.mk (Below.refl w.heap.size w)
  have HE := Aside0.mk he
  have HY := Aside0.mk hy
  have HD := Aside0.mk hd
  have HEQ := Aside0.mk heq
  clear hx hs he hy hd heq
  go_enter Try.func4, Try.ntmps4
  go_upto_region 7 with (first | ((with_reducible refine gate_dst (N := 1) rfl ?_); refine box_event ?hg (N := 1) ?hd (cs := (pv A0 c0 A1 c1 A2 c2 A4 c4 A5 c5 A6 c6 A7 c7 p)) (t := 29) ?hr ?_; (case hd => rfl); (case hg => rfl); (case hr => first | (go_simp; done) | (go_simp; rfl)); intro g1 hg w1 hbox hb; have n0_ := Aside0.mk (below_step HB.out hb); have n1_ := Aside0.mk (HP.out.below hb); have n2_ := Aside0.mk (hbox); clear HB HP; have HB := n0_; have HP := n1_; have BP := n2_; clear n0_ n1_ n2_; have hcp0 : w1.cell? ⟨g1, 0, none⟩ = some (.slice A0 p.a.length c0) := (blk_cell BP.out 0).trans rfl; have hcp1 : w1.cell? ⟨g1, 1, none⟩ = some (.slice A1 p.b.length c1) := (blk_cell BP.out 1).trans rfl; have hcp2 : w1.cell? ⟨g1, 2, none⟩ = some (.slice A2 p.c.length c2) := (blk_cell BP.out 2).trans rfl; have hcp3 : w1.cell? ⟨g1, 3, none⟩ = some (.int .i64 p.d) := (blk_cell BP.out 3).trans rfl; have hcp4 : w1.cell? ⟨g1, 4, none⟩ = some (.slice A4 p.e.length c4) := (blk_cell BP.out 4).trans rfl; have hcp5 : w1.cell? ⟨g1, 5, none⟩ = some (.slice A5 p.f.length c5) := (blk_cell BP.out 5).trans rfl; have hcp6 : w1.cell? ⟨g1, 6, none⟩ = some (.slice A6 p.g.length c6) := (blk_cell BP.out 6).trans rfl; have hcp7 : w1.cell? ⟨g1, 7, none⟩ = some (.slice A7 p.h.length c7) := (blk_cell BP.out 7).trans rfl; have hcp8 : w1.cell? ⟨g1, 8, none⟩ = some (.int .i64 p.i) := (blk_cell BP.out 8).trans rfl; clear hg hbox hb) | (go_at_call 8; (with_reducible refine (small_any HP.out.pr HS.out).mono ?_); rintro e w8 ⟨rfl, hb⟩; have n0_ := Aside0.mk (below_step HB.out hb); have n1_ := Aside0.mk (HP.out.below hb); have n2_ := Aside0.mk (blk_below BP.out hb); clear HB HP BP; have HB := n0_; have HP := n1_; have BP := n2_; clear n0_ n1_ n2_; clear hb hcp0 hcp1 hcp2 hcp3 hcp4 hcp5 hcp6 hcp7 hcp8; have hcp0 : w8.cell? ⟨g1, 0, none⟩ = some (.slice A0 p.a.length c0) := (blk_cell BP.out 0).trans rfl; have hcp1 : w8.cell? ⟨g1, 1, none⟩ = some (.slice A1 p.b.length c1) := (blk_cell BP.out 1).trans rfl; have hcp2 : w8.cell? ⟨g1, 2, none⟩ = some (.slice A2 p.c.length c2) := (blk_cell BP.out 2).trans rfl; have hcp3 : w8.cell? ⟨g1, 3, none⟩ = some (.int .i64 p.d) := (blk_cell BP.out 3).trans rfl; have hcp4 : w8.cell? ⟨g1, 4, none⟩ = some (.slice A4 p.e.length c4) := (blk_cell BP.out 4).trans rfl; have hcp5 : w8.cell? ⟨g1, 5, none⟩ = some (.slice A5 p.f.length c5) := (blk_cell BP.out 5).trans rfl; have hcp6 : w8.cell? ⟨g1, 6, none⟩ = some (.slice A6 p.g.length c6) := (blk_cell BP.out 6).trans rfl; have hcp7 : w8.cell? ⟨g1, 7, none⟩ = some (.slice A7 p.h.length c7) := (blk_cell BP.out 7).trans rfl; have hcp8 : w8.cell? ⟨g1, 8, none⟩ = some (.int .i64 p.i) := (blk_cell BP.out 8).trans rfl) | (go_at_call 10; (with_reducible refine (enc_e HE.out HP.out.pr).mono ?_); rintro e w13 ⟨⟨X3, x3, rfl, hk, hc⟩, hb⟩; have n0_ := Aside0.mk (below_step HB.out hb); have n1_ := Aside0.mk (HP.out.below hb); have n2_ := Aside0.mk (blk_below BP.out hb); clear HB HP BP; have HB := n0_; have HP := n1_; have BP := n2_; clear n0_ n1_ n2_; have HS1 := Aside0.mk hc; have HK1 := Aside0.mk hk; clear hb hc hk hcp0 hcp1 hcp2 hcp3 hcp4 hcp5 hcp6 hcp7 hcp8; have hcp0 : w13.cell? ⟨g1, 0, none⟩ = some (.slice A0 p.a.length c0) := (blk_cell BP.out 0).trans rfl; have hcp1 : w13.cell? ⟨g1, 1, none⟩ = some (.slice A1 p.b.length c1) := (blk_cell BP.out 1).trans rfl; have hcp2 : w13.cell? ⟨g1, 2, none⟩ = some (.slice A2 p.c.length c2) := (blk_cell BP.out 2).trans rfl; have hcp3 : w13.cell? ⟨g1, 3, none⟩ = some (.int .i64 p.d) := (blk_cell BP.out 3).trans rfl; have hcp4 : w13.cell? ⟨g1, 4, none⟩ = some (.slice A4 p.e.length c4) := (blk_cell BP.out 4).trans rfl; have hcp5 : w13.cell? ⟨g1, 5, none⟩ = some (.slice A5 p.f.length c5) := (blk_cell BP.out 5).trans rfl; have hcp6 : w13.cell? ⟨g1, 6, none⟩ = some (.slice A6 p.g.length c6) := (blk_cell BP.out 6).trans rfl; have hcp7 : w13.cell? ⟨g1, 7, none⟩ = some (.slice A7 p.h.length c7) := (blk_cell BP.out 7).trans rfl; have hcp8 : w13.cell? ⟨g1, 8, none⟩ = some (.int .i64 p.i) := (blk_cell BP.out 8).trans rfl) | (go_at_call 14; (with_reducible refine (dec_e HD.out rfl HY.out HS1.out HK1.out).mono ?_); rintro e w26 ⟨⟨G0, j0, G1, j1, G2, j2, G4, j4, G5, j5, G6, j6, G7, j7, rfl, hq⟩, hb⟩; have n0_ := Aside0.mk (below_step HB.out hb); have n1_ := Aside0.mk (HP.out.below hb); have n2_ := Aside0.mk (blk_below BP.out hb); have n3_ := Aside0.mk (Kd.C_below HS1.out hb); clear HB HP BP HS1; have HB := n0_; have HP := n1_; have BP := n2_; have HS1 := n3_; clear n0_ n1_ n2_ n3_; have HQ := Aside0.mk hq; clear hb hq) | ((with_reducible refine gate_dst (N := 5) rfl ?_); refine box_event ?hg (N := 5) ?hd (cs := #[.slice none 0 0, .slice none 0 0, .slice none 0 0, .int .i64 0, .slice none 0 0, .slice none 0 0, .slice none 0 0, .slice none 0 0, .int .i64 0]) (t := 29) ?hr ?_; (case hd => rfl); (case hg => rfl); (case hr => first | (go_simp; done) | (go_simp; rfl)); intro g5 hg w5 hbox hb; have n0_ := Aside0.mk (hb); have n1_ := Aside0.mk (hbox); have n2_ := Aside0.mk ((by rw [hg]; exact Nat.le_refl _ : w26.heap.size ≤ g5)); have HBQ := n0_; have BR := n1_; have GQ := n2_; clear n0_ n1_ n2_; have hcr0 : w5.cell? ⟨g5, 0, none⟩ = some (.slice none 0 0) := (blk_cell hbox 0).trans rfl; have hfr0 : w5.frozen? ⟨g5, 0, none⟩ = false := blk_frozen hbox 0; have hcr1 : w5.cell? ⟨g5, 1, none⟩ = some (.slice none 0 0) := (blk_cell hbox 1).trans rfl; have hfr1 : w5.frozen? ⟨g5, 1, none⟩ = false := blk_frozen hbox 1; have hcr2 : w5.cell? ⟨g5, 2, none⟩ = some (.slice none 0 0) := (blk_cell hbox 2).trans rfl; have hfr2 : w5.frozen? ⟨g5, 2, none⟩ = false := blk_frozen hbox 2; have hcr3 : w5.cell? ⟨g5, 3, none⟩ = some (.int .i64 0) := (blk_cell hbox 3).trans rfl; have hfr3 : w5.frozen? ⟨g5, 3, none⟩ = false := blk_frozen hbox 3; have hcr4 : w5.cell? ⟨g5, 4, none⟩ = some (.slice none 0 0) := (blk_cell hbox 4).trans rfl; have hfr4 : w5.frozen? ⟨g5, 4, none⟩ = false := blk_frozen hbox 4; have hcr5 : w5.cell? ⟨g5, 5, none⟩ = some (.slice none 0 0) := (blk_cell hbox 5).trans rfl; have hfr5 : w5.frozen? ⟨g5, 5, none⟩ = false := blk_frozen hbox 5; have hcr6 : w5.cell? ⟨g5, 6, none⟩ = some (.slice none 0 0) := (blk_cell hbox 6).trans rfl; have hfr6 : w5.frozen? ⟨g5, 6, none⟩ = false := blk_frozen hbox 6; have hcr7 : w5.cell? ⟨g5, 7, none⟩ = some (.slice none 0 0) := (blk_cell hbox 7).trans rfl; have hfr7 : w5.frozen? ⟨g5, 7, none⟩ = false := blk_frozen hbox 7; have hcr8 : w5.cell? ⟨g5, 8, none⟩ = some (.int .i64 0) := (blk_cell hbox 8).trans rfl; have hfr8 : w5.frozen? ⟨g5, 8, none⟩ = false := blk_frozen hbox 8; clear hg hbox hb))
  have b0_ := blk_put (cs' := #[.slice G0 q.a.length j0, .slice none 0 0, .slice none 0 0, .int .i64 0, .slice none 0 0, .slice none 0 0, .slice none 0 0, .slice none 0 0, .int .i64 0]) BR.out 0 (.slice G0 q.a.length j0) rfl
  have e0_ := below_set (j := 0) (v := .slice G0 q.a.length j0) HBQ.out GQ.out
  have b1_ := blk_put (cs' := #[.slice G0 q.a.length j0, .slice G1 q.b.length j1, .slice none 0 0, .int .i64 0, .slice none 0 0, .slice none 0 0, .slice none 0 0, .slice none 0 0, .int .i64 0]) b0_ 1 (.slice G1 q.b.length j1) rfl
  have e1_ := below_set (j := 1) (v := .slice G1 q.b.length j1) e0_ GQ.out
  have b2_ := blk_put (cs' := #[.slice G0 q.a.length j0, .slice G1 q.b.length j1, .slice G2 q.c.length j2, .int .i64 0, .slice none 0 0, .slice none 0 0, .slice none 0 0, .slice none 0 0, .int .i64 0]) b1_ 2 (.slice G2 q.c.length j2) rfl
  have e2_ := below_set (j := 2) (v := .slice G2 q.c.length j2) e1_ GQ.out
  have b3_ := blk_put (cs' := #[.slice G0 q.a.length j0, .slice G1 q.b.length j1, .slice G2 q.c.length j2, .int .i64 q.d, .slice none 0 0, .slice none 0 0, .slice none 0 0, .slice none 0 0, .int .i64 0]) b2_ 3 (.int .i64 q.d) rfl
  have e3_ := below_set (j := 3) (v := .int .i64 q.d) e2_ GQ.out
  have b4_ := blk_put (cs' := #[.slice G0 q.a.length j0, .slice G1 q.b.length j1, .slice G2 q.c.length j2, .int .i64 q.d, .slice G4 q.e.length j4, .slice none 0 0, .slice none 0 0, .slice none 0 0, .int .i64 0]) b3_ 4 (.slice G4 q.e.length j4) rfl
  have e4_ := below_set (j := 4) (v := .slice G4 q.e.length j4) e3_ GQ.out
  have b5_ := blk_put (cs' := #[.slice G0 q.a.length j0, .slice G1 q.b.length j1, .slice G2 q.c.length j2, .int .i64 q.d, .slice G4 q.e.length j4, .slice G5 q.f.length j5, .slice none 0 0, .slice none 0 0, .int .i64 0]) b4_ 5 (.slice G5 q.f.length j5) rfl
  have e5_ := below_set (j := 5) (v := .slice G5 q.f.length j5) e4_ GQ.out
  have b6_ := blk_put (cs' := #[.slice G0 q.a.length j0, .slice G1 q.b.length j1, .slice G2 q.c.length j2, .int .i64 q.d, .slice G4 q.e.length j4, .slice G5 q.f.length j5, .slice G6 q.g.length j6, .slice none 0 0, .int .i64 0]) b5_ 6 (.slice G6 q.g.length j6) rfl
  have e6_ := below_set (j := 6) (v := .slice G6 q.g.length j6) e5_ GQ.out
  have b7_ := blk_put (cs' := #[.slice G0 q.a.length j0, .slice G1 q.b.length j1, .slice G2 q.c.length j2, .int .i64 q.d, .slice G4 q.e.length j4, .slice G5 q.f.length j5, .slice G6 q.g.length j6, .slice G7 q.h.length j7, .int .i64 0]) b6_ 7 (.slice G7 q.h.length j7) rfl
  have e7_ := below_set (j := 7) (v := .slice G7 q.h.length j7) e6_ GQ.out
  have b8_ := blk_put (cs' := #[.slice G0 q.a.length j0, .slice G1 q.b.length j1, .slice G2 q.c.length j2, .int .i64 q.d, .slice G4 q.e.length j4, .slice G5 q.f.length j5, .slice G6 q.g.length j6, .slice G7 q.h.length j7, .int .i64 q.i]) b7_ 8 (.int .i64 q.i) rfl
  have e8_ := below_set (j := 8) (v := .int .i64 q.i) e7_ GQ.out
  have n0_ := Aside0.mk (HP.out.below e8_)
  have n1_ := Aside0.mk (blk_below BP.out e8_)
  have n2_ := Aside0.mk (below_step HB.out e8_)
  have n3_ := Aside0.mk (HQ.out.below e8_)
  have n4_ := Aside0.mk (b8_)
  clear b0_ e0_ b1_ e1_ b2_ e2_ b3_ e3_ b4_ e4_ b5_ e5_ b6_ e6_ b7_ e7_ b8_ e8_ hcr0 hfr0 hcr1 hfr1 hcr2 hfr2 hcr3 hfr3 hcr4 hfr4 hcr5 hfr5 hcr6 hfr6 hcr7 hfr7 hcr8 hfr8 HBQ GQ BR HP BP HB HQ 
  generalize (((((((((w5.setCell { block := g5, off := 0 } (.slice G0 q.a.length j0)).setCell { block := g5, off := 1 } (.slice G1 q.b.length j1)).setCell { block := g5, off := 2 } (.slice G2 q.c.length j2)).setCell { block := g5, off := 3 } (.int .i64 q.d)).setCell { block := g5, off := 4 } (.slice G4 q.e.length j4)).setCell { block := g5, off := 5 } (.slice G5 q.f.length j5)).setCell { block := g5, off := 6 } (.slice G6 q.g.length j6)).setCell { block := g5, off := 7 } (.slice G7 q.h.length j7)).setCell { block := g5, off := 8 } (.int .i64 q.i)) = W5 at n0_ n1_ n2_ n3_ n4_ ⊢
  have HP := n0_
  have BP := n1_
  have HB := n2_
  have HQ := n3_
  have BQ := n4_
  clear n0_ n1_ n2_ n3_ n4_
  have hcp0 : W5.cell? ⟨g1, 0, none⟩ = some (.slice A0 p.a.length c0) := (blk_cell BP.out 0).trans rfl
  have hcp1 : W5.cell? ⟨g1, 1, none⟩ = some (.slice A1 p.b.length c1) := (blk_cell BP.out 1).trans rfl
  have hcp2 : W5.cell? ⟨g1, 2, none⟩ = some (.slice A2 p.c.length c2) := (blk_cell BP.out 2).trans rfl
  have hcp3 : W5.cell? ⟨g1, 3, none⟩ = some (.int .i64 p.d) := (blk_cell BP.out 3).trans rfl
  have hcp4 : W5.cell? ⟨g1, 4, none⟩ = some (.slice A4 p.e.length c4) := (blk_cell BP.out 4).trans rfl
  have hcp5 : W5.cell? ⟨g1, 5, none⟩ = some (.slice A5 p.f.length c5) := (blk_cell BP.out 5).trans rfl
  have hcp6 : W5.cell? ⟨g1, 6, none⟩ = some (.slice A6 p.g.length c6) := (blk_cell BP.out 6).trans rfl
  have hcp7 : W5.cell? ⟨g1, 7, none⟩ = some (.slice A7 p.h.length c7) := (blk_cell BP.out 7).trans rfl
  have hcp8 : W5.cell? ⟨g1, 8, none⟩ = some (.int .i64 p.i) := (blk_cell BP.out 8).trans rfl
  have hcq0 : W5.cell? ⟨g5, 0, none⟩ = some (.slice G0 q.a.length j0) := (blk_cell BQ.out 0).trans rfl
  have hcq1 : W5.cell? ⟨g5, 1, none⟩ = some (.slice G1 q.b.length j1) := (blk_cell BQ.out 1).trans rfl
  have hcq2 : W5.cell? ⟨g5, 2, none⟩ = some (.slice G2 q.c.length j2) := (blk_cell BQ.out 2).trans rfl
  have hcq3 : W5.cell? ⟨g5, 3, none⟩ = some (.int .i64 q.d) := (blk_cell BQ.out 3).trans rfl
  have hcq4 : W5.cell? ⟨g5, 4, none⟩ = some (.slice G4 q.e.length j4) := (blk_cell BQ.out 4).trans rfl
  have hcq5 : W5.cell? ⟨g5, 5, none⟩ = some (.slice G5 q.f.length j5) := (blk_cell BQ.out 5).trans rfl
  have hcq6 : W5.cell? ⟨g5, 6, none⟩ = some (.slice G6 q.g.length j6) := (blk_cell BQ.out 6).trans rfl
  have hcq7 : W5.cell? ⟨g5, 7, none⟩ = some (.slice G7 q.h.length j7) := (blk_cell BQ.out 7).trans rfl
  have hcq8 : W5.cell? ⟨g5, 8, none⟩ = some (.int .i64 q.i) := (blk_cell BQ.out 8).trans rfl
  go_wp2_with (first | (go_at_call 15; (with_reducible refine (rsame_any HEQ.out.iff HP.out.pr HQ.out.pr).mono ?_); rintro e w34 ⟨rfl, hb⟩; have n0_ := Aside0.mk (below_step HB.out hb); have n1_ := Aside0.mk (HP.out.below hb); have n2_ := Aside0.mk (blk_below BP.out hb); have n3_ := Aside0.mk (HQ.out.below hb); have n4_ := Aside0.mk (blk_below BQ.out hb); clear HB HP BP HQ BQ; have HB := n0_; have HP := n1_; have BP := n2_; have HQ := n3_; have BQ := n4_; clear n0_ n1_ n2_ n3_ n4_; clear hb hcp0 hcp1 hcp2 hcp3 hcp4 hcp5 hcp6 hcp7 hcp8 hcq0 hcq1 hcq2 hcq3 hcq4 hcq5 hcq6 hcq7 hcq8; have hcp0 : w34.cell? ⟨g1, 0, none⟩ = some (.slice A0 p.a.length c0) := (blk_cell BP.out 0).trans rfl; have hcp1 : w34.cell? ⟨g1, 1, none⟩ = some (.slice A1 p.b.length c1) := (blk_cell BP.out 1).trans rfl; have hcp2 : w34.cell? ⟨g1, 2, none⟩ = some (.slice A2 p.c.length c2) := (blk_cell BP.out 2).trans rfl; have hcp3 : w34.cell? ⟨g1, 3, none⟩ = some (.int .i64 p.d) := (blk_cell BP.out 3).trans rfl; have hcp4 : w34.cell? ⟨g1, 4, none⟩ = some (.slice A4 p.e.length c4) := (blk_cell BP.out 4).trans rfl; have hcp5 : w34.cell? ⟨g1, 5, none⟩ = some (.slice A5 p.f.length c5) := (blk_cell BP.out 5).trans rfl; have hcp6 : w34.cell? ⟨g1, 6, none⟩ = some (.slice A6 p.g.length c6) := (blk_cell BP.out 6).trans rfl; have hcp7 : w34.cell? ⟨g1, 7, none⟩ = some (.slice A7 p.h.length c7) := (blk_cell BP.out 7).trans rfl; have hcp8 : w34.cell? ⟨g1, 8, none⟩ = some (.int .i64 p.i) := (blk_cell BP.out 8).trans rfl; have hcq0 : w34.cell? ⟨g5, 0, none⟩ = some (.slice G0 q.a.length j0) := (blk_cell BQ.out 0).trans rfl; have hcq1 : w34.cell? ⟨g5, 1, none⟩ = some (.slice G1 q.b.length j1) := (blk_cell BQ.out 1).trans rfl; have hcq2 : w34.cell? ⟨g5, 2, none⟩ = some (.slice G2 q.c.length j2) := (blk_cell BQ.out 2).trans rfl; have hcq3 : w34.cell? ⟨g5, 3, none⟩ = some (.int .i64 q.d) := (blk_cell BQ.out 3).trans rfl; have hcq4 : w34.cell? ⟨g5, 4, none⟩ = some (.slice G4 q.e.length j4) := (blk_cell BQ.out 4).trans rfl; have hcq5 : w34.cell? ⟨g5, 5, none⟩ = some (.slice G5 q.f.length j5) := (blk_cell BQ.out 5).trans rfl; have hcq6 : w34.cell? ⟨g5, 6, none⟩ = some (.slice G6 q.g.length j6) := (blk_cell BQ.out 6).trans rfl; have hcq7 : w34.cell? ⟨g5, 7, none⟩ = some (.slice G7 q.h.length j7) := (blk_cell BQ.out 7).trans rfl; have hcq8 : w34.cell? ⟨g5, 8, none⟩ = some (.int .i64 q.i) := (blk_cell BQ.out 8).trans rfl) | (go_at_call 16; (with_reducible refine (csame_any HEQ.out.iff HP.out.pr HQ.out.pr).mono ?_); rintro e w39 ⟨rfl, hb⟩; have n0_ := Aside0.mk (below_step HB.out hb); clear HB; have HB := n0_; clear n0_; clear hb) | (go_at_call 9; (with_reducible refine (awake6_any _).mono ?_); rintro e w9 ⟨rfl, hb⟩; have n0_ := Aside0.mk (below_step HB.out hb); clear HB; have HB := n0_; clear n0_; clear hb))
  go_ret
  exact ⟨rfl, HB.out⟩
theorem back_any {w : World} {v : Value} {p : Pg} (h : PR w v p) (hw : p.Wf) : Calls Try.prog 4 #[v] w fun e w' => e = .returned (.bool true) ∧ Below w.heap.size w w' := by
  obtain ⟨r, hr⟩ : ∃ r, Ev (fun k => signalboxmake_Small.f k p.a p.b p.c p.d p.e p.f p.g p.h p.i 12000) r := by
    obtain ⟨A0, c0, A1, c1, A2, c2, A4, c4, A5, c5, A6, c6, A7, c7, _, hx⟩ := h
    exact small_ev p 12000 hx.g.2.2.1
  cases r with
  | false => exact back_small h hr
  | true =>
    cases hm : p.may with
    | false => exact back_refused h hr (by unfold encP; rw [if_neg (by rw [hm]; decide)]) hm
    | true => exact back_long h hr (by unfold encP; rw [if_pos hm]) (encB_byt p) (dec_enc hw (Pg.may_ok.1 hm)) ⟨fun _ => rfl, fun _ => rfl⟩

end Go.Proofs.Ytdgaklldijkoaaa.PCode
