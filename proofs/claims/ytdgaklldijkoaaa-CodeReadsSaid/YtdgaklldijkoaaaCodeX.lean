import Derived.Test.YtdgaklldijkoaaaPCodex0
import Derived.Test.YtdgaklldijkoaaaCodeY
import Derived.Test.YtdgaklldijkoaaaCodeU
import Derived.BigQuiet
import Derived.IntWalk
import Derived.WalkMore
import Derived.Laws.EntriesVeiled
import Derived.StillTailTactics
import Derived.Laws.BitsAllLaws
import Derived.Laws.BitsLemmas
import Derived.Laws.Strings
namespace Go.Proofs.Ytdgaklldijkoaaa.PCode
open Go.RowKit Go.Proofs.YtdgaklldijkoaaaW.PrintWords Go.Proofs.YtdgaklldijkoaaaW.PrintLast Go.Proofs.YtdgaklldijkoaaaW.PrintMore
attribute [local go_sem] max2_int min2_int max_two min_two max_three min_three max_four min_four
set_option linter.unusedVariables false
set_option linter.unusedSimpArgs false
theorem dec_e {w : World} {A : Option Addr} {c n : Nat} {l : List Int} {q : Pg} {f : Int} (he : dec l = (q, f)) (hn : n = l.length) (hy : Byt l) (hC : Kd.C (Kd.int .u8) w A l.length l) (hc : l.length ≤ c) :
    Calls Try.prog 14 #[.slice A n c] w fun e w' => (∃ B0 d0 B1 d1 B2 d2 B4 d4 B5 d5 B6 d6 B7 d7, e = .returned (.tuple #[.agg #[.slice B0 q.a.length d0, .slice B1 q.b.length d1, .slice B2 q.c.length d2, .int .i64 q.d, .slice B4 q.e.length d4, .slice B5 q.f.length d5, .slice B6 q.g.length d6, .slice B7 q.h.length d7, .int .i64 q.i], .int .i64 f]) ∧ PX w' B0 d0 B1 d1 B2 d2 B4 d4 B5 d5 B6 d6 B7 d7 q) ∧ Below w.heap.size w w' := by
  have H := decode_any hn hy hC hc
  rw [he] at H
  exact H.mono fun e w' ⟨v, k1, ⟨B0, d0, B1, d1, B2, d2, B4, d4, B5, d5, B6, d6, B7, d7, k2, k3⟩, k4⟩ => ⟨⟨B0, d0, B1, d1, B2, d2, B4, d4, B5, d5, B6, d6, B7, d7, by rw [k1, k2], k3⟩, k4⟩
set_option maxHeartbeats 16000000 in
set_option maxRecDepth 100000 in
theorem reads_long {w : World} {A : Option Addr} {c : Nat} {l : List Int} (hC : Kd.C (Kd.int .u8) w A l.length l) (hc : l.length ≤ c) (hy : Byt l) (hl : 3000 < l.length) : Calls Try.prog 5 #[.slice A l.length c] w fun e w' => e = .returned (.bool true) ∧ Below w.heap.size w w' := by
  have HB := Aside0.mk (Below.refl w.heap.size w)
  have hb1 : decide ((l.length : Int) > 3000) = true := decide_eq_true (by omega)
  have hb2 : decide ((3000 : Int) < (l.length : Int)) = true := decide_eq_true (by omega)
  have hb3 : decide (3000 < l.length) = true := decide_eq_true (by omega)
  clear hl
  go_enter Try.func5, Try.ntmps5
  go_wp2_with (first | (go_at_call 9; (with_reducible refine (awake6_any _).mono ?_); rintro e w9 ⟨rfl, hb⟩; have n0_ := Aside0.mk (below_step HB.out hb); clear HB; have HB := n0_; clear n0_; clear hb))
  go_ret
  exact ⟨rfl, HB.out⟩
set_option maxHeartbeats 16000000 in
set_option maxRecDepth 100000 in
theorem reads_short {w : World} {A : Option Addr} {c : Nat} {l : List Int} (hC : Kd.C (Kd.int .u8) w A l.length l) (hc : l.length ≤ c) (hy : Byt l) (hl : l.length ≤ 3000) : Calls Try.prog 5 #[.slice A l.length c] w fun e w' => e = .returned (.bool true) ∧ Below w.heap.size w w' := by
  obtain ⟨q, f, he⟩ : ∃ q f, dec l = (q, f) := ⟨_, _, rfl⟩
  have hb1 : decide ((l.length : Int) > 3000) = false := decide_eq_false (by omega)
  have hb2 : decide ((3000 : Int) < (l.length : Int)) = false := decide_eq_false (by omega)
  have hb3 : decide (3000 < l.length) = false := decide_eq_false (by omega)
  have HB := Aside0.mk (Below.refl w.heap.size w)
  have HS := Aside0.mk hC
  have HC := Aside0.mk hc
  have HY := Aside0.mk hy
  have HL := Aside0.mk hl
  have HD := Aside0.mk he
  clear hC hc hy hl he
  go_enter Try.func5, Try.ntmps5
  go_upto_region 4 with (first | (go_at_call 14; (with_reducible refine (dec_e HD.out rfl HY.out HS.out HC.out).mono ?_); rintro e w13 ⟨⟨G0, j0, G1, j1, G2, j2, G4, j4, G5, j5, G6, j6, G7, j7, rfl, hq⟩, hb⟩; have n0_ := Aside0.mk (below_step HB.out hb); have n1_ := Aside0.mk (Kd.C_below HS.out hb); clear HB HS; have HB := n0_; have HS := n1_; clear n0_ n1_; have HP := Aside0.mk hq; clear hb hq) | ((with_reducible refine gate_dst (N := 3) rfl ?_); refine box_event ?hg (N := 3) ?hd (cs := #[.slice none 0 0, .slice none 0 0, .slice none 0 0, .int .i64 0, .slice none 0 0, .slice none 0 0, .slice none 0 0, .slice none 0 0, .int .i64 0]) (t := 29) ?hr ?_; (case hd => rfl); (case hg => rfl); (case hr => first | (go_simp; done) | (go_simp; rfl)); intro g3 hg w3 hbox hb; have n0_ := Aside0.mk (hb); have n1_ := Aside0.mk (hbox); have n2_ := Aside0.mk ((by rw [hg]; exact Nat.le_refl _ : w13.heap.size ≤ g3)); have HBQ := n0_; have BR := n1_; have GQ := n2_; clear n0_ n1_ n2_; have hcr0 : w3.cell? ⟨g3, 0, none⟩ = some (.slice none 0 0) := (blk_cell hbox 0).trans rfl; have hfr0 : w3.frozen? ⟨g3, 0, none⟩ = false := blk_frozen hbox 0; have hcr1 : w3.cell? ⟨g3, 1, none⟩ = some (.slice none 0 0) := (blk_cell hbox 1).trans rfl; have hfr1 : w3.frozen? ⟨g3, 1, none⟩ = false := blk_frozen hbox 1; have hcr2 : w3.cell? ⟨g3, 2, none⟩ = some (.slice none 0 0) := (blk_cell hbox 2).trans rfl; have hfr2 : w3.frozen? ⟨g3, 2, none⟩ = false := blk_frozen hbox 2; have hcr3 : w3.cell? ⟨g3, 3, none⟩ = some (.int .i64 0) := (blk_cell hbox 3).trans rfl; have hfr3 : w3.frozen? ⟨g3, 3, none⟩ = false := blk_frozen hbox 3; have hcr4 : w3.cell? ⟨g3, 4, none⟩ = some (.slice none 0 0) := (blk_cell hbox 4).trans rfl; have hfr4 : w3.frozen? ⟨g3, 4, none⟩ = false := blk_frozen hbox 4; have hcr5 : w3.cell? ⟨g3, 5, none⟩ = some (.slice none 0 0) := (blk_cell hbox 5).trans rfl; have hfr5 : w3.frozen? ⟨g3, 5, none⟩ = false := blk_frozen hbox 5; have hcr6 : w3.cell? ⟨g3, 6, none⟩ = some (.slice none 0 0) := (blk_cell hbox 6).trans rfl; have hfr6 : w3.frozen? ⟨g3, 6, none⟩ = false := blk_frozen hbox 6; have hcr7 : w3.cell? ⟨g3, 7, none⟩ = some (.slice none 0 0) := (blk_cell hbox 7).trans rfl; have hfr7 : w3.frozen? ⟨g3, 7, none⟩ = false := blk_frozen hbox 7; have hcr8 : w3.cell? ⟨g3, 8, none⟩ = some (.int .i64 0) := (blk_cell hbox 8).trans rfl; have hfr8 : w3.frozen? ⟨g3, 8, none⟩ = false := blk_frozen hbox 8; clear hg hbox hb))
  clear hb1 hb2 hb3
  have b0_ := blk_put (cs' := #[.slice G0 q.a.length j0, .slice none 0 0, .slice none 0 0, .int .i64 0, .slice none 0 0, .slice none 0 0, .slice none 0 0, .slice none 0 0, .int .i64 0]) BR.out 0 (.slice G0 q.a.length j0) rfl
  have e0_ := below_set (j := 0) (v := .slice G0 q.a.length j0) HBQ.out GQ.out
  have b1_ := blk_put (cs' := #[.slice G0 q.a.length j0, .slice G1 q.b.length j1, .slice none 0 0, .int .i64 0, .slice none 0 0, .slice none 0 0, .slice none 0 0, .slice none 0 0, .int .i64 0]) b0_ 1 (.slice G1 q.b.length j1) rfl
  have e1_ := below_set (j := 1) (v := .slice G1 q.b.length j1) e0_ GQ.out
  have b2_ := blk_put (cs' := #[.slice G0 q.a.length j0, .slice G1 q.b.length j1, .slice G2 q.c.length j2, .int .i64 0, .slice none 0 0, .slice none 0 0, .slice none 0 0, .slice none 0 0, .int .i64 0]) b1_ 2 (.slice G2 q.c.length j2) rfl
  have e2_ := below_set (j := 2) (v := .slice G2 q.c.length j2) e1_ GQ.out
  have b3_ := blk_put (cs' := #[.slice G0 q.a.length j0, .slice G1 q.b.length j1, .slice G2 q.c.length j2, .int .i64 q.d, .slice none 0 0, .slice none 0 0, .slice none 0 0, .slice none 0 0, .int .i64 0]) b2_ 3 (.int .i64 q.d) rfl
  have e3_ := below_set (j := 3) (v := .int .i64 q.d) e2_ GQ.out
  have b4_ := blk_put (cs' := #[.slice G0 q.a.length j0, .slice G1 q.b.length j1, .slice G2 q.c.length j2, .int .i64 q.d, .slice G4 q.e.length j4, .slice none 0 0, .slice none 0 0, .slice none 0 0, .int .i64 0]) b3_ 4 (.slice G4 q.e.length j4) rfl
  have e4_ := below_set (j := 4) (v := .slice G4 q.e.length j4) e3_ GQ.out
  have b5_ := blk_put (cs' := #[.slice G0 q.a.length j0, .slice G1 q.b.length j1, .slice G2 q.c.length j2, .int .i64 q.d, .slice G4 q.e.length j4, .slice G5 q.f.length j5, .slice none 0 0, .slice none 0 0, .int .i64 0]) b4_ 5 (.slice G5 q.f.length j5) rfl
  have e5_ := below_set (j := 5) (v := .slice G5 q.f.length j5) e4_ GQ.out
  have b6_ := blk_put (cs' := #[.slice G0 q.a.length j0, .slice G1 q.b.length j1, .slice G2 q.c.length j2, .int .i64 q.d, .slice G4 q.e.length j4, .slice G5 q.f.length j5, .slice G6 q.g.length j6, .slice none 0 0, .int .i64 0]) b5_ 6 (.slice G6 q.g.length j6) rfl
  have e6_ := below_set (j := 6) (v := .slice G6 q.g.length j6) e5_ GQ.out
  have b7_ := blk_put (cs' := #[.slice G0 q.a.length j0, .slice G1 q.b.length j1, .slice G2 q.c.length j2, .int .i64 q.d, .slice G4 q.e.length j4, .slice G5 q.f.length j5, .slice G6 q.g.length j6, .slice G7 q.h.length j7, .int .i64 0]) b6_ 7 (.slice G7 q.h.length j7) rfl
  have e7_ := below_set (j := 7) (v := .slice G7 q.h.length j7) e6_ GQ.out
  have b8_ := blk_put (cs' := #[.slice G0 q.a.length j0, .slice G1 q.b.length j1, .slice G2 q.c.length j2, .int .i64 q.d, .slice G4 q.e.length j4, .slice G5 q.f.length j5, .slice G6 q.g.length j6, .slice G7 q.h.length j7, .int .i64 q.i]) b7_ 8 (.int .i64 q.i) rfl
  have e8_ := below_set (j := 8) (v := .int .i64 q.i) e7_ GQ.out
  have n0_ := Aside0.mk (below_step HB.out e8_)
  have n1_ := Aside0.mk (Kd.C_below HS.out e8_)
  have n2_ := Aside0.mk (HP.out.below e8_)
  have n3_ := Aside0.mk (b8_)
  clear b0_ e0_ b1_ e1_ b2_ e2_ b3_ e3_ b4_ e4_ b5_ e5_ b6_ e6_ b7_ e7_ b8_ e8_ hcr0 hfr0 hcr1 hfr1 hcr2 hfr2 hcr3 hfr3 hcr4 hfr4 hcr5 hfr5 hcr6 hfr6 hcr7 hfr7 hcr8 hfr8 HBQ GQ BR HB HS HP 
  generalize (((((((((w3.setCell { block := g3, off := 0 } (.slice G0 q.a.length j0)).setCell { block := g3, off := 1 } (.slice G1 q.b.length j1)).setCell { block := g3, off := 2 } (.slice G2 q.c.length j2)).setCell { block := g3, off := 3 } (.int .i64 q.d)).setCell { block := g3, off := 4 } (.slice G4 q.e.length j4)).setCell { block := g3, off := 5 } (.slice G5 q.f.length j5)).setCell { block := g3, off := 6 } (.slice G6 q.g.length j6)).setCell { block := g3, off := 7 } (.slice G7 q.h.length j7)).setCell { block := g3, off := 8 } (.int .i64 q.i)) = W3 at n0_ n1_ n2_ n3_ ⊢
  have HB := n0_
  have HS := n1_
  have HP := n2_
  have BP := n3_
  clear n0_ n1_ n2_ n3_
  go_upto_region 5 with (first | (go_at_call 17; (with_reducible refine (rdec_e HD.out HY.out HL.out HS.out HC.out).mono ?_); rintro e w18 ⟨⟨M0, m0, M1, m1, M2, m2, M4, m4, M5, m5, M6, m6, M7, m7, rfl, hq⟩, hb⟩; have n0_ := Aside0.mk (below_step HB.out hb); have n1_ := Aside0.mk (HP.out.below hb); have n2_ := Aside0.mk (blk_below BP.out hb); clear HB HP BP; have HB := n0_; have HP := n1_; have BP := n2_; clear n0_ n1_ n2_; have HQ := Aside0.mk hq; clear hb hq) | ((with_reducible refine gate_dst (N := 5) rfl ?_); refine box_event ?hg (N := 5) ?hd (cs := #[.slice none 0 0, .slice none 0 0, .slice none 0 0, .int .i64 0, .slice none 0 0, .slice none 0 0, .slice none 0 0, .slice none 0 0, .int .i64 0]) (t := 29) ?hr ?_; (case hd => rfl); (case hg => rfl); (case hr => first | (go_simp; done) | (go_simp; rfl)); intro g5 hg w5 hbox hb; have n0_ := Aside0.mk (hb); have n1_ := Aside0.mk (hbox); have n2_ := Aside0.mk ((by rw [hg]; exact Nat.le_refl _ : w18.heap.size ≤ g5)); have HBQ := n0_; have BR := n1_; have GQ := n2_; clear n0_ n1_ n2_; have hcr0 : w5.cell? ⟨g5, 0, none⟩ = some (.slice none 0 0) := (blk_cell hbox 0).trans rfl; have hfr0 : w5.frozen? ⟨g5, 0, none⟩ = false := blk_frozen hbox 0; have hcr1 : w5.cell? ⟨g5, 1, none⟩ = some (.slice none 0 0) := (blk_cell hbox 1).trans rfl; have hfr1 : w5.frozen? ⟨g5, 1, none⟩ = false := blk_frozen hbox 1; have hcr2 : w5.cell? ⟨g5, 2, none⟩ = some (.slice none 0 0) := (blk_cell hbox 2).trans rfl; have hfr2 : w5.frozen? ⟨g5, 2, none⟩ = false := blk_frozen hbox 2; have hcr3 : w5.cell? ⟨g5, 3, none⟩ = some (.int .i64 0) := (blk_cell hbox 3).trans rfl; have hfr3 : w5.frozen? ⟨g5, 3, none⟩ = false := blk_frozen hbox 3; have hcr4 : w5.cell? ⟨g5, 4, none⟩ = some (.slice none 0 0) := (blk_cell hbox 4).trans rfl; have hfr4 : w5.frozen? ⟨g5, 4, none⟩ = false := blk_frozen hbox 4; have hcr5 : w5.cell? ⟨g5, 5, none⟩ = some (.slice none 0 0) := (blk_cell hbox 5).trans rfl; have hfr5 : w5.frozen? ⟨g5, 5, none⟩ = false := blk_frozen hbox 5; have hcr6 : w5.cell? ⟨g5, 6, none⟩ = some (.slice none 0 0) := (blk_cell hbox 6).trans rfl; have hfr6 : w5.frozen? ⟨g5, 6, none⟩ = false := blk_frozen hbox 6; have hcr7 : w5.cell? ⟨g5, 7, none⟩ = some (.slice none 0 0) := (blk_cell hbox 7).trans rfl; have hfr7 : w5.frozen? ⟨g5, 7, none⟩ = false := blk_frozen hbox 7; have hcr8 : w5.cell? ⟨g5, 8, none⟩ = some (.int .i64 0) := (blk_cell hbox 8).trans rfl; have hfr8 : w5.frozen? ⟨g5, 8, none⟩ = false := blk_frozen hbox 8; clear hg hbox hb))
  have b0_ := blk_put (cs' := #[.slice M0 q.a.length m0, .slice none 0 0, .slice none 0 0, .int .i64 0, .slice none 0 0, .slice none 0 0, .slice none 0 0, .slice none 0 0, .int .i64 0]) BR.out 0 (.slice M0 q.a.length m0) rfl
  have e0_ := below_set (j := 0) (v := .slice M0 q.a.length m0) HBQ.out GQ.out
  have b1_ := blk_put (cs' := #[.slice M0 q.a.length m0, .slice M1 q.b.length m1, .slice none 0 0, .int .i64 0, .slice none 0 0, .slice none 0 0, .slice none 0 0, .slice none 0 0, .int .i64 0]) b0_ 1 (.slice M1 q.b.length m1) rfl
  have e1_ := below_set (j := 1) (v := .slice M1 q.b.length m1) e0_ GQ.out
  have b2_ := blk_put (cs' := #[.slice M0 q.a.length m0, .slice M1 q.b.length m1, .slice M2 q.c.length m2, .int .i64 0, .slice none 0 0, .slice none 0 0, .slice none 0 0, .slice none 0 0, .int .i64 0]) b1_ 2 (.slice M2 q.c.length m2) rfl
  have e2_ := below_set (j := 2) (v := .slice M2 q.c.length m2) e1_ GQ.out
  have b3_ := blk_put (cs' := #[.slice M0 q.a.length m0, .slice M1 q.b.length m1, .slice M2 q.c.length m2, .int .i64 q.d, .slice none 0 0, .slice none 0 0, .slice none 0 0, .slice none 0 0, .int .i64 0]) b2_ 3 (.int .i64 q.d) rfl
  have e3_ := below_set (j := 3) (v := .int .i64 q.d) e2_ GQ.out
  have b4_ := blk_put (cs' := #[.slice M0 q.a.length m0, .slice M1 q.b.length m1, .slice M2 q.c.length m2, .int .i64 q.d, .slice M4 q.e.length m4, .slice none 0 0, .slice none 0 0, .slice none 0 0, .int .i64 0]) b3_ 4 (.slice M4 q.e.length m4) rfl
  have e4_ := below_set (j := 4) (v := .slice M4 q.e.length m4) e3_ GQ.out
  have b5_ := blk_put (cs' := #[.slice M0 q.a.length m0, .slice M1 q.b.length m1, .slice M2 q.c.length m2, .int .i64 q.d, .slice M4 q.e.length m4, .slice M5 q.f.length m5, .slice none 0 0, .slice none 0 0, .int .i64 0]) b4_ 5 (.slice M5 q.f.length m5) rfl
  have e5_ := below_set (j := 5) (v := .slice M5 q.f.length m5) e4_ GQ.out
  have b6_ := blk_put (cs' := #[.slice M0 q.a.length m0, .slice M1 q.b.length m1, .slice M2 q.c.length m2, .int .i64 q.d, .slice M4 q.e.length m4, .slice M5 q.f.length m5, .slice M6 q.g.length m6, .slice none 0 0, .int .i64 0]) b5_ 6 (.slice M6 q.g.length m6) rfl
  have e6_ := below_set (j := 6) (v := .slice M6 q.g.length m6) e5_ GQ.out
  have b7_ := blk_put (cs' := #[.slice M0 q.a.length m0, .slice M1 q.b.length m1, .slice M2 q.c.length m2, .int .i64 q.d, .slice M4 q.e.length m4, .slice M5 q.f.length m5, .slice M6 q.g.length m6, .slice M7 q.h.length m7, .int .i64 0]) b6_ 7 (.slice M7 q.h.length m7) rfl
  have e7_ := below_set (j := 7) (v := .slice M7 q.h.length m7) e6_ GQ.out
  have b8_ := blk_put (cs' := #[.slice M0 q.a.length m0, .slice M1 q.b.length m1, .slice M2 q.c.length m2, .int .i64 q.d, .slice M4 q.e.length m4, .slice M5 q.f.length m5, .slice M6 q.g.length m6, .slice M7 q.h.length m7, .int .i64 q.i]) b7_ 8 (.int .i64 q.i) rfl
  have e8_ := below_set (j := 8) (v := .int .i64 q.i) e7_ GQ.out
  have n0_ := Aside0.mk (below_step HB.out e8_)
  have n1_ := Aside0.mk (HP.out.below e8_)
  have n2_ := Aside0.mk (blk_below BP.out e8_)
  have n3_ := Aside0.mk (HQ.out.below e8_)
  have n4_ := Aside0.mk (b8_)
  clear b0_ e0_ b1_ e1_ b2_ e2_ b3_ e3_ b4_ e4_ b5_ e5_ b6_ e6_ b7_ e7_ b8_ e8_ hcr0 hfr0 hcr1 hfr1 hcr2 hfr2 hcr3 hfr3 hcr4 hfr4 hcr5 hfr5 hcr6 hfr6 hcr7 hfr7 hcr8 hfr8 HBQ GQ BR HB HP BP HQ 
  generalize (((((((((w5.setCell { block := g5, off := 0 } (.slice M0 q.a.length m0)).setCell { block := g5, off := 1 } (.slice M1 q.b.length m1)).setCell { block := g5, off := 2 } (.slice M2 q.c.length m2)).setCell { block := g5, off := 3 } (.int .i64 q.d)).setCell { block := g5, off := 4 } (.slice M4 q.e.length m4)).setCell { block := g5, off := 5 } (.slice M5 q.f.length m5)).setCell { block := g5, off := 6 } (.slice M6 q.g.length m6)).setCell { block := g5, off := 7 } (.slice M7 q.h.length m7)).setCell { block := g5, off := 8 } (.int .i64 q.i)) = W5 at n0_ n1_ n2_ n3_ n4_ ⊢
  have HB := n0_
  have HP := n1_
  have BP := n2_
  have HQ := n3_
  have BQ := n4_
  clear n0_ n1_ n2_ n3_ n4_
  have hcp0 : W5.cell? ⟨g3, 0, none⟩ = some (.slice G0 q.a.length j0) := (blk_cell BP.out 0).trans rfl
  have hcp1 : W5.cell? ⟨g3, 1, none⟩ = some (.slice G1 q.b.length j1) := (blk_cell BP.out 1).trans rfl
  have hcp2 : W5.cell? ⟨g3, 2, none⟩ = some (.slice G2 q.c.length j2) := (blk_cell BP.out 2).trans rfl
  have hcp3 : W5.cell? ⟨g3, 3, none⟩ = some (.int .i64 q.d) := (blk_cell BP.out 3).trans rfl
  have hcp4 : W5.cell? ⟨g3, 4, none⟩ = some (.slice G4 q.e.length j4) := (blk_cell BP.out 4).trans rfl
  have hcp5 : W5.cell? ⟨g3, 5, none⟩ = some (.slice G5 q.f.length j5) := (blk_cell BP.out 5).trans rfl
  have hcp6 : W5.cell? ⟨g3, 6, none⟩ = some (.slice G6 q.g.length j6) := (blk_cell BP.out 6).trans rfl
  have hcp7 : W5.cell? ⟨g3, 7, none⟩ = some (.slice G7 q.h.length j7) := (blk_cell BP.out 7).trans rfl
  have hcp8 : W5.cell? ⟨g3, 8, none⟩ = some (.int .i64 q.i) := (blk_cell BP.out 8).trans rfl
  have hcq0 : W5.cell? ⟨g5, 0, none⟩ = some (.slice M0 q.a.length m0) := (blk_cell BQ.out 0).trans rfl
  have hcq1 : W5.cell? ⟨g5, 1, none⟩ = some (.slice M1 q.b.length m1) := (blk_cell BQ.out 1).trans rfl
  have hcq2 : W5.cell? ⟨g5, 2, none⟩ = some (.slice M2 q.c.length m2) := (blk_cell BQ.out 2).trans rfl
  have hcq3 : W5.cell? ⟨g5, 3, none⟩ = some (.int .i64 q.d) := (blk_cell BQ.out 3).trans rfl
  have hcq4 : W5.cell? ⟨g5, 4, none⟩ = some (.slice M4 q.e.length m4) := (blk_cell BQ.out 4).trans rfl
  have hcq5 : W5.cell? ⟨g5, 5, none⟩ = some (.slice M5 q.f.length m5) := (blk_cell BQ.out 5).trans rfl
  have hcq6 : W5.cell? ⟨g5, 6, none⟩ = some (.slice M6 q.g.length m6) := (blk_cell BQ.out 6).trans rfl
  have hcq7 : W5.cell? ⟨g5, 7, none⟩ = some (.slice M7 q.h.length m7) := (blk_cell BQ.out 7).trans rfl
  have hcq8 : W5.cell? ⟨g5, 8, none⟩ = some (.int .i64 q.i) := (blk_cell BQ.out 8).trans rfl
  have hff : (f == f) = true := beq_self_eq_true f
  go_wp2_with (first | (go_at_call 15; (with_reducible refine (rsame_any (p := q) (q := q) (t := true) ⟨fun _ => rfl, fun _ => rfl⟩ HP.out.pr HQ.out.pr).mono ?_); rintro e w27 ⟨rfl, hb⟩; have n0_ := Aside0.mk (below_step HB.out hb); clear HB; have HB := n0_; clear n0_; clear hb) | (go_at_call 9; (with_reducible refine (awake6_any _).mono ?_); rintro e w9 ⟨rfl, hb⟩; have n0_ := Aside0.mk (below_step HB.out hb); clear HB; have HB := n0_; clear n0_; clear hb))
  go_ret
  exact ⟨rfl, HB.out⟩
theorem reads_any {w : World} {A : Option Addr} {c : Nat} {l : List Int} (hC : Kd.C (Kd.int .u8) w A l.length l) (hc : l.length ≤ c) (hy : Byt l) : Calls Try.prog 5 #[.slice A l.length c] w fun e w' => e = .returned (.bool true) ∧ Below w.heap.size w w' := by
  by_cases hl : l.length ≤ 3000
  · exact reads_short hC hc hy hl
  · exact reads_long hC hc hy (Nat.lt_of_not_le hl)

end Go.Proofs.Ytdgaklldijkoaaa.PCode
