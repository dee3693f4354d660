import Derived.Test.YtdgaklldijkoaaaPCodex0
import Derived.Test.YtdgaklldijkoaaaCodeM
import Derived.BigQuiet
import Derived.IntWalk
import Derived.WalkMore
import Derived.Laws.EntriesVeiled
import Derived.StillTailTactics
import Derived.Laws.BitsAllLaws
import Derived.Laws.BitsLemmas
import Derived.Laws.Strings
import Derived.Lib.SlBytesConst
import Derived.Deep.Matrix
import Derived.Deep.Slices
import Derived.Deep.Fields
import Derived.ChangeSame
import Derived.ChangeArms
import Derived.OpenShut
namespace Go.Proofs.Ytdgaklldijkoaaa.PCode
open Go.RowKit Go.Proofs.YtdgaklldijkoaaaW.PrintWords Go.Proofs.YtdgaklldijkoaaaW.PrintLast Go.Proofs.YtdgaklldijkoaaaW.PrintMore
attribute [local go_sem] max2_int min2_int max_two min_two max_three min_three max_four min_four
set_option linter.unusedVariables false
set_option linter.unusedSimpArgs false
/-- The worlds in which what stood in W still stands. -/
structure QW (W : World) where
  w : World
  h : Below W.heap.size W w
theorem wp_region_quiet_q {P : Program} {id : Nat} {Q : Exit → Act → World → Prop} {a : Act} {W : World} {l : List Oper} (hm : P.follows .mixedOrders = true) (hB : Region.lexB .any l.toArray = true)
    (h : wpQuiet P l.toArray (fun w' => ∃ q : QW W, w' = q.w) (fun a' => ∀ w', (∃ q : QW W, w' = q.w) → Q .normal a' w') l a) : (Code.region id l.toArray true).wp P Q a W :=
  wp_region_quiet (C := fun w' => ∃ q : QW W, w' = q.w) hm hB ⟨⟨W.drew, below_drew1 (Below.refl _ _)⟩, rfl⟩ (by simpa using h)
theorem QW.calls {P : Program} {f : FuncId} {args : Array Value} {W : World} {q : QW W} {v : Value} (h : Calls P f args q.w fun e w' => e = .returned v ∧ Below q.w.heap.size q.w w') : Calls P f args q.w fun e w'' => e = .returned v ∧ ∃ m : QW W, w'' = m.w :=
  h.mono fun _ w' ⟨he, hb⟩ => ⟨he, ⟨w', below_step q.h hb⟩, rfl⟩
theorem enc_e {w : World} {v : Value} {p : Pg} {bs : List Int} {cd : Int} (he : encP p = (bs, cd)) (h : PR w v p) : Calls Try.prog 10 #[v] w fun e w' => (∃ A c, e = .returned (.tuple #[.slice A bs.length c, .int .i64 cd]) ∧ bs.length ≤ c ∧ Kd.C (Kd.int .u8) w' A bs.length bs) ∧ Below w.heap.size w w' := by
  have H := encode_any h
  rw [he] at H
  exact H
theorem renc_e {w : World} {v : Value} {p : Pg} {bs : List Int} {cd : Int} (he : encP p = (bs, cd)) (h : PR w v p) : Calls Try.prog 11 #[v] w fun e w' => (∃ A c, e = .returned (.tuple #[.slice A bs.length c, .int .i64 cd]) ∧ bs.length ≤ c ∧ Kd.C (Kd.int .u8) w' A bs.length bs) ∧ Below w.heap.size w w' := by
  have H := rencode_any h
  rw [he] at H
  exact H
theorem rmay_t {w : World} {v : Value} {p : Pg} {t : Bool} (ht : p.may = t) (h : PR w v p) : Calls Try.prog 13 #[v] w fun e w' => e = .returned (.bool t) ∧ Below w.heap.size w w' := by
  subst ht
  exact rmay_any h
theorem str_of {w : World} {A : Option Addr} {n c : Nat} {l : List Int} (h : Kd.C (Kd.int .u8) w A n l) : (convert 32 9 (.slice A n c)).run Try.prog w = .ok (.string (strOfNums l)) w := Kd.C_string Try.underlying32 Try.underlying5 Try.underlying9 h
set_option maxHeartbeats 16000000 in
set_option maxRecDepth 100000 in
theorem codes_any {w : World} {v : Value} {p : Pg} (h : PR w v p) : Calls Try.prog 3 #[v] w fun e w' => e = .returned (.bool true) ∧ Below w.heap.size w w' := by
  obtain ⟨A0, c0, A1, c1, A2, c2, A4, c4, A5, c5, A6, c6, A7, c7, rfl, hx⟩ := h
  obtain ⟨r, hr⟩ := small_ev p 12000 hx.g.2.2.1
  obtain ⟨bs, cd, he⟩ : ∃ bs cd, encP p = (bs, cd) := ⟨_, _, rfl⟩
  obtain ⟨mt, hm⟩ : ∃ m, p.may = m := ⟨_, rfl⟩
  have HP := Aside0.mk hx
  have HS := Aside0.mk hr
  have HE := Aside0.mk he
  have HM := Aside0.mk hm
  have HB := Aside0.mk (Below.refl w.heap.size w)
  clear hx hr he hm
  cases r with
  | false =>
    go_enter Try.func3, Try.ntmps3
    go_wp2_with (first | ((with_reducible refine gate_dst (N := 1) rfl ?_); refine box_event ?hg (N := 1) ?hd (cs := (pv A0 c0 A1 c1 A2 c2 A4 c4 A5 c5 A6 c6 A7 c7 p)) (t := 29) ?hr ?_; (case hd => rfl); (case hg => rfl); (case hr => first | (go_simp; done) | (go_simp; rfl)); intro g1 hg w1 hbox hb; have n0_ := Aside0.mk (below_step HB.out hb); have n1_ := Aside0.mk (HP.out.below hb); have n2_ := Aside0.mk (hbox); clear HB HP; have HB := n0_; have HP := n1_; have BP := n2_; clear n0_ n1_ n2_; have hcp0 : w1.cell? ⟨g1, 0, none⟩ = some (.slice A0 p.a.length c0) := (blk_cell BP.out 0).trans rfl; have hcp1 : w1.cell? ⟨g1, 1, none⟩ = some (.slice A1 p.b.length c1) := (blk_cell BP.out 1).trans rfl; have hcp2 : w1.cell? ⟨g1, 2, none⟩ = some (.slice A2 p.c.length c2) := (blk_cell BP.out 2).trans rfl; have hcp3 : w1.cell? ⟨g1, 3, none⟩ = some (.int .i64 p.d) := (blk_cell BP.out 3).trans rfl; have hcp4 : w1.cell? ⟨g1, 4, none⟩ = some (.slice A4 p.e.length c4) := (blk_cell BP.out 4).trans rfl; have hcp5 : w1.cell? ⟨g1, 5, none⟩ = some (.slice A5 p.f.length c5) := (blk_cell BP.out 5).trans rfl; have hcp6 : w1.cell? ⟨g1, 6, none⟩ = some (.slice A6 p.g.length c6) := (blk_cell BP.out 6).trans rfl; have hcp7 : w1.cell? ⟨g1, 7, none⟩ = some (.slice A7 p.h.length c7) := (blk_cell BP.out 7).trans rfl; have hcp8 : w1.cell? ⟨g1, 8, none⟩ = some (.int .i64 p.i) := (blk_cell BP.out 8).trans rfl; clear hg hbox hb) | (go_at_call 8; (with_reducible refine (small_any HP.out.pr HS.out).mono ?_); rintro e w8 ⟨rfl, hb⟩; have n0_ := Aside0.mk (below_step HB.out hb); have n1_ := Aside0.mk (HP.out.below hb); have n2_ := Aside0.mk (blk_below BP.out hb); clear HB HP BP; have HB := n0_; have HP := n1_; have BP := n2_; clear n0_ n1_ n2_; clear hb; have hcp0 : w8.cell? ⟨g1, 0, none⟩ = some (.slice A0 p.a.length c0) := (blk_cell BP.out 0).trans rfl; have hcp1 : w8.cell? ⟨g1, 1, none⟩ = some (.slice A1 p.b.length c1) := (blk_cell BP.out 1).trans rfl; have hcp2 : w8.cell? ⟨g1, 2, none⟩ = some (.slice A2 p.c.length c2) := (blk_cell BP.out 2).trans rfl; have hcp3 : w8.cell? ⟨g1, 3, none⟩ = some (.int .i64 p.d) := (blk_cell BP.out 3).trans rfl; have hcp4 : w8.cell? ⟨g1, 4, none⟩ = some (.slice A4 p.e.length c4) := (blk_cell BP.out 4).trans rfl; have hcp5 : w8.cell? ⟨g1, 5, none⟩ = some (.slice A5 p.f.length c5) := (blk_cell BP.out 5).trans rfl; have hcp6 : w8.cell? ⟨g1, 6, none⟩ = some (.slice A6 p.g.length c6) := (blk_cell BP.out 6).trans rfl; have hcp7 : w8.cell? ⟨g1, 7, none⟩ = some (.slice A7 p.h.length c7) := (blk_cell BP.out 7).trans rfl; have hcp8 : w8.cell? ⟨g1, 8, none⟩ = some (.int .i64 p.i) := (blk_cell BP.out 8).trans rfl) | (go_at_call 9; (with_reducible refine (awake6_any _).mono ?_); rintro e w9 ⟨rfl, hb⟩; have n0_ := Aside0.mk (below_step HB.out hb); clear HB; have HB := n0_; clear n0_; clear hb))
    go_ret
    exact ⟨rfl, HB.out⟩
  | true =>
    go_enter Try.func3, Try.ntmps3
    go_upto_region 5 with (first | ((with_reducible refine gate_dst (N := 1) rfl ?_); refine box_event ?hg (N := 1) ?hd (cs := (pv A0 c0 A1 c1 A2 c2 A4 c4 A5 c5 A6 c6 A7 c7 p)) (t := 29) ?hr ?_; (case hd => rfl); (case hg => rfl); (case hr => first | (go_simp; done) | (go_simp; rfl)); intro g1 hg w1 hbox hb; have n0_ := Aside0.mk (below_step HB.out hb); have n1_ := Aside0.mk (HP.out.below hb); have n2_ := Aside0.mk (hbox); clear HB HP; have HB := n0_; have HP := n1_; have BP := n2_; clear n0_ n1_ n2_; have hcp0 : w1.cell? ⟨g1, 0, none⟩ = some (.slice A0 p.a.length c0) := (blk_cell BP.out 0).trans rfl; have hcp1 : w1.cell? ⟨g1, 1, none⟩ = some (.slice A1 p.b.length c1) := (blk_cell BP.out 1).trans rfl; have hcp2 : w1.cell? ⟨g1, 2, none⟩ = some (.slice A2 p.c.length c2) := (blk_cell BP.out 2).trans rfl; have hcp3 : w1.cell? ⟨g1, 3, none⟩ = some (.int .i64 p.d) := (blk_cell BP.out 3).trans rfl; have hcp4 : w1.cell? ⟨g1, 4, none⟩ = some (.slice A4 p.e.length c4) := (blk_cell BP.out 4).trans rfl; have hcp5 : w1.cell? ⟨g1, 5, none⟩ = some (.slice A5 p.f.length c5) := (blk_cell BP.out 5).trans rfl; have hcp6 : w1.cell? ⟨g1, 6, none⟩ = some (.slice A6 p.g.length c6) := (blk_cell BP.out 6).trans rfl; have hcp7 : w1.cell? ⟨g1, 7, none⟩ = some (.slice A7 p.h.length c7) := (blk_cell BP.out 7).trans rfl; have hcp8 : w1.cell? ⟨g1, 8, none⟩ = some (.int .i64 p.i) := (blk_cell BP.out 8).trans rfl; clear hg hbox hb) | (go_at_call 8; (with_reducible refine (small_any HP.out.pr HS.out).mono ?_); rintro e w8 ⟨rfl, hb⟩; have n0_ := Aside0.mk (below_step HB.out hb); have n1_ := Aside0.mk (HP.out.below hb); have n2_ := Aside0.mk (blk_below BP.out hb); clear HB HP BP; have HB := n0_; have HP := n1_; have BP := n2_; clear n0_ n1_ n2_; clear hb; have hcp0 : w8.cell? ⟨g1, 0, none⟩ = some (.slice A0 p.a.length c0) := (blk_cell BP.out 0).trans rfl; have hcp1 : w8.cell? ⟨g1, 1, none⟩ = some (.slice A1 p.b.length c1) := (blk_cell BP.out 1).trans rfl; have hcp2 : w8.cell? ⟨g1, 2, none⟩ = some (.slice A2 p.c.length c2) := (blk_cell BP.out 2).trans rfl; have hcp3 : w8.cell? ⟨g1, 3, none⟩ = some (.int .i64 p.d) := (blk_cell BP.out 3).trans rfl; have hcp4 : w8.cell? ⟨g1, 4, none⟩ = some (.slice A4 p.e.length c4) := (blk_cell BP.out 4).trans rfl; have hcp5 : w8.cell? ⟨g1, 5, none⟩ = some (.slice A5 p.f.length c5) := (blk_cell BP.out 5).trans rfl; have hcp6 : w8.cell? ⟨g1, 6, none⟩ = some (.slice A6 p.g.length c6) := (blk_cell BP.out 6).trans rfl; have hcp7 : w8.cell? ⟨g1, 7, none⟩ = some (.slice A7 p.h.length c7) := (blk_cell BP.out 7).trans rfl; have hcp8 : w8.cell? ⟨g1, 8, none⟩ = some (.int .i64 p.i) := (blk_cell BP.out 8).trans rfl) | (go_at_call 10; (with_reducible refine (enc_e HE.out HP.out.pr).mono ?_); rintro e w13 ⟨⟨A9, c9, rfl, hk, hc⟩, hb⟩; have n0_ := Aside0.mk (below_step HB.out hb); have n1_ := Aside0.mk (HP.out.below hb); have n2_ := Aside0.mk (blk_below BP.out hb); clear HB HP BP; have HB := n0_; have HP := n1_; have BP := n2_; clear n0_ n1_ n2_; have HS1 := Aside0.mk hc; clear hb hc hk; have hcp0 : w13.cell? ⟨g1, 0, none⟩ = some (.slice A0 p.a.length c0) := (blk_cell BP.out 0).trans rfl; have hcp1 : w13.cell? ⟨g1, 1, none⟩ = some (.slice A1 p.b.length c1) := (blk_cell BP.out 1).trans rfl; have hcp2 : w13.cell? ⟨g1, 2, none⟩ = some (.slice A2 p.c.length c2) := (blk_cell BP.out 2).trans rfl; have hcp3 : w13.cell? ⟨g1, 3, none⟩ = some (.int .i64 p.d) := (blk_cell BP.out 3).trans rfl; have hcp4 : w13.cell? ⟨g1, 4, none⟩ = some (.slice A4 p.e.length c4) := (blk_cell BP.out 4).trans rfl; have hcp5 : w13.cell? ⟨g1, 5, none⟩ = some (.slice A5 p.f.length c5) := (blk_cell BP.out 5).trans rfl; have hcp6 : w13.cell? ⟨g1, 6, none⟩ = some (.slice A6 p.g.length c6) := (blk_cell BP.out 6).trans rfl; have hcp7 : w13.cell? ⟨g1, 7, none⟩ = some (.slice A7 p.h.length c7) := (blk_cell BP.out 7).trans rfl; have hcp8 : w13.cell? ⟨g1, 8, none⟩ = some (.int .i64 p.i) := (blk_cell BP.out 8).trans rfl) | (go_at_call 11; (with_reducible refine (renc_e HE.out HP.out.pr).mono ?_); rintro e w18 ⟨⟨A10, c10, rfl, hk, hc⟩, hb⟩; have n0_ := Aside0.mk (below_step HB.out hb); have n1_ := Aside0.mk (HP.out.below hb); have n2_ := Aside0.mk (blk_below BP.out hb); have n3_ := Aside0.mk (Kd.C_below HS1.out hb); clear HB HP BP HS1; have HB := n0_; have HP := n1_; have BP := n2_; have HS1 := n3_; clear n0_ n1_ n2_ n3_; have HS2 := Aside0.mk hc; clear hb hc hk; have hcp0 : w18.cell? ⟨g1, 0, none⟩ = some (.slice A0 p.a.length c0) := (blk_cell BP.out 0).trans rfl; have hcp1 : w18.cell? ⟨g1, 1, none⟩ = some (.slice A1 p.b.length c1) := (blk_cell BP.out 1).trans rfl; have hcp2 : w18.cell? ⟨g1, 2, none⟩ = some (.slice A2 p.c.length c2) := (blk_cell BP.out 2).trans rfl; have hcp3 : w18.cell? ⟨g1, 3, none⟩ = some (.int .i64 p.d) := (blk_cell BP.out 3).trans rfl; have hcp4 : w18.cell? ⟨g1, 4, none⟩ = some (.slice A4 p.e.length c4) := (blk_cell BP.out 4).trans rfl; have hcp5 : w18.cell? ⟨g1, 5, none⟩ = some (.slice A5 p.f.length c5) := (blk_cell BP.out 5).trans rfl; have hcp6 : w18.cell? ⟨g1, 6, none⟩ = some (.slice A6 p.g.length c6) := (blk_cell BP.out 6).trans rfl; have hcp7 : w18.cell? ⟨g1, 7, none⟩ = some (.slice A7 p.h.length c7) := (blk_cell BP.out 7).trans rfl; have hcp8 : w18.cell? ⟨g1, 8, none⟩ = some (.int .i64 p.i) := (blk_cell BP.out 8).trans rfl))
    have hqn : Nonempty (QW w18) := ⟨⟨w18, Below.refl _ _⟩⟩
    have hq0 : ∀ q : QW w18, q.w.cell? ⟨g1, 0, none⟩ = some (.slice A0 p.a.length c0) := fun q => pw_cell_below q.h hcp0
    have hq1 : ∀ q : QW w18, q.w.cell? ⟨g1, 1, none⟩ = some (.slice A1 p.b.length c1) := fun q => pw_cell_below q.h hcp1
    have hq2 : ∀ q : QW w18, q.w.cell? ⟨g1, 2, none⟩ = some (.slice A2 p.c.length c2) := fun q => pw_cell_below q.h hcp2
    have hq3 : ∀ q : QW w18, q.w.cell? ⟨g1, 3, none⟩ = some (.int .i64 p.d) := fun q => pw_cell_below q.h hcp3
    have hq4 : ∀ q : QW w18, q.w.cell? ⟨g1, 4, none⟩ = some (.slice A4 p.e.length c4) := fun q => pw_cell_below q.h hcp4
    have hq5 : ∀ q : QW w18, q.w.cell? ⟨g1, 5, none⟩ = some (.slice A5 p.f.length c5) := fun q => pw_cell_below q.h hcp5
    have hq6 : ∀ q : QW w18, q.w.cell? ⟨g1, 6, none⟩ = some (.slice A6 p.g.length c6) := fun q => pw_cell_below q.h hcp6
    have hq7 : ∀ q : QW w18, q.w.cell? ⟨g1, 7, none⟩ = some (.slice A7 p.h.length c7) := fun q => pw_cell_below q.h hcp7
    have hq8 : ∀ q : QW w18, q.w.cell? ⟨g1, 8, none⟩ = some (.int .i64 p.i) := fun q => pw_cell_below q.h hcp8
    have hqs : ∀ q : QW w18, (convert 32 9 (.slice A9 bs.length c9)).run Try.prog q.w = .ok (.string (strOfNums bs)) q.w := fun q => str_of (Kd.C_below HS1.out q.h)
    have hqt : ∀ q : QW w18, (convert 32 9 (.slice A10 bs.length c10)).run Try.prog q.w = .ok (.string (strOfNums bs)) q.w := fun q => str_of (Kd.C_below HS2.out q.h)
    clear hcp0 hcp1 hcp2 hcp3 hcp4 hcp5 hcp6 hcp7 hcp8
    generalize strOfNums bs = sb9 at hqs hqt
    cases mt
    all_goals
      refine wp_region_quiet_q (by kernel_rfl) (by kernel_rfl) ?_
      repeat (go_big_quiet_step (first | (go_at_call 12; exact QW.calls (may_t HM.out (HP.out.below (QW.h _)).pr)) | (go_at_call 13; exact QW.calls (rmay_t HM.out (HP.out.below (QW.h _)).pr)) | (go_at_call 9; exact QW.calls (awake6_any _))))
      refine wpQuiet_nil ?_
      intro _ hw'
      obtain ⟨q9, hw''⟩ := hw'
      subst hw''
      have n0_ := Aside0.mk (below_step HB.out q9.h)
      clear HB
      have HB := n0_
      go_wp2_with (fail)
      go_ret
      exact ⟨rfl, HB.out⟩

end Go.Proofs.Ytdgaklldijkoaaa.PCode
