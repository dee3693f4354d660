import Derived.Test.YtfllnpfikdhdbaaPProcsx0
import Derived.Test.YtfllnpfikdhdbaaProcsA
import Derived.Test.YtfllnpfikdhdbaaProcsB
import Derived.Test.YtfllnpfikdhdbaaProcsC
import Derived.Test.YtfllnpfikdhdbaaProcsD
import Derived.Test.YtfllnpfikdhdbaaProcsE
import Derived.Test.YtfllnpfikdhdbaaProcsF
import Derived.Test.YtfllnpfikdhdbaaProcsG
import Derived.Test.YtfllnpfikdhdbaaProcsZ
import Derived.StillTailTactics
import Derived.Laws.LoneSync
import Derived.Laws.EntriesVeiled
namespace Go.Proofs.Ytfllnpfikdhdbaa.PProcs
open Go.RowKit Go.Proofs.YtfllnpfikdhdbaaW.PrintWords Go.Proofs.YtfllnpfikdhdbaaW.PrintLast Go.Proofs.YtfllnpfikdhdbaaW.PrintMore
attribute [local go_sem] max2_int min2_int max_two min_two max_three min_three max_four min_four
set_option linter.unusedVariables false
set_option linter.unusedSimpArgs false
theorem info83 : (Try.prog.info? 83).map (fun i => (i.zero, i.size, i.bytes)) = some (some (.agg #[.int .i64 0, .int .i64 0, .int .i64 0, .int .i64 0, .int .i64 0]), 5, 40) := by kernel_rfl
theorem in_yes {a b c : Int} (h1 : b ≤ a) (h2 : a ≤ c) (w : World) : Calls Try.prog 42 #[.int .i64 a, .int .i64 b, .int .i64 c] w fun e w' => e = .returned (.bool true) ∧ Below w.heap.size w w' :=
  (signalboxref1_in.calls a b c true w (by unfold signalboxref1_in.f; rw [if_pos h1, decide_eq_true h2])).mono fun _ _ h => ⟨h.1, h.2.below⟩
theorem in_no {a b c : Int} (h : a < b ∨ c < a) (w : World) : Calls Try.prog 42 #[.int .i64 a, .int .i64 b, .int .i64 c] w fun e w' => e = .returned (.bool false) ∧ Below w.heap.size w w' :=
  (signalboxref1_in.calls a b c false w (by
    unfold signalboxref1_in.f
    by_cases q : a ≥ b
    · rw [if_pos q, decide_eq_false (by omega)]
    · rw [if_neg q])).mono fun _ _ h => ⟨h.1, h.2.below⟩
set_option maxHeartbeats 1000000 in
theorem rnew_no (w : World) (m : Int) (h : m < 1 ∨ 32 < m) : Calls Try.prog 12 #[.int .i64 m] w fun e w' => e = .returned (.tuple #[.pointer none, .int .i64 1]) ∧ Below w.heap.size w w' := by
  have HI := Aside0.mk (in_no h w)
  clear h
  go_enter Try.func12, Try.ntmps12
  go_wp2_with (first | (go_at_call 42; (with_reducible refine HI.out.mono ?_); rintro e w5 ⟨rfl, hb⟩; have HB := Aside0.mk hb; clear hb))
  go_ret2
  exact ⟨rfl, HB.out⟩
set_option maxHeartbeats 1000000 in
theorem rnew_yes (w : World) (m : Int) (h1 : 1 ≤ m) (h2 : m ≤ 32) : Calls Try.prog 12 #[.int .i64 m] w fun e w' => ∃ b, e = .returned (.tuple #[.pointer (some ⟨b, 0, none⟩), .int .i64 0]) ∧ RB w' b w.heap.size m [] ∧ Below w.heap.size w w' := by
  have HI := Aside0.mk (in_yes h1 h2 w)
  clear h1 h2
  go_enter Try.func12, Try.ntmps12
  go_wp2_with (first | (go_at_call 42; (with_reducible refine HI.out.mono ?_); rintro e w5 ⟨rfl, hb⟩; have HB := Aside0.mk hb; clear hb) | ((with_reducible refine gate_dst (N := 9) rfl ?_); refine box_event ?hg (N := 9) ?hd (cs := #[.int .i64 m, .slice none 0 0]) (t := 77) ?hr ?_; (case hd => rfl); (case hg => rfl); (case hr => first | (go_simp; done) | (go_simp; rfl)); intro g9 hg w9 hbox hb; have n0_ := Aside0.mk (below_step HB.out hb); have n1_ := Aside0.mk (hbox); have n2_ := Aside0.mk ((by rw [hg]; exact below_size HB.out : w.heap.size ≤ g9)); clear HB; have HB := n0_; have BK9 := n1_; have GE9 := n2_; clear n0_ n1_ n2_; clear hg hbox hb))
  go_ret2
  exact ⟨g9, rfl, ⟨_, BK9.out, Kd.R_nil _ _ _ _ _, GE9.out⟩, HB.out⟩
section
variable {w : World} {b base : Nat} {most : Int} {rs : List Row}
set_option maxHeartbeats 1000000 in
theorem rspawn_orphan (par : Int) (h : RB w b base most rs) (hl : rs.length ≤ 1000000) (h0 : par ≠ 0) (hn : liveB (rowAt rs par) = false) : Calls Try.prog 14 #[.pointer (some ⟨b, 0, none⟩), .int .i64 par] w fun e w' => e = .returned (.tuple #[.int .i64 0, .int .i64 3]) ∧ w = w' := by
  have H := rlives_any par h hl
  rw [hn] at H
  have HH := Aside0.mk H
  have hb0 : (par != 0) = true := by simpa using h0
  clear h hn h0 H
  go_enter Try.func14, Try.ntmps14
  go_wp2_with (first | (go_at_call 46; (with_reducible refine HH.out.mono ?_); rintro e w' ⟨rfl, rfl⟩))
  go_ret2
  exact ⟨rfl, rfl⟩
set_option maxHeartbeats 2000000 in
set_option maxRecDepth 100000 in
theorem rspawn_full (par : Int) (h : RB w b base most rs) (hl : rs.length ≤ 1000000) (hok : ParOk rs par) (hn : most ≤ ((thoseL liveB rs).length : Int)) : Calls Try.prog 14 #[.pointer (some ⟨b, 0, none⟩), .int .i64 par] w fun e w' => e = .returned (.tuple #[.int .i64 0, .int .i64 42]) ∧ Below w.heap.size w w' := by
  have TVH := Aside0.mk h
  have hc0 : w.cell? ⟨b, 0, none⟩ = some (.int .i64 most) := by obtain ⟨v, hb, _⟩ := h; exact (blk_cell hb 0).trans rfl
  have hnb : decide (most ≤ ((thoseL liveB rs).length : Int)) = true := decide_eq_true hn
  have hb := Below.refl w.heap.size w
  by_cases hp0 : par = 0
  · subst hp0
    clear h hn hok
    go_enter Try.func14, Try.ntmps14
    go_wp2_with (fail)
    go_region_held3 (fun w' => w'.cell? ⟨b, 0, none⟩ = some (.int .i64 most) ∧ Below w.heap.size w w') (first | (exact ⟨hc0, below_drew1 hb⟩) | (exact ⟨pw_cell_below (w := w.drew) hb3 hc0, below_step (below_drew1 hb) hb3⟩))
      ((go_at_call 47; (refine (rnlive_any (TVH.out.below (below_drew1 (Below.refl _ _))) hl).mono ?_); rintro e w3 ⟨rfl, hb3⟩))
    clear hc0
    go_wp2
    go_ret2
    exact ⟨rfl, below_step (below_drew1 hb) hb3⟩
  · have H := rlives_any par h hl
    rw [hok.resolve_left hp0] at H
    have HH := Aside0.mk H
    have hb0 : (par != 0) = true := by simpa using hp0
    clear h hn hok hp0 H
    go_enter Try.func14, Try.ntmps14
    go_wp2_with (first | (go_at_call 46; (with_reducible refine HH.out.mono ?_); rintro e w' ⟨rfl, rfl⟩))
    go_region_held3 (fun w' => w'.cell? ⟨b, 0, none⟩ = some (.int .i64 most) ∧ Below w.heap.size w w') (first | (exact ⟨hc0, below_drew1 hb⟩) | (exact ⟨pw_cell_below (w := w.drew) hb3 hc0, below_step (below_drew1 hb) hb3⟩))
      ((go_at_call 47; (refine (rnlive_any (TVH.out.below (below_drew1 (Below.refl _ _))) hl).mono ?_); rintro e w3 ⟨rfl, hb3⟩))
    clear hc0
    go_wp2
    go_ret2
    exact ⟨rfl, below_step (below_drew1 hb) hb3⟩
set_option maxHeartbeats 4000000 in
set_option maxRecDepth 100000 in
theorem rspawn_ok (w0 : World) (par : Int) (hB : Below w0.heap.size w0 w) (h : RB w b w0.heap.size most rs) (hl : rs.length ≤ 1000000) (hok : ParOk rs par) (hn : ((thoseL liveB rs).length : Int) < most) :
    Calls Try.prog 14 #[.pointer (some ⟨b, 0, none⟩), .int .i64 par] w fun e w' => e = .returned (.tuple #[.int .i64 ((rs.length : Int) + 1), .int .i64 0]) ∧ RB w' b w0.heap.size most (rs ++ [⟨1, par, 0, 0, 0⟩]) ∧ Fr [77, 83] w w' ∧ Below w0.heap.size w0 w' := by
  have TVH := Aside0.mk h
  have hc0 : w.cell? ⟨b, 0, none⟩ = some (.int .i64 most) := by obtain ⟨v, hb, _⟩ := h; exact (blk_cell hb 0).trans rfl
  have hnb : decide (most ≤ ((thoseL liveB rs).length : Int)) = false := decide_eq_false (by omega)
  have hb := Below.refl w.heap.size w
  have HB0 := Aside0.mk hB
  by_cases hp0 : par = 0
  · subst hp0
    clear h hn hok hB
    go_enter Try.func14, Try.ntmps14
    go_wp2_with (fail)
    go_region_held3 (fun w' => w'.cell? ⟨b, 0, none⟩ = some (.int .i64 most) ∧ Below w.heap.size w w') (first | (exact ⟨hc0, below_drew1 hb⟩) | (exact ⟨pw_cell_below (w := w.drew) hb3 hc0, below_step (below_drew1 hb) hb3⟩))
      ((go_at_call 47; (refine (rnlive_any (TVH.out.below (below_drew1 (Below.refl _ _))) hl).mono ?_); rintro e w3 ⟨rfl, hb3⟩))
    clear hc0
    have HB3 := Aside0.mk (below_step (below_drew1 hb) hb3)
    have HB03 := Aside0.mk (below_step HB0.out HB3.out)
    obtain ⟨v, hb3b, hr3, hge⟩ := TVH.out.below HB3.out
    obtain ⟨A3, c3, rfl⟩ := flat_slice hr3
    have BK := Aside0.mk hb3b
    have HR := Aside0.mk hr3
    have GE := Aside0.mk hge
    have F3 := Aside0.mk (Fr.of_below HB3.out [77, 83])
    clear hb3b hr3 hge hb3 hb
    go_upto_region 6 with (first
      | ((with_reducible refine gate_dst (N := 22) rfl ?_); refine Kd.R_lit kP _ 83 ?hg (N := 22) ?hd (xs := ([] : List Row)) (inner := []) (ok := fun _ => True) (okp := fun _ => True) ?hr ?hp (fun _ hk => hk) trivial (Below.refl _ _) (Nat.le_refl _) (by simp) ?_; (case hd => rfl); (case hg => rfl); (case hr => first | (go_simp; done) | (go_simp; rfl)); (case hp => exact (Reps.none _ _)); intro v22 w22 ho hb hg_ hnew_; have n0_ := Aside0.mk (Kd.R_lower ho (below_size HB03.out)); have n1_ := Aside0.mk (below_step HB03.out hb); have n2_ := Aside0.mk (blk_below BK.out hb); have n3_ := Aside0.mk (F3.out.then_ (Fr.of_below hb _)); have n4_ := Aside0.mk (Kd.R_below HR.out hb); clear HB03 BK F3 HR hb ho hg_ hnew_; have HO := n0_; have HB03 := n1_; have BK := n2_; have F3 := n3_; have HR := n4_; clear n0_ n1_ n2_ n3_ n4_; have hc1 : w22.cell? ⟨b, 1, none⟩ = some (.slice A3 rs.length c3) := (blk_cell BK.out 1).trans rfl)
      | ((with_reducible refine gate_builtin (b := .append) (xs := #[.tmp 22, .tmp 26]) rfl ?_); at_builtin; refine Kd.R_append_rows kP (w0 := w0) w0.heap.size rfl (.tmp 22) (.tmp 26) 75 83 _ 40 rfl Try.underlying75 info83 rfl (by decide) (by omega) v22 [] rs _ _ _ (fun _ => True) (fun _ => False) rfl rfl ?aO ?aR (fun _ _ h => h) (fun _ h => h.elim) ?aF ?aB ?aS ?aL ?_; (case aR => exact (Kd.R_reads' HR.out).2.2); (case aB => exact HB03.out); (case aF => exact (fun _ _ => trivial)); (case aO => exact HO.out); (case aS => exact below_size HB03.out); (case aL => simp; omega); intro v27 w27 ho hb hg hat; have n0_ := Aside0.mk ((hg.block b (blk_lt BK.out) (Kd.R_ne HO.out BK.out (by decide))).trans BK.out); have n1_ := Aside0.mk ho; have n2_ := Aside0.mk hb; have n3_ := Aside0.mk (F3.out.then_ (Fr.of_grown (S := [77, 83]) hg (fun k hk => by obtain ⟨cells, hc⟩ := own_typed HO.out.2.choose_spec.1 k hk; exact ⟨cells, 83, (0, 0), hc, by simp⟩))); clear BK HO HB03 F3 HR ho hb hg hat hc1; have BK := n0_; have HO := n1_; have HB03 := n2_; have F3 := n3_; clear n0_ n1_ n2_ n3_)
      | ((with_reducible refine gate_builtin (b := .append) (xs := #[.tmp 27, .tmp 30]) rfl ?_); at_builtin; refine Kd.R_append kP (w0 := w0) w0.heap.size rfl (.tmp 27) (.tmp 30) 75 83 _ 40 rfl Try.underlying75 info83 rfl (by decide) (by omega) v27 ([] ++ rs) ⟨1, 0, 0, 0, 0⟩ [.int .i64 0, .int .i64 1, .int .i64 0, .int .i64 0, .int .i64 0] (fun _ => True) (fun _ => False) rfl rfl ?aP (fun _ hk => hk.elim) ?aF ?aO ?aB ?aS ?aL ?_; (case aP => exact rfl); (case aB => exact HB03.out); (case aF => exact (fun _ _ => trivial)); (case aO => exact HO.out); (case aS => exact (below_size HB03.out)); (case aL => simp; omega); intro v31 w31 ho hb hg hat; rw [List.nil_append] at ho; obtain ⟨A4, c4, e31⟩ := flat_slice ho; have e31b : v31 = .slice A4 (rs.length + 1) c4 := by { rw [e31, List.length_append]; rfl }; clear e31; subst e31b; have n0_ := Aside0.mk ((hg.block b (blk_lt BK.out) (Kd.R_ne HO.out BK.out (by decide))).trans BK.out); have n1_ := Aside0.mk ho; have n2_ := Aside0.mk hb; have n3_ := Aside0.mk (F3.out.then_ (Fr.of_grown (S := [77, 83]) hg (fun k hk => by obtain ⟨cells, hc⟩ := own_typed HO.out.2.choose_spec.1 k hk; exact ⟨cells, 83, (0, 0), hc, by simp⟩))); clear BK HO HB03 F3 ho hb hg hat; have BK := n0_; have HO := n1_; have HB03 := n2_; have F3 := n3_; clear n0_ n1_ n2_ n3_; have hc1 : w31.cell? ⟨b, 1, none⟩ = some (.slice A3 rs.length c3) := (blk_cell BK.out 1).trans rfl; have hf1 : w31.frozen? ⟨b, 1, none⟩ = false := blk_frozen BK.out 1))
    have n0_ := Aside0.mk (blk_put (cs' := #[.int .i64 most, .slice A4 (rs.length + 1) c4]) BK.out 1 (.slice A4 (rs.length + 1) c4) rfl)
    have n1_ := Aside0.mk (Kd.R_mono (Kd.R_far (Kd.R_types HO.out BK.out (by intro q hq; rcases List.mem_cons.1 hq with rfl | hq; exact (by decide); cases hq)) (p := ⟨b, 1, none⟩) (fun k hk => hk.2) (.slice A4 (rs.length + 1) c4)) (ok' := fun _ => True) (fun _ _ => trivial))
    have n2_ := Aside0.mk (below_set (j := 1) (v := .slice A4 (rs.length + 1) c4) HB03.out GE.out)
    have n3_ := Aside0.mk (F3.out.then_ (Fr.set (j := 1) (v := .slice A4 (rs.length + 1) c4) BK.out (by simp)))
    clear BK HO HB03 F3 hc1 hf1
    generalize (w31.setCell { block := b, off := 1 } (Value.slice A4 (rs.length + 1) c4)) = W4 at n0_ n1_ n2_ n3_ ⊢
    have hc4 : W4.cell? ⟨b, 1, none⟩ = some (.slice A4 (rs.length + 1) c4) := (blk_cell n0_.out 1).trans rfl
    go_wp2_with (fail)
    go_ret2
    exact ⟨rfl, ⟨_, n0_.out, n1_.out, GE.out⟩, n3_.out, n2_.out⟩
  · have H := rlives_any par h hl
    rw [hok.resolve_left hp0] at H
    have HH := Aside0.mk H
    have hb0 : (par != 0) = true := by simpa using hp0
    clear h hn hok hp0 H hB
    go_enter Try.func14, Try.ntmps14
    go_wp2_with (first | (go_at_call 46; (with_reducible refine HH.out.mono ?_); rintro e w' ⟨rfl, rfl⟩))
    go_region_held3 (fun w' => w'.cell? ⟨b, 0, none⟩ = some (.int .i64 most) ∧ Below w.heap.size w w') (first | (exact ⟨hc0, below_drew1 hb⟩) | (exact ⟨pw_cell_below (w := w.drew) hb3 hc0, below_step (below_drew1 hb) hb3⟩))
      ((go_at_call 47; (refine (rnlive_any (TVH.out.below (below_drew1 (Below.refl _ _))) hl).mono ?_); rintro e w3 ⟨rfl, hb3⟩))
    clear hc0
    have HB3 := Aside0.mk (below_step (below_drew1 hb) hb3)
    have HB03 := Aside0.mk (below_step HB0.out HB3.out)
    obtain ⟨v, hb3b, hr3, hge⟩ := TVH.out.below HB3.out
    obtain ⟨A3, c3, rfl⟩ := flat_slice hr3
    have BK := Aside0.mk hb3b
    have HR := Aside0.mk hr3
    have GE := Aside0.mk hge
    have F3 := Aside0.mk (Fr.of_below HB3.out [77, 83])
    clear hb3b hr3 hge hb3 hb
    go_upto_region 6 with (first
      | ((with_reducible refine gate_dst (N := 22) rfl ?_); refine Kd.R_lit kP _ 83 ?hg (N := 22) ?hd (xs := ([] : List Row)) (inner := []) (ok := fun _ => True) (okp := fun _ => True) ?hr ?hp (fun _ hk => hk) trivial (Below.refl _ _) (Nat.le_refl _) (by simp) ?_; (case hd => rfl); (case hg => rfl); (case hr => first | (go_simp; done) | (go_simp; rfl)); (case hp => exact (Reps.none _ _)); intro v22 w22 ho hb hg_ hnew_; have n0_ := Aside0.mk (Kd.R_lower ho (below_size HB03.out)); have n1_ := Aside0.mk (below_step HB03.out hb); have n2_ := Aside0.mk (blk_below BK.out hb); have n3_ := Aside0.mk (F3.out.then_ (Fr.of_below hb _)); have n4_ := Aside0.mk (Kd.R_below HR.out hb); clear HB03 BK F3 HR hb ho hg_ hnew_; have HO := n0_; have HB03 := n1_; have BK := n2_; have F3 := n3_; have HR := n4_; clear n0_ n1_ n2_ n3_ n4_; have hc1 : w22.cell? ⟨b, 1, none⟩ = some (.slice A3 rs.length c3) := (blk_cell BK.out 1).trans rfl)
      | ((with_reducible refine gate_builtin (b := .append) (xs := #[.tmp 22, .tmp 26]) rfl ?_); at_builtin; refine Kd.R_append_rows kP (w0 := w0) w0.heap.size rfl (.tmp 22) (.tmp 26) 75 83 _ 40 rfl Try.underlying75 info83 rfl (by decide) (by omega) v22 [] rs _ _ _ (fun _ => True) (fun _ => False) rfl rfl ?aO ?aR (fun _ _ h => h) (fun _ h => h.elim) ?aF ?aB ?aS ?aL ?_; (case aR => exact (Kd.R_reads' HR.out).2.2); (case aB => exact HB03.out); (case aF => exact (fun _ _ => trivial)); (case aO => exact HO.out); (case aS => exact below_size HB03.out); (case aL => simp; omega); intro v27 w27 ho hb hg hat; have n0_ := Aside0.mk ((hg.block b (blk_lt BK.out) (Kd.R_ne HO.out BK.out (by decide))).trans BK.out); have n1_ := Aside0.mk ho; have n2_ := Aside0.mk hb; have n3_ := Aside0.mk (F3.out.then_ (Fr.of_grown (S := [77, 83]) hg (fun k hk => by obtain ⟨cells, hc⟩ := own_typed HO.out.2.choose_spec.1 k hk; exact ⟨cells, 83, (0, 0), hc, by simp⟩))); clear BK HO HB03 F3 HR ho hb hg hat hc1; have BK := n0_; have HO := n1_; have HB03 := n2_; have F3 := n3_; clear n0_ n1_ n2_ n3_)
      | ((with_reducible refine gate_builtin (b := .append) (xs := #[.tmp 27, .tmp 30]) rfl ?_); at_builtin; refine Kd.R_append kP (w0 := w0) w0.heap.size rfl (.tmp 27) (.tmp 30) 75 83 _ 40 rfl Try.underlying75 info83 rfl (by decide) (by omega) v27 ([] ++ rs) ⟨1, par, 0, 0, 0⟩ [.int .i64 par, .int .i64 1, .int .i64 0, .int .i64 0, .int .i64 0] (fun _ => True) (fun _ => False) rfl rfl ?aP (fun _ hk => hk.elim) ?aF ?aO ?aB ?aS ?aL ?_; (case aP => exact rfl); (case aB => exact HB03.out); (case aF => exact (fun _ _ => trivial)); (case aO => exact HO.out); (case aS => exact (below_size HB03.out)); (case aL => simp; omega); intro v31 w31 ho hb hg hat; rw [List.nil_append] at ho; obtain ⟨A4, c4, e31⟩ := flat_slice ho; have e31b : v31 = .slice A4 (rs.length + 1) c4 := by { rw [e31, List.length_append]; rfl }; clear e31; subst e31b; have n0_ := Aside0.mk ((hg.block b (blk_lt BK.out) (Kd.R_ne HO.out BK.out (by decide))).trans BK.out); have n1_ := Aside0.mk ho; have n2_ := Aside0.mk hb; have n3_ := Aside0.mk (F3.out.then_ (Fr.of_grown (S := [77, 83]) hg (fun k hk => by obtain ⟨cells, hc⟩ := own_typed HO.out.2.choose_spec.1 k hk; exact ⟨cells, 83, (0, 0), hc, by simp⟩))); clear BK HO HB03 F3 ho hb hg hat; have BK := n0_; have HO := n1_; have HB03 := n2_; have F3 := n3_; clear n0_ n1_ n2_ n3_; have hc1 : w31.cell? ⟨b, 1, none⟩ = some (.slice A3 rs.length c3) := (blk_cell BK.out 1).trans rfl; have hf1 : w31.frozen? ⟨b, 1, none⟩ = false := blk_frozen BK.out 1))
    have n0_ := Aside0.mk (blk_put (cs' := #[.int .i64 most, .slice A4 (rs.length + 1) c4]) BK.out 1 (.slice A4 (rs.length + 1) c4) rfl)
    have n1_ := Aside0.mk (Kd.R_mono (Kd.R_far (Kd.R_types HO.out BK.out (by intro q hq; rcases List.mem_cons.1 hq with rfl | hq; exact (by decide); cases hq)) (p := ⟨b, 1, none⟩) (fun k hk => hk.2) (.slice A4 (rs.length + 1) c4)) (ok' := fun _ => True) (fun _ _ => trivial))
    have n2_ := Aside0.mk (below_set (j := 1) (v := .slice A4 (rs.length + 1) c4) HB03.out GE.out)
    have n3_ := Aside0.mk (F3.out.then_ (Fr.set (j := 1) (v := .slice A4 (rs.length + 1) c4) BK.out (by simp)))
    clear BK HO HB03 F3 hc1 hf1
    generalize (w31.setCell { block := b, off := 1 } (Value.slice A4 (rs.length + 1) c4)) = W4 at n0_ n1_ n2_ n3_ ⊢
    have hc4 : W4.cell? ⟨b, 1, none⟩ = some (.slice A4 (rs.length + 1) c4) := (blk_cell n0_.out 1).trans rfl
    go_wp2_with (fail)
    go_ret2
    exact ⟨rfl, ⟨_, n0_.out, n1_.out, GE.out⟩, n3_.out, n2_.out⟩
end

end Go.Proofs.Ytfllnpfikdhdbaa.PProcs
