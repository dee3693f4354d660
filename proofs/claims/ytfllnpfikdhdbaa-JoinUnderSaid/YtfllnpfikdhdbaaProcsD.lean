import Derived.Test.YtfllnpfikdhdbaaPProcsx0
import Derived.Test.YtfllnpfikdhdbaaProcsA
import Derived.Test.YtfllnpfikdhdbaaProcsB
import Derived.Test.YtfllnpfikdhdbaaProcsC
import Derived.StillTailTactics
import Derived.Laws.LoneSync
import Derived.Laws.EntriesVeiled
namespace Go.Proofs.Ytfllnpfikdhdbaa.PProcs
open Go.RowKit Go.Proofs.YtfllnpfikdhdbaaW.PrintWords Go.Proofs.YtfllnpfikdhdbaaW.PrintLast Go.Proofs.YtfllnpfikdhdbaaW.PrintMore
attribute [local go_sem] max2_int min2_int max_two min_two max_three min_three max_four min_four
set_option linter.unusedVariables false
set_option linter.unusedSimpArgs false
theorem TB.lower {w : World} {b base base' : Nat} {most : Int} {rs : List Row} (h : TB w b base most rs) (hl : base' ≤ base) : TB w b base' most rs := by
  obtain ⟨v, a, r, g⟩ := h
  exact ⟨v, a, Kd.R_lower r hl, Nat.le_trans hl g⟩
theorem RB.lower {w : World} {b base base' : Nat} {most : Int} {rs : List Row} (h : RB w b base most rs) (hl : base' ≤ base) : RB w b base' most rs := by
  obtain ⟨v, a, r, g⟩ := h
  exact ⟨v, a, Kd.R_lower r hl, Nat.le_trans hl g⟩
set_option maxHeartbeats 1000000 in
theorem new_no (w : World) (m : Int) (h : m < 1 ∨ 32 < m) : Calls Try.prog 11 #[.int .i64 m] w fun e w' => e = .returned (.tuple #[.pointer none, .int .i64 1]) ∧ w = w' := by
  by_cases h1 : m < 1
  · clear h
    go_enter Try.func11, Try.ntmps11
    go_wp2
    go_ret2
    exact ⟨rfl, rfl⟩
  · have h2 : 32 < m := by omega
    clear h
    go_enter Try.func11, Try.ntmps11
    go_wp2
    go_ret2
    exact ⟨rfl, rfl⟩
set_option maxHeartbeats 1000000 in
theorem new_yes (w : World) (m : Int) (h1 : 1 ≤ m) (h2 : m ≤ 32) : Calls Try.prog 11 #[.int .i64 m] w fun e w' => ∃ b, e = .returned (.tuple #[.pointer (some ⟨b, 0, none⟩), .int .i64 0]) ∧ TB w' b w.heap.size m [] ∧ Below w.heap.size w w' := by
  have n1 : ¬ m < 1 := by omega
  have n2 : ¬ 32 < m := by omega
  have HB := Aside0.mk (Below.refl w.heap.size w)
  go_enter Try.func11, Try.ntmps11
  go_wp2_with (first | ((with_reducible refine gate_dst (N := 12) rfl ?_); refine box_event ?hg (N := 12) ?hd (cs := #[.int .i64 m, .int .i64 0, .slice none 0 0]) (t := 73) ?hr ?_; (case hd => rfl); (case hg => rfl); (case hr => first | (go_simp; done) | (go_simp; rfl)); intro g12 hg w12 hbox hb; have n0_ := Aside0.mk (below_step HB.out hb); have n1_ := Aside0.mk (hbox); have n2_ := Aside0.mk ((by rw [hg]; exact below_size HB.out : w.heap.size ≤ g12)); clear HB; have HB := n0_; have BK12 := n1_; have GE12 := n2_; clear n0_ n1_ n2_; clear hg hbox hb))
  go_ret2
  exact ⟨g12, rfl, ⟨_, BK12.out, Kd.R_nil _ _ _ _ _, GE12.out⟩, HB.out⟩
section
variable {w : World} {p : Value} {base : Nat} {most : Int} {rs : List Row}
/-- Spawn: there is none. -/
theorem spawn_nil (par : Int) (w : World) : Calls Try.prog 13 #[.pointer none, .int .i64 par] w fun e w' => e = .returned (.tuple #[.int .i64 0, .int .i64 3]) ∧ w = w' := by
  go_enter Try.func13, Try.ntmps13
  go_wp2
  go_ret2
  exact ⟨rfl, rfl⟩
set_option maxHeartbeats 1000000 in
theorem spawn_orphan (b : Nat) (par : Int) (h : TB w b base most rs) (hl : rs.length ≤ 1000000) (h0 : par ≠ 0) (hn : liveB (rowAt rs par) = false) : Calls Try.prog 13 #[.pointer (some ⟨b, 0, none⟩), .int .i64 par] w fun e w' => e = .returned (.tuple #[.int .i64 0, .int .i64 3]) ∧ Below w.heap.size w w' := by
  have H := Aside0.mk (row_any par h.tv hl)
  have HN := Aside0.mk hn
  have hb0 : (par != 0) = true := by simpa using h0
  clear h hn h0
  go_enter Try.func13, Try.ntmps13
  go_wp2_with (first
    | (go_at_call 43; (with_reducible refine H.out.mono ?_); rintro e w1 ⟨rfl, hb⟩; have HB := Aside0.mk hb; clear hb)
    | (go_at_call 44; (with_reducible refine (live_any _ (rowAt rs par)).mono ?_); rintro e w2 ⟨rfl, hb⟩; rw [HN.out]; have n0_ := Aside0.mk (below_step HB.out hb); clear HB hb; have HB := n0_; clear n0_))
  go_ret2
  exact ⟨rfl, HB.out⟩
theorem Fr.of_grown {S : List Nat} {W W1 : World} {row : Option Nat} (hg : W.grownBy W1 row) (h : ∀ k, row = some k → ∃ cs t z, W.heap[k]? = some (.cells cs t z) ∧ t ∈ S) : Fr S W W1 :=
  ⟨hg.size, fun i hi ht => hg.block i hi (fun e => by
    obtain ⟨cs, t, z, hc, hm⟩ := h i e.symm
    exact ht cs t z hc hm)⟩
theorem Fr.set {S : List Nat} {W : World} {g j t : Nat} {cs : Array Value} {z : Nat × Nat} {v : Value} (hb : W.heap[g]? = some (.cells cs t z)) (ht : t ∈ S) : Fr S W (W.setCell ⟨g, j, none⟩ v) :=
  ⟨by simp [World.setCell], fun i hi hn => Below.heap_setCell W ⟨g, j, none⟩ v i (fun e => by
    have e' : i = g := e
    subst e'
    exact hn cs t z hb ht)⟩
theorem info79 : (Try.prog.info? 79).map (fun i => (i.zero, i.size, i.bytes)) = some (some (.agg #[.int .i64 0, .int .i64 0, .int .i64 0, .int .i64 0, .int .i64 0]), 5, 40) := by kernel_rfl
/-- What the parent's number is good for. -/
def ParOk (rs : List Row) (par : Int) : Prop := par = 0 ∨ liveB (rowAt rs par) = true
set_option maxHeartbeats 2000000 in
set_option maxRecDepth 100000 in
theorem spawn_full (b : Nat) (par : Int) (h : TB w b base most rs) (hl : rs.length ≤ 1000000) (hok : ParOk rs par) (hn : most ≤ ((thoseL liveB rs).length : Int)) : Calls Try.prog 13 #[.pointer (some ⟨b, 0, none⟩), .int .i64 par] w fun e w' => e = .returned (.tuple #[.int .i64 0, .int .i64 42]) ∧ Below w.heap.size w w' := by
  have TVH := Aside0.mk h
  have hc0 : w.cell? ⟨b, 0, none⟩ = some (.int .i64 most) := by obtain ⟨v, hb, _⟩ := h; exact (blk_cell hb 0).trans rfl
  have hnb : decide (most ≤ ((thoseL liveB rs).length : Int)) = true := decide_eq_true hn
  have HC := Aside0.mk hc0
  have HB := Aside0.mk (Below.refl w.heap.size w)
  clear h hn hc0
  by_cases hp0 : par = 0
  · subst hp0
    clear hok
    go_enter Try.func13, Try.ntmps13
    go_wp2_with (fail)
    have hcW : w.cell? ⟨b, 0, none⟩ = some (.int .i64 most) := pw_cell_below HB.out HC.out
    go_region_held3 (fun w' => w'.cell? ⟨b, 0, none⟩ = some (.int .i64 most) ∧ Below w.heap.size w w') (first | (exact ⟨hcW, below_drew1 HB.out⟩) | (exact ⟨pw_cell_below (w := w.drew) hb3 hcW, below_step (below_drew1 HB.out) hb3⟩))
      ((go_at_call 22; (refine (nlive_any (TVH.out.below (below_drew1 HB.out)).tv hl).mono ?_); rintro e w3 ⟨rfl, hb3⟩))
    clear hcW
    go_wp2
    go_ret2
    exact ⟨rfl, below_step (below_drew1 HB.out) hb3⟩
  · have PK := Aside0.mk (hok.resolve_left hp0)
    have hb0 : (par != 0) = true := by simpa using hp0
    clear hok hp0
    go_enter Try.func13, Try.ntmps13
    go_wp2_with (first
      | (go_at_call 43; (with_reducible refine (row_any par TVH.out.tv hl).mono ?_); rintro e w1 ⟨rfl, hb⟩; have n0_ := Aside0.mk (below_step HB.out hb); clear HB hb; have HB := n0_; clear n0_)
      | (go_at_call 44; (with_reducible refine (live_any _ (rowAt rs par)).mono ?_); rintro e w2 ⟨rfl, hb⟩; rw [PK.out]; have n0_ := Aside0.mk (below_step HB.out hb); clear HB hb; have HB := n0_; clear n0_))
    have hcW : w2.cell? ⟨b, 0, none⟩ = some (.int .i64 most) := pw_cell_below HB.out HC.out
    go_region_held3 (fun w' => w'.cell? ⟨b, 0, none⟩ = some (.int .i64 most) ∧ Below w.heap.size w w') (first | (exact ⟨hcW, below_drew1 HB.out⟩) | (exact ⟨pw_cell_below (w := w2.drew) hb3 hcW, below_step (below_drew1 HB.out) hb3⟩))
      ((go_at_call 22; (refine (nlive_any (TVH.out.below (below_drew1 HB.out)).tv hl).mono ?_); rintro e w3 ⟨rfl, hb3⟩))
    clear hcW
    go_wp2
    go_ret2
    exact ⟨rfl, below_step (below_drew1 HB.out) hb3⟩
set_option maxHeartbeats 4000000 in
set_option maxRecDepth 100000 in
theorem spawn_ok (w0 : World) (b : Nat) (par : Int) (hB : Below w0.heap.size w0 w) (h : TB w b w0.heap.size most rs) (hl : rs.length ≤ 1000000) (hok : ParOk rs par) (hn : ((thoseL liveB rs).length : Int) < most) :
    Calls Try.prog 13 #[.pointer (some ⟨b, 0, none⟩), .int .i64 par] w fun e w' => e = .returned (.tuple #[.int .i64 ((rs.length : Int) + 1), .int .i64 0]) ∧ TB w' b w0.heap.size most (rs ++ [⟨1, par, 0, 0, 0⟩]) ∧ Fr [73, 79] w w' ∧ Below w0.heap.size w0 w' := by
  have TVH := Aside0.mk h
  have hc0 : w.cell? ⟨b, 0, none⟩ = some (.int .i64 most) := by obtain ⟨v, hb, _⟩ := h; exact (blk_cell hb 0).trans rfl
  have hnb : decide (most ≤ ((thoseL liveB rs).length : Int)) = false := decide_eq_false (by omega)
  have HC := Aside0.mk hc0
  have HB0 := Aside0.mk hB
  have HB := Aside0.mk (Below.refl w.heap.size w)
  clear h hn hc0 hB
  by_cases hp0 : par = 0
  · subst hp0
    clear hok
    go_enter Try.func13, Try.ntmps13
    go_wp2_with (fail)
    have hcW : w.cell? ⟨b, 0, none⟩ = some (.int .i64 most) := pw_cell_below HB.out HC.out
    go_region_held3 (fun w' => w'.cell? ⟨b, 0, none⟩ = some (.int .i64 most) ∧ Below w.heap.size w w') (first | (exact ⟨hcW, below_drew1 HB.out⟩) | (exact ⟨pw_cell_below (w := w.drew) hb3 hcW, below_step (below_drew1 HB.out) hb3⟩))
      ((go_at_call 22; (refine (nlive_any (TVH.out.below (below_drew1 HB.out)).tv hl).mono ?_); rintro e w3 ⟨rfl, hb3⟩))
    clear hcW
    have HB3 := Aside0.mk (below_step (below_drew1 HB.out) hb3)
    have HB03 := Aside0.mk (below_step HB0.out HB3.out)
    obtain ⟨v, hb3b, hr3, hge⟩ := TVH.out.below HB3.out
    obtain ⟨A3, c3, rfl⟩ := flat_slice hr3
    have BK := Aside0.mk hb3b
    have HR := Aside0.mk hr3
    have GE := Aside0.mk hge
    have F3 := Aside0.mk (Fr.of_below HB3.out [73, 79])
    have hc2 : w3.cell? ⟨b, 2, none⟩ = some (.slice A3 rs.length c3) := (blk_cell hb3b 2).trans rfl
    clear hb3b hr3 hge hb3 HB HC
    go_upto_region 6 with (first
      | ((with_reducible refine gate_builtin (b := .append) (xs := #[.tmp 32, .tmp 35]) rfl ?_); at_builtin; refine Kd.R_append kT (w0 := w0) w0.heap.size rfl (.tmp 32) (.tmp 35) 71 79 _ 40 rfl Try.underlying71 info79 rfl (by decide) (by omega) (.slice A3 rs.length c3) rs ⟨1, 0, 0, 0, 0⟩ [.int .i64 1, .int .i64 0, .int .i64 0, .int .i64 0, .int .i64 0] (fun _ => True) (fun _ => False) rfl rfl ?aP (fun _ hk => hk.elim) ?aF ?aO ?aB ?aS ?aL ?_; (case aP => exact rfl); (case aB => exact HB03.out); (case aF => exact (fun _ _ => trivial)); (case aO => exact HR.out); (case aS => exact (below_size HB03.out)); (case aL => omega); intro v36 w36 ho hb hg hat; obtain ⟨A4, c4, rfl⟩ := flat_slice ho; have n0_ := Aside0.mk ((hg.block b (blk_lt BK.out) (Kd.R_ne HR.out BK.out (by decide))).trans BK.out); have n1_ := Aside0.mk ho; have n2_ := Aside0.mk hb; have n3_ := Aside0.mk (F3.out.then_ (Fr.of_grown (S := [73, 79]) hg (fun k hk => by obtain ⟨cells, hc⟩ := own_typed HR.out.2.choose_spec.1 k hk; exact ⟨cells, 79, (0, 0), hc, by simp⟩))); clear BK HR HB03 F3 ho hb hg hat hc2; have BK := n0_; have HR := n1_; have HB03 := n2_; have F3 := n3_; clear n0_ n1_ n2_ n3_; have hc2 : w36.cell? ⟨b, 2, none⟩ = some (.slice A3 rs.length c3) := (blk_cell BK.out 2).trans rfl; have hf2 : w36.frozen? ⟨b, 2, none⟩ = false := blk_frozen BK.out 2))
    have el : (rs ++ [⟨1, 0, 0, 0, 0⟩] : List Row).length = rs.length + 1 := by simp
    rw [el] at HR
    have n0_ := Aside0.mk (blk_put (cs' := #[.int .i64 most, .int .i64 (rs.length : Int), .slice A4 (rs.length + 1) c4]) BK.out 2 (.slice A4 (rs.length + 1) c4) rfl)
    have n1_ := Aside0.mk (Kd.R_mono (Kd.R_far (Kd.R_types HR.out BK.out (by intro q hq; rcases List.mem_cons.1 hq with rfl | hq; exact (by decide); cases hq)) (p := ⟨b, 2, none⟩) (fun k hk => hk.2) (.slice A4 (rs.length + 1) c4)) (ok' := fun _ => True) (fun _ _ => trivial))
    have n2_ := Aside0.mk (below_set (j := 2) (v := .slice A4 (rs.length + 1) c4) HB03.out GE.out)
    have n3_ := Aside0.mk (F3.out.then_ (Fr.set (j := 2) (v := .slice A4 (rs.length + 1) c4) BK.out (by simp)))
    clear BK HR HB03 F3 hc2 hf2 el
    generalize (w36.setCell { block := b, off := 2 } (Value.slice A4 (rs.length + 1) c4)) = W4 at n0_ n1_ n2_ n3_ ⊢
    have BK := n0_
    have HR := n1_
    have HB03 := n2_
    have F3 := n3_
    clear n0_ n1_ n2_ n3_
    have AD := Aside0.mk (add_any W4 b (rs.length : Int) ((blk_cell BK.out 1).trans rfl) (blk_frozen BK.out 1) (by omega) (by omega))
    go_wp2_with (first | (go_at_call 45; (with_reducible refine AD.out.mono ?_); rintro e w5 ⟨rfl, rfl⟩))
    go_ret2
    refine ⟨rfl, ⟨.slice A4 (rs.length + 1) c4, ?_, Kd.R_mono (Kd.R_far (Kd.R_types HR.out BK.out (by intro q hq; rcases List.mem_cons.1 hq with rfl | hq; exact (by decide); cases hq)) (p := ⟨b, 1, none⟩) (fun k hk => hk.2) _) (fun _ _ => trivial), GE.out⟩, F3.out.then_ (Fr.set BK.out (by simp)), below_set HB03.out GE.out⟩
    rw [show ((rs ++ [⟨1, 0, 0, 0, 0⟩] : List Row).length : Int) = (rs.length : Int) + 1 by simp]
    exact blk_put BK.out 1 _ rfl
  · have PK := Aside0.mk (hok.resolve_left hp0)
    have hb0 : (par != 0) = true := by simpa using hp0
    clear hok hp0
    go_enter Try.func13, Try.ntmps13
    go_wp2_with (first
      | (go_at_call 43; (with_reducible refine (row_any par TVH.out.tv hl).mono ?_); rintro e w1 ⟨rfl, hb⟩; have n0_ := Aside0.mk (below_step HB.out hb); clear HB hb; have HB := n0_; clear n0_)
      | (go_at_call 44; (with_reducible refine (live_any _ (rowAt rs par)).mono ?_); rintro e w2 ⟨rfl, hb⟩; rw [PK.out]; have n0_ := Aside0.mk (below_step HB.out hb); clear HB hb; have HB := n0_; clear n0_))
    have hcW : w2.cell? ⟨b, 0, none⟩ = some (.int .i64 most) := pw_cell_below HB.out HC.out
    go_region_held3 (fun w' => w'.cell? ⟨b, 0, none⟩ = some (.int .i64 most) ∧ Below w.heap.size w w') (first | (exact ⟨hcW, below_drew1 HB.out⟩) | (exact ⟨pw_cell_below (w := w2.drew) hb3 hcW, below_step (below_drew1 HB.out) hb3⟩))
      ((go_at_call 22; (refine (nlive_any (TVH.out.below (below_drew1 HB.out)).tv hl).mono ?_); rintro e w3 ⟨rfl, hb3⟩))
    clear hcW
    have HB3 := Aside0.mk (below_step (below_drew1 HB.out) hb3)
    have HB03 := Aside0.mk (below_step HB0.out HB3.out)
    obtain ⟨v, hb3b, hr3, hge⟩ := TVH.out.below HB3.out
    obtain ⟨A3, c3, rfl⟩ := flat_slice hr3
    have BK := Aside0.mk hb3b
    have HR := Aside0.mk hr3
    have GE := Aside0.mk hge
    have F3 := Aside0.mk (Fr.of_below HB3.out [73, 79])
    have hc2 : w3.cell? ⟨b, 2, none⟩ = some (.slice A3 rs.length c3) := (blk_cell hb3b 2).trans rfl
    clear hb3b hr3 hge hb3 HB HC
    go_upto_region 6 with (first
      | ((with_reducible refine gate_builtin (b := .append) (xs := #[.tmp 32, .tmp 35]) rfl ?_); at_builtin; refine Kd.R_append kT (w0 := w0) w0.heap.size rfl (.tmp 32) (.tmp 35) 71 79 _ 40 rfl Try.underlying71 info79 rfl (by decide) (by omega) (.slice A3 rs.length c3) rs ⟨1, par, 0, 0, 0⟩ [.int .i64 1, .int .i64 par, .int .i64 0, .int .i64 0, .int .i64 0] (fun _ => True) (fun _ => False) rfl rfl ?aP (fun _ hk => hk.elim) ?aF ?aO ?aB ?aS ?aL ?_; (case aP => exact rfl); (case aB => exact HB03.out); (case aF => exact (fun _ _ => trivial)); (case aO => exact HR.out); (case aS => exact (below_size HB03.out)); (case aL => omega); intro v36 w36 ho hb hg hat; obtain ⟨A4, c4, rfl⟩ := flat_slice ho; have n0_ := Aside0.mk ((hg.block b (blk_lt BK.out) (Kd.R_ne HR.out BK.out (by decide))).trans BK.out); have n1_ := Aside0.mk ho; have n2_ := Aside0.mk hb; have n3_ := Aside0.mk (F3.out.then_ (Fr.of_grown (S := [73, 79]) hg (fun k hk => by obtain ⟨cells, hc⟩ := own_typed HR.out.2.choose_spec.1 k hk; exact ⟨cells, 79, (0, 0), hc, by simp⟩))); clear BK HR HB03 F3 ho hb hg hat hc2; have BK := n0_; have HR := n1_; have HB03 := n2_; have F3 := n3_; clear n0_ n1_ n2_ n3_; have hc2 : w36.cell? ⟨b, 2, none⟩ = some (.slice A3 rs.length c3) := (blk_cell BK.out 2).trans rfl; have hf2 : w36.frozen? ⟨b, 2, none⟩ = false := blk_frozen BK.out 2))
    have el : (rs ++ [⟨1, par, 0, 0, 0⟩] : List Row).length = rs.length + 1 := by simp
    rw [el] at HR
    have n0_ := Aside0.mk (blk_put (cs' := #[.int .i64 most, .int .i64 (rs.length : Int), .slice A4 (rs.length + 1) c4]) BK.out 2 (.slice A4 (rs.length + 1) c4) rfl)
    have n1_ := Aside0.mk (Kd.R_mono (Kd.R_far (Kd.R_types HR.out BK.out (by intro q hq; rcases List.mem_cons.1 hq with rfl | hq; exact (by decide); cases hq)) (p := ⟨b, 2, none⟩) (fun k hk => hk.2) (.slice A4 (rs.length + 1) c4)) (ok' := fun _ => True) (fun _ _ => trivial))
    have n2_ := Aside0.mk (below_set (j := 2) (v := .slice A4 (rs.length + 1) c4) HB03.out GE.out)
    have n3_ := Aside0.mk (F3.out.then_ (Fr.set (j := 2) (v := .slice A4 (rs.length + 1) c4) BK.out (by simp)))
    clear BK HR HB03 F3 hc2 hf2 el
    generalize (w36.setCell { block := b, off := 2 } (Value.slice A4 (rs.length + 1) c4)) = W4 at n0_ n1_ n2_ n3_ ⊢
    have BK := n0_
    have HR := n1_
    have HB03 := n2_
    have F3 := n3_
    clear n0_ n1_ n2_ n3_
    have AD := Aside0.mk (add_any W4 b (rs.length : Int) ((blk_cell BK.out 1).trans rfl) (blk_frozen BK.out 1) (by omega) (by omega))
    go_wp2_with (first | (go_at_call 45; (with_reducible refine AD.out.mono ?_); rintro e w5 ⟨rfl, rfl⟩))
    go_ret2
    refine ⟨rfl, ⟨.slice A4 (rs.length + 1) c4, ?_, Kd.R_mono (Kd.R_far (Kd.R_types HR.out BK.out (by intro q hq; rcases List.mem_cons.1 hq with rfl | hq; exact (by decide); cases hq)) (p := ⟨b, 1, none⟩) (fun k hk => hk.2) _) (fun _ _ => trivial), GE.out⟩, F3.out.then_ (Fr.set BK.out (by simp)), below_set HB03.out GE.out⟩
    rw [show ((rs ++ [⟨1, par, 0, 0, 0⟩] : List Row).length : Int) = (rs.length : Int) + 1 by simp]
    exact blk_put BK.out 1 _ rfl
end

end Go.Proofs.Ytfllnpfikdhdbaa.PProcs
