import Derived.Test.YtfllnpfikdhdbaaPProcsx0
import Derived.Test.YtfllnpfikdhdbaaProcsA
import Derived.StillTailTactics
import Derived.Laws.LoneSync
import Derived.Laws.EntriesVeiled
namespace Go.Proofs.Ytfllnpfikdhdbaa.PProcs
open Go.RowKit Go.Proofs.YtfllnpfikdhdbaaW.PrintWords Go.Proofs.YtfllnpfikdhdbaaW.PrintLast Go.Proofs.YtfllnpfikdhdbaaW.PrintMore
attribute [local go_sem] max2_int min2_int max_two min_two max_three min_three max_four min_four
set_option linter.unusedVariables false
set_option linter.unusedSimpArgs false
theorem field0 (x0 x1 x2 x3 x4 : Int) (w : World) : (Instr.field 79 (.agg #[.int .i64 x0, .int .i64 x1, .int .i64 x2, .int .i64 x3, .int .i64 x4]) 0).run Try.prog w = .ok (.int .i64 x0) w := by kernel_rfl
theorem field1 (x0 x1 x2 x3 x4 : Int) (w : World) : (Instr.field 79 (.agg #[.int .i64 x0, .int .i64 x1, .int .i64 x2, .int .i64 x3, .int .i64 x4]) 1).run Try.prog w = .ok (.int .i64 x1) w := by kernel_rfl
theorem field2 (x0 x1 x2 x3 x4 : Int) (w : World) : (Instr.field 79 (.agg #[.int .i64 x0, .int .i64 x1, .int .i64 x2, .int .i64 x3, .int .i64 x4]) 2).run Try.prog w = .ok (.agg #[.int .i64 x2, .int .i64 x3]) w := by kernel_rfl
theorem field3 (x0 x1 x2 x3 x4 : Int) (w : World) : (Instr.field 79 (.agg #[.int .i64 x0, .int .i64 x1, .int .i64 x2, .int .i64 x3, .int .i64 x4]) 3).run Try.prog w = .ok (.int .i64 x4) w := by kernel_rfl
section
variable {w : World} {p : Value} {base : Nat} {most : Int} {rs : List Row}
set_option maxHeartbeats 1000000 in
theorem state_any (pid : Int) (h : TV w p base most rs) (hl : rs.length ≤ 1000000) : Calls Try.prog 24 #[p, .int .i64 pid] w fun e w' => e = .returned (.int .i64 (rowAt rs pid).st) ∧ Below w.heap.size w w' := by
  have H := Aside0.mk (row_any pid h hl)
  have hu79 := Try.underlying79
  clear h
  have hfd := field0
  go_enter Try.func24, Try.ntmps24
  go_wp2_with (first | (go_at_call 43; (with_reducible refine H.out.mono ?_); rintro e w' ⟨rfl, hb⟩; unfold aggT; have HB := Aside0.mk hb; clear hb))
  go_ret
  exact ⟨rfl, HB.out⟩
set_option maxHeartbeats 1000000 in
theorem code_any (pid : Int) (h : TV w p base most rs) (hl : rs.length ≤ 1000000) : Calls Try.prog 25 #[p, .int .i64 pid] w fun e w' => e = .returned (.int .i64 (rowAt rs pid).cd) ∧ Below w.heap.size w w' := by
  have H := Aside0.mk (row_any pid h hl)
  have hu79 := Try.underlying79
  clear h
  have hfd := field3
  go_enter Try.func25, Try.ntmps25
  go_wp2_with (first | (go_at_call 43; (with_reducible refine H.out.mono ?_); rintro e w' ⟨rfl, hb⟩; unfold aggT; have HB := Aside0.mk hb; clear hb))
  go_ret
  exact ⟨rfl, HB.out⟩
set_option maxHeartbeats 1000000 in
theorem parent_any (pid : Int) (h : TV w p base most rs) (hl : rs.length ≤ 1000000) : Calls Try.prog 29 #[p, .int .i64 pid] w fun e w' => e = .returned (.int .i64 (rowAt rs pid).pa) ∧ Below w.heap.size w w' := by
  have H := Aside0.mk (row_any pid h hl)
  have hu79 := Try.underlying79
  clear h
  have hfd := field1
  go_enter Try.func29, Try.ntmps29
  go_wp2_with (first | (go_at_call 43; (with_reducible refine H.out.mono ?_); rintro e w' ⟨rfl, hb⟩; unfold aggT; have HB := Aside0.mk hb; clear hb))
  go_ret
  exact ⟨rfl, HB.out⟩
set_option maxHeartbeats 1000000 in
theorem why_any (pid : Int) (h : TV w p base most rs) (hl : rs.length ≤ 1000000) : Calls Try.prog 26 #[p, .int .i64 pid] w fun e w' => e = .returned (.agg #[.int .i64 (rowAt rs pid).kd, .int .i64 (rowAt rs pid).ix]) ∧ Below w.heap.size w w' := by
  have TVH := Aside0.mk h
  have HB := Aside0.mk (Below.refl w.heap.size w)
  have hu36 := Try.underlying36
  have hu79 := Try.underlying79
  clear h
  have hfd := field2
  go_enter Try.func26, Try.ntmps26
  go_wp2_with (first | ((with_reducible refine gate_dst (N := 4) rfl ?_); refine box_event ?hg (N := 4) ?hd (cs := #[.int .i64 0, .int .i64 0]) (t := 36) ?hr ?_; (case hd => rfl); (case hg => rfl); (case hr => first | (go_simp; done) | (go_simp; rfl)); intro g4 hg w4 hbox hb; have n0_ := Aside0.mk (below_step HB.out hb); have n1_ := Aside0.mk (hbox); have n2_ := Aside0.mk ((by rw [hg]; exact below_size HB.out : w.heap.size ≤ g4)); clear HB; have HB := n0_; have BK4 := n1_; have GE4 := n2_; clear n0_ n1_ n2_; clear hg hbox hb) | (go_at_call 43; (with_reducible refine (row_any pid (TVH.out.below HB.out) hl).mono ?_); rintro e w7 ⟨rfl, hb⟩; unfold aggT; have n0_ := Aside0.mk (below_step HB.out hb); have n1_ := Aside0.mk (blk_below BK4.out hb); clear HB BK4; have HB := n0_; have BK4 := n1_; clear n0_ n1_; have hcz0 : w7.cell? ⟨g4, 0, none⟩ = some (.int .i64 0) := (blk_cell BK4.out 0).trans rfl; have hfz0 : w7.frozen? ⟨g4, 0, none⟩ = false := blk_frozen BK4.out 0; have hcz1 : w7.cell? ⟨g4, 1, none⟩ = some (.int .i64 0) := (blk_cell BK4.out 1).trans rfl; have hfz1 : w7.frozen? ⟨g4, 1, none⟩ = false := blk_frozen BK4.out 1; clear hb))
  refine bodyPost_ret (results_cell_row rfl _ _ g4 36 #[.int .i64 (rowAt rs pid).kd, .int .i64 (rowAt rs pid).ix] (0, 0) _ rfl (blk_put (blk_put BK4.out 0 _ rfl) 1 _ rfl) Try.underlying36 rfl (by kernel_rfl)) rfl ?_
  exact ⟨rfl, below_set (below_set HB.out GE4.out) GE4.out⟩
end
/-! ### the closures over a row -/
def liveB (r : Row) : Bool := decide (r.st = 1) || decide (r.st = 2)
set_option maxHeartbeats 1000000 in
theorem live_any (w : World) (r : Row) : Calls Try.prog 44 #[aggT r] w fun e w' => e = .returned (.bool (liveB r)) ∧ Below w.heap.size w w' := by
  have HB := Aside0.mk (Below.refl w.heap.size w)
  by_cases h1 : r.st = 1
  · have e1 : (r.st == 1) = true := by simpa using h1
    have er : liveB r = true := by simp [liveB, h1]
    rw [er]
    clear h1 er
    go_enter Try.func44, Try.ntmps44
    go_wp2_with (first | ((with_reducible refine gate_dst (N := 1) rfl ?_); refine box_event ?hg (N := 1) ?hd (cs := #[.int .i64 r.st, .int .i64 r.pa, .int .i64 r.kd, .int .i64 r.ix, .int .i64 r.cd]) (t := 79) ?hr ?_; (case hd => rfl); (case hg => rfl); (case hr => first | (go_simp; done) | (go_simp; rfl)); intro g1 hg w1 hbox hb; have n0_ := Aside0.mk (below_step HB.out hb); clear HB; have HB := n0_; clear n0_; have hcz0 : w1.cell? ⟨g1, 0, none⟩ = some (.int .i64 r.st) := (blk_cell hbox 0).trans rfl; clear hg hbox hb))
    go_ret
    exact ⟨rfl, HB.out⟩
  · have e1 : (r.st == 1) = false := by simpa using h1
    by_cases h2 : r.st = 2
    · have e2 : (r.st == 2) = true := by simpa using h2
      have er : liveB r = true := by simp [liveB, h2]
      rw [er]
      clear h1 er h2
      go_enter Try.func44, Try.ntmps44
      go_wp2_with (first | ((with_reducible refine gate_dst (N := 1) rfl ?_); refine box_event ?hg (N := 1) ?hd (cs := #[.int .i64 r.st, .int .i64 r.pa, .int .i64 r.kd, .int .i64 r.ix, .int .i64 r.cd]) (t := 79) ?hr ?_; (case hd => rfl); (case hg => rfl); (case hr => first | (go_simp; done) | (go_simp; rfl)); intro g1 hg w1 hbox hb; have n0_ := Aside0.mk (below_step HB.out hb); clear HB; have HB := n0_; clear n0_; have hcz0 : w1.cell? ⟨g1, 0, none⟩ = some (.int .i64 r.st) := (blk_cell hbox 0).trans rfl; clear hg hbox hb))
      go_ret
      exact ⟨rfl, HB.out⟩
    · have e2 : (r.st == 2) = false := by simpa using h2
      have er : liveB r = false := by simp [liveB, h1, h2]
      rw [er]
      clear h1 er h2
      go_enter Try.func44, Try.ntmps44
      go_wp2_with (first | ((with_reducible refine gate_dst (N := 1) rfl ?_); refine box_event ?hg (N := 1) ?hd (cs := #[.int .i64 r.st, .int .i64 r.pa, .int .i64 r.kd, .int .i64 r.ix, .int .i64 r.cd]) (t := 79) ?hr ?_; (case hd => rfl); (case hg => rfl); (case hr => first | (go_simp; done) | (go_simp; rfl)); intro g1 hg w1 hbox hb; have n0_ := Aside0.mk (below_step HB.out hb); clear HB; have HB := n0_; clear n0_; have hcz0 : w1.cell? ⟨g1, 0, none⟩ = some (.int .i64 r.st) := (blk_cell hbox 0).trans rfl; clear hg hbox hb))
      go_ret
      exact ⟨rfl, HB.out⟩
/-- It is in such a state. -/
def isB (s : Int) (r : Row) : Bool := decide (r.st = s)
set_option maxHeartbeats 1000000 in
theorem isready_any (w : World) (r : Row) : Calls Try.prog 55 #[aggT r] w fun e w' => e = .returned (.bool (isB 1 r)) ∧ Below w.heap.size w w' := by
  have HB := Aside0.mk (Below.refl w.heap.size w)
  by_cases h1 : r.st = 1
  · have e1 : (r.st == 1) = true := by simpa using h1
    rw [show isB 1 r = true from decide_eq_true h1]
    clear h1
    go_enter Try.func55, Try.ntmps55
    go_wp2_with (first | ((with_reducible refine gate_dst (N := 1) rfl ?_); refine box_event ?hg (N := 1) ?hd (cs := #[.int .i64 r.st, .int .i64 r.pa, .int .i64 r.kd, .int .i64 r.ix, .int .i64 r.cd]) (t := 79) ?hr ?_; (case hd => rfl); (case hg => rfl); (case hr => first | (go_simp; done) | (go_simp; rfl)); intro g1 hg w1 hbox hb; have n0_ := Aside0.mk (below_step HB.out hb); clear HB; have HB := n0_; clear n0_; have hcz0 : w1.cell? ⟨g1, 0, none⟩ = some (.int .i64 r.st) := (blk_cell hbox 0).trans rfl; clear hg hbox hb))
    go_ret
    exact ⟨rfl, HB.out⟩
  · have e1 : (r.st == 1) = false := by simpa using h1
    rw [show isB 1 r = false from decide_eq_false h1]
    clear h1
    go_enter Try.func55, Try.ntmps55
    go_wp2_with (first | ((with_reducible refine gate_dst (N := 1) rfl ?_); refine box_event ?hg (N := 1) ?hd (cs := #[.int .i64 r.st, .int .i64 r.pa, .int .i64 r.kd, .int .i64 r.ix, .int .i64 r.cd]) (t := 79) ?hr ?_; (case hd => rfl); (case hg => rfl); (case hr => first | (go_simp; done) | (go_simp; rfl)); intro g1 hg w1 hbox hb; have n0_ := Aside0.mk (below_step HB.out hb); clear HB; have HB := n0_; clear n0_; have hcz0 : w1.cell? ⟨g1, 0, none⟩ = some (.int .i64 r.st) := (blk_cell hbox 0).trans rfl; clear hg hbox hb))
    go_ret
    exact ⟨rfl, HB.out⟩
set_option maxHeartbeats 1000000 in
theorem isblocked_any (w : World) (r : Row) : Calls Try.prog 56 #[aggT r] w fun e w' => e = .returned (.bool (isB 2 r)) ∧ Below w.heap.size w w' := by
  have HB := Aside0.mk (Below.refl w.heap.size w)
  by_cases h1 : r.st = 2
  · have e1 : (r.st == 2) = true := by simpa using h1
    rw [show isB 2 r = true from decide_eq_true h1]
    clear h1
    go_enter Try.func56, Try.ntmps56
    go_wp2_with (first | ((with_reducible refine gate_dst (N := 1) rfl ?_); refine box_event ?hg (N := 1) ?hd (cs := #[.int .i64 r.st, .int .i64 r.pa, .int .i64 r.kd, .int .i64 r.ix, .int .i64 r.cd]) (t := 79) ?hr ?_; (case hd => rfl); (case hg => rfl); (case hr => first | (go_simp; done) | (go_simp; rfl)); intro g1 hg w1 hbox hb; have n0_ := Aside0.mk (below_step HB.out hb); clear HB; have HB := n0_; clear n0_; have hcz0 : w1.cell? ⟨g1, 0, none⟩ = some (.int .i64 r.st) := (blk_cell hbox 0).trans rfl; clear hg hbox hb))
    go_ret
    exact ⟨rfl, HB.out⟩
  · have e1 : (r.st == 2) = false := by simpa using h1
    rw [show isB 2 r = false from decide_eq_false h1]
    clear h1
    go_enter Try.func56, Try.ntmps56
    go_wp2_with (first | ((with_reducible refine gate_dst (N := 1) rfl ?_); refine box_event ?hg (N := 1) ?hd (cs := #[.int .i64 r.st, .int .i64 r.pa, .int .i64 r.kd, .int .i64 r.ix, .int .i64 r.cd]) (t := 79) ?hr ?_; (case hd => rfl); (case hg => rfl); (case hr => first | (go_simp; done) | (go_simp; rfl)); intro g1 hg w1 hbox hb; have n0_ := Aside0.mk (below_step HB.out hb); clear HB; have HB := n0_; clear n0_; have hcz0 : w1.cell? ⟨g1, 0, none⟩ = some (.int .i64 r.st) := (blk_cell hbox 0).trans rfl; clear hg hbox hb))
    go_ret
    exact ⟨rfl, HB.out⟩
def kidB (q : Int) (r : Row) : Bool := decide (0 < q) && (liveB r && decide (r.pa = q))
set_option maxHeartbeats 1000000 in
theorem iskid_any (w : World) (r : Row) (bp : Nat) (q : Int) (hp : w.heap[bp]? = some (.cells #[.int .i64 q] 3 (0, 0))) : Calls Try.prog 57 #[aggT r, .pointer (some ⟨bp, 0, none⟩)] w fun e w' => e = .returned (.bool (kidB q r)) ∧ Below w.heap.size w w' := by
  have HB := Aside0.mk (Below.refl w.heap.size w)
  have HP := Aside0.mk hp
  clear hp
  by_cases h0 : 0 < q
  · by_cases hl : liveB r = true
    · by_cases h1 : r.pa = q
      · have e1 : (r.pa == q) = true := by simpa using h1
        have er : kidB q r = true := by simp [kidB, h0, hl, h1]
        have L := Aside0.mk hl
        rw [er]
        clear hl h1 er
        go_enter Try.func57, Try.ntmps57
        go_wp2_with (first | ((with_reducible refine gate_dst (N := 2) rfl ?_); refine box_event ?hg (N := 2) ?hd (cs := #[.int .i64 r.st, .int .i64 r.pa, .int .i64 r.kd, .int .i64 r.ix, .int .i64 r.cd]) (t := 79) ?hr ?_; (case hd => rfl); (case hg => rfl); (case hr => first | (go_simp; done) | (go_simp; rfl)); intro g2 hg w2 hbox hb; have n0_ := Aside0.mk (below_step HB.out hb); have n1_ := Aside0.mk (blk_below HP.out hb); have n2_ := Aside0.mk (hbox); clear HB HP; have HB := n0_; have HP := n1_; have BK2 := n2_; clear n0_ n1_ n2_; have hcz0 : w2.cell? ⟨g2, 0, none⟩ = some (.int .i64 r.st) := (blk_cell hbox 0).trans rfl; have hcz1 : w2.cell? ⟨g2, 1, none⟩ = some (.int .i64 r.pa) := (blk_cell hbox 1).trans rfl; have hcz2 : w2.cell? ⟨g2, 2, none⟩ = some (.int .i64 r.kd) := (blk_cell hbox 2).trans rfl; have hcz3 : w2.cell? ⟨g2, 3, none⟩ = some (.int .i64 r.ix) := (blk_cell hbox 3).trans rfl; have hcz4 : w2.cell? ⟨g2, 4, none⟩ = some (.int .i64 r.cd) := (blk_cell hbox 4).trans rfl; have hcp : w2.cell? ⟨bp, 0, none⟩ = some (.int .i64 q) := (blk_cell HP.out 0).trans rfl; clear hg hbox hb) | (go_at_call 44; (with_reducible refine (live_any _ r).mono ?_); rintro e w8 ⟨rfl, hb⟩; rw [L.out]; have n0_ := Aside0.mk (below_step HB.out hb); have n1_ := Aside0.mk (blk_below HP.out hb); have n2_ := Aside0.mk (blk_below BK2.out hb); clear HB HP BK2; have HB := n0_; have HP := n1_; have BK2 := n2_; clear n0_ n1_ n2_; have hcp2 : w8.cell? ⟨bp, 0, none⟩ = some (.int .i64 q) := (blk_cell HP.out 0).trans rfl; have hcz12 : w8.cell? ⟨g2, 1, none⟩ = some (.int .i64 r.pa) := (blk_cell BK2.out 1).trans rfl; clear hb))
        go_ret
        exact ⟨rfl, HB.out⟩
      · have e1 : (r.pa == q) = false := by simpa using h1
        have er : kidB q r = false := by simp [kidB, h1]
        have L := Aside0.mk hl
        rw [er]
        clear hl h1 er
        go_enter Try.func57, Try.ntmps57
        go_wp2_with (first | ((with_reducible refine gate_dst (N := 2) rfl ?_); refine box_event ?hg (N := 2) ?hd (cs := #[.int .i64 r.st, .int .i64 r.pa, .int .i64 r.kd, .int .i64 r.ix, .int .i64 r.cd]) (t := 79) ?hr ?_; (case hd => rfl); (case hg => rfl); (case hr => first | (go_simp; done) | (go_simp; rfl)); intro g2 hg w2 hbox hb; have n0_ := Aside0.mk (below_step HB.out hb); have n1_ := Aside0.mk (blk_below HP.out hb); have n2_ := Aside0.mk (hbox); clear HB HP; have HB := n0_; have HP := n1_; have BK2 := n2_; clear n0_ n1_ n2_; have hcz0 : w2.cell? ⟨g2, 0, none⟩ = some (.int .i64 r.st) := (blk_cell hbox 0).trans rfl; have hcz1 : w2.cell? ⟨g2, 1, none⟩ = some (.int .i64 r.pa) := (blk_cell hbox 1).trans rfl; have hcz2 : w2.cell? ⟨g2, 2, none⟩ = some (.int .i64 r.kd) := (blk_cell hbox 2).trans rfl; have hcz3 : w2.cell? ⟨g2, 3, none⟩ = some (.int .i64 r.ix) := (blk_cell hbox 3).trans rfl; have hcz4 : w2.cell? ⟨g2, 4, none⟩ = some (.int .i64 r.cd) := (blk_cell hbox 4).trans rfl; have hcp : w2.cell? ⟨bp, 0, none⟩ = some (.int .i64 q) := (blk_cell HP.out 0).trans rfl; clear hg hbox hb) | (go_at_call 44; (with_reducible refine (live_any _ r).mono ?_); rintro e w8 ⟨rfl, hb⟩; rw [L.out]; have n0_ := Aside0.mk (below_step HB.out hb); have n1_ := Aside0.mk (blk_below HP.out hb); have n2_ := Aside0.mk (blk_below BK2.out hb); clear HB HP BK2; have HB := n0_; have HP := n1_; have BK2 := n2_; clear n0_ n1_ n2_; have hcp2 : w8.cell? ⟨bp, 0, none⟩ = some (.int .i64 q) := (blk_cell HP.out 0).trans rfl; have hcz12 : w8.cell? ⟨g2, 1, none⟩ = some (.int .i64 r.pa) := (blk_cell BK2.out 1).trans rfl; clear hb))
        go_ret
        exact ⟨rfl, HB.out⟩
    · have hl' : liveB r = false := Bool.eq_false_iff.2 hl
      have er : kidB q r = false := by simp [kidB, hl']
      have L := Aside0.mk hl'
      rw [er]
      clear hl hl' er
      go_enter Try.func57, Try.ntmps57
      go_wp2_with (first | ((with_reducible refine gate_dst (N := 2) rfl ?_); refine box_event ?hg (N := 2) ?hd (cs := #[.int .i64 r.st, .int .i64 r.pa, .int .i64 r.kd, .int .i64 r.ix, .int .i64 r.cd]) (t := 79) ?hr ?_; (case hd => rfl); (case hg => rfl); (case hr => first | (go_simp; done) | (go_simp; rfl)); intro g2 hg w2 hbox hb; have n0_ := Aside0.mk (below_step HB.out hb); have n1_ := Aside0.mk (blk_below HP.out hb); have n2_ := Aside0.mk (hbox); clear HB HP; have HB := n0_; have HP := n1_; have BK2 := n2_; clear n0_ n1_ n2_; have hcz0 : w2.cell? ⟨g2, 0, none⟩ = some (.int .i64 r.st) := (blk_cell hbox 0).trans rfl; have hcz1 : w2.cell? ⟨g2, 1, none⟩ = some (.int .i64 r.pa) := (blk_cell hbox 1).trans rfl; have hcz2 : w2.cell? ⟨g2, 2, none⟩ = some (.int .i64 r.kd) := (blk_cell hbox 2).trans rfl; have hcz3 : w2.cell? ⟨g2, 3, none⟩ = some (.int .i64 r.ix) := (blk_cell hbox 3).trans rfl; have hcz4 : w2.cell? ⟨g2, 4, none⟩ = some (.int .i64 r.cd) := (blk_cell hbox 4).trans rfl; have hcp : w2.cell? ⟨bp, 0, none⟩ = some (.int .i64 q) := (blk_cell HP.out 0).trans rfl; clear hg hbox hb) | (go_at_call 44; (with_reducible refine (live_any _ r).mono ?_); rintro e w8 ⟨rfl, hb⟩; rw [L.out]; have n0_ := Aside0.mk (below_step HB.out hb); have n1_ := Aside0.mk (blk_below HP.out hb); have n2_ := Aside0.mk (blk_below BK2.out hb); clear HB HP BK2; have HB := n0_; have HP := n1_; have BK2 := n2_; clear n0_ n1_ n2_; have hcp2 : w8.cell? ⟨bp, 0, none⟩ = some (.int .i64 q) := (blk_cell HP.out 0).trans rfl; have hcz12 : w8.cell? ⟨g2, 1, none⟩ = some (.int .i64 r.pa) := (blk_cell BK2.out 1).trans rfl; clear hb))
      go_ret
      exact ⟨rfl, HB.out⟩
  · have er : kidB q r = false := by simp [kidB, h0]
    rw [er]
    clear er
    go_enter Try.func57, Try.ntmps57
    go_wp2_with (first | ((with_reducible refine gate_dst (N := 2) rfl ?_); refine box_event ?hg (N := 2) ?hd (cs := #[.int .i64 r.st, .int .i64 r.pa, .int .i64 r.kd, .int .i64 r.ix, .int .i64 r.cd]) (t := 79) ?hr ?_; (case hd => rfl); (case hg => rfl); (case hr => first | (go_simp; done) | (go_simp; rfl)); intro g2 hg w2 hbox hb; have n0_ := Aside0.mk (below_step HB.out hb); have n1_ := Aside0.mk (blk_below HP.out hb); have n2_ := Aside0.mk (hbox); clear HB HP; have HB := n0_; have HP := n1_; have BK2 := n2_; clear n0_ n1_ n2_; have hcz0 : w2.cell? ⟨g2, 0, none⟩ = some (.int .i64 r.st) := (blk_cell hbox 0).trans rfl; have hcz1 : w2.cell? ⟨g2, 1, none⟩ = some (.int .i64 r.pa) := (blk_cell hbox 1).trans rfl; have hcz2 : w2.cell? ⟨g2, 2, none⟩ = some (.int .i64 r.kd) := (blk_cell hbox 2).trans rfl; have hcz3 : w2.cell? ⟨g2, 3, none⟩ = some (.int .i64 r.ix) := (blk_cell hbox 3).trans rfl; have hcz4 : w2.cell? ⟨g2, 4, none⟩ = some (.int .i64 r.cd) := (blk_cell hbox 4).trans rfl; have hcp : w2.cell? ⟨bp, 0, none⟩ = some (.int .i64 q) := (blk_cell HP.out 0).trans rfl; clear hg hbox hb))
    go_ret
    exact ⟨rfl, HB.out⟩

end Go.Proofs.Ytfllnpfikdhdbaa.PProcs
