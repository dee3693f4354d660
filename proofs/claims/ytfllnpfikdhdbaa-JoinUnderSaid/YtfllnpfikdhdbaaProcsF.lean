import Derived.Test.YtfllnpfikdhdbaaPProcsx0
import Derived.Test.YtfllnpfikdhdbaaProcsA
import Derived.Test.YtfllnpfikdhdbaaProcsB
import Derived.Test.YtfllnpfikdhdbaaProcsC
import Derived.Test.YtfllnpfikdhdbaaProcsD
import Derived.Test.YtfllnpfikdhdbaaProcsE
import Derived.StillTailTactics
import Derived.Laws.LoneSync
import Derived.Laws.EntriesVeiled
namespace Go.Proofs.Ytfllnpfikdhdbaa.PProcs
open Go.RowKit Go.Proofs.YtfllnpfikdhdbaaW.PrintWords Go.Proofs.YtfllnpfikdhdbaaW.PrintLast Go.Proofs.YtfllnpfikdhdbaaW.PrintMore
attribute [local go_sem] max2_int min2_int max_two min_two max_three min_three max_four min_four
set_option linter.unusedVariables false
set_option linter.unusedSimpArgs false
/-! The reference's table. -/
def RBx (W : World) (b g c base : Nat) (most : Int) (rs : List Row) : Prop :=
  W.heap[b]? = some (.cells #[.int .i64 most, .slice (some ⟨g, 0, none⟩) rs.length c] 77 (0, 0)) ∧ kP.R 83 W base (fun _ => True) (.slice (some ⟨g, 0, none⟩) rs.length c) rs ∧ base ≤ b ∧ rs.length ≤ c
section
variable {W : World} {b g c base : Nat} {most : Int} {rs : List Row}
theorem RB.x (h : RB W b base most rs) (hn : 0 < rs.length) : ∃ g c, RBx W b g c base most rs := by
  obtain ⟨v, a, r, q⟩ := h
  obtain ⟨g, c, rfl, hc, _⟩ := flat_form r hn
  exact ⟨g, c, a, r, q, hc⟩
theorem RBx.rb (h : RBx W b g c base most rs) : RB W b base most rs := ⟨_, h.1, h.2.1, h.2.2.1⟩
theorem RBx.blk (h : RBx W b g c base most rs) : ∃ cells, W.heap[g]? = some (.cells cells 83 (0, 0)) := own_typed h.2.1.2.choose_spec.1 g rfl
theorem RBx.ge (h : RBx W b g c base most rs) : base ≤ g := own_base h.2.1.2.choose_spec.1 g rfl
theorem RBx.below (h : RBx W b g c base most rs) {W1 : World} (hb : Below W.heap.size W W1) : RBx W1 b g c base most rs := ⟨blk_below h.1 hb, Kd.R_below h.2.1 hb, h.2.2⟩
theorem RBx.cell (h : RBx W b g c base most rs) {i j : Nat} {u : Value} (hi : i < rs.length) (hu : (encP (rs.getD i Row.z))[j]? = some u) : W.cell? ⟨g, i * 5 + j, none⟩ = some u ∧ W.frozen? ⟨g, i * 5 + j, none⟩ = false := flat_cell h.2.1 hi hu
theorem RBx.fr (h : RBx W b g c base most rs) (off : Nat) (u : Value) : Fr [77, 83] W (W.setCell ⟨g, off, none⟩ u) := by
  obtain ⟨cells, hc⟩ := h.blk
  exact Fr.set hc (by simp)
theorem RBx.put (h : RBx W b g c base most rs) {i j : Nat} {u : Value} {x' : Row} (hi : i < rs.length) (hj : j < 5) (hx : encP x' = (encP (rs.getD i Row.z)).set j u) : RBx (W.setCell ⟨g, i * 5 + j, none⟩ u) b g c base most (rs.set i x') := by
  obtain ⟨cells, hc⟩ := h.blk
  have hne : b ≠ g := cells_ne h.1 hc (by decide)
  refine ⟨?_, ?_, h.2.2.1, by rw [List.length_set]; exact h.2.2.2⟩
  · rw [List.length_set]
    exact blk_far h.1 (p := ⟨g, i * 5 + j, none⟩) hne u
  · rw [List.length_set]
    exact flat_put h.2.1 hi hj hx
end
section
variable {w : World} {b base : Nat} {most : Int} {rs : List Row}
set_option maxHeartbeats 1000000 in
theorem rstate_any (pid : Int) (h : RB w b base most rs) (hl : rs.length ≤ 1000000) : Calls Try.prog 48 #[.pointer (some ⟨b, 0, none⟩), .int .i64 pid] w fun e w' => e = .returned (.int .i64 (rowAt rs pid).st) ∧ w = w' := by
  by_cases h1 : pid < 1
  · rw [rowAt_out (.inl h1)]
    clear h
    go_enter Try.func48, Try.ntmps48
    go_wp2
    go_ret
    exact ⟨rfl, rfl⟩
  · by_cases h2 : (rs.length : Int) < pid
    · rw [rowAt_out (.inr h2)]
      obtain ⟨v, hb, hr, hge⟩ := h
      obtain ⟨A, c, rfl⟩ := flat_slice hr
      have hc1 : w.cell? ⟨b, 1, none⟩ = some (.slice A rs.length c) := (blk_cell hb 1).trans rfl
      have h2b : decide ((rs.length : Int) < pid) = true := decide_eq_true h2
      clear hb hr hge h2
      go_enter Try.func48, Try.ntmps48
      go_wp2
      go_ret
      exact ⟨rfl, rfl⟩
    · obtain ⟨i, rfl⟩ : ∃ i : Nat, pid = (i : Int) + 1 := ⟨(pid - 1).toNat, by omega⟩
      have hi : i < rs.length := by omega
      rw [rowAt_in hi]
      obtain ⟨g, c, X⟩ := h.x (by omega)
      generalize hrow : rs.getD i Row.z = r
      have hc1 : w.cell? ⟨b, 1, none⟩ = some (.slice (some ⟨g, 0, none⟩) rs.length c) := (blk_cell X.1 1).trans rfl
      have f1 : w.cell? ⟨g, i * 5 + 1, none⟩ = some (.int .i64 r.st) := (X.cell hi (j := 1) (by rw [hrow]; rfl)).1
      have h2b : decide ((rs.length : Int) < (i : Int) + 1) = false := decide_eq_false h2
      have hii : (i : Int) < (rs.length : Int) := by omega
      clear h X hrow h2
      go_enter Try.func48, Try.ntmps48
      go_wp2
      go_ret
      exact ⟨rfl, rfl⟩
set_option maxHeartbeats 1000000 in
theorem rlives_any (pid : Int) (h : RB w b base most rs) (hl : rs.length ≤ 1000000) : Calls Try.prog 46 #[.pointer (some ⟨b, 0, none⟩), .int .i64 pid] w fun e w' => e = .returned (.bool (liveB (rowAt rs pid))) ∧ w = w' := by
  have H := Aside0.mk (rstate_any pid h hl)
  clear h
  generalize rowAt rs pid = r at H
  by_cases h1 : r.st = 1
  · have e1 : (r.st == 1) = true := by simpa using h1
    have er : liveB r = true := by simp [liveB, h1]
    rw [er]
    clear h1 er
    go_enter Try.func46, Try.ntmps46
    go_wp2_with (first | (go_at_call 48; (with_reducible refine H.out.mono ?_); rintro e w' ⟨rfl, rfl⟩))
    go_ret
    exact ⟨rfl, rfl⟩
  · have e1 : (r.st == 1) = false := by simpa using h1
    by_cases h2 : r.st = 2
    · have e2 : (r.st == 2) = true := by simpa using h2
      have er : liveB r = true := by simp [liveB, h2]
      rw [er]
      clear h1 er h2
      go_enter Try.func46, Try.ntmps46
      go_wp2_with (first | (go_at_call 48; (with_reducible refine H.out.mono ?_); rintro e w' ⟨rfl, rfl⟩))
      go_ret
      exact ⟨rfl, rfl⟩
    · have e2 : (r.st == 2) = false := by simpa using h2
      have er : liveB r = false := by simp [liveB, h1, h2]
      rw [er]
      clear h1 er h2
      go_enter Try.func46, Try.ntmps46
      go_wp2_with (first | (go_at_call 48; (with_reducible refine H.out.mono ?_); rintro e w' ⟨rfl, rfl⟩))
      go_ret
      exact ⟨rfl, rfl⟩
set_option maxHeartbeats 1000000 in
theorem rparent_any (pid : Int) (h : RB w b base most rs) (hl : rs.length ≤ 1000000) (hs : ∀ i, i < rs.length → (rs.getD i Row.z).st ≠ 0) : Calls Try.prog 52 #[.pointer (some ⟨b, 0, none⟩), .int .i64 pid] w fun e w' => e = .returned (.int .i64 (rowAt rs pid).pa) ∧ w = w' := by
  have H := rstate_any pid h hl
  by_cases h0 : (rowAt rs pid).st = 0
  · have ez : rowAt rs pid = Row.z := by
      by_cases q : 1 ≤ pid ∧ pid ≤ (rs.length : Int)
      · have := hs (pid - 1).toNat (by omega)
        unfold rowAt at h0
        rw [if_pos q] at h0
        exact absurd h0 this
      · exact rowAt_out (by omega)
    rw [ez] at H ⊢
    have HH := Aside0.mk H
    clear h H h0 ez
    go_enter Try.func52, Try.ntmps52
    go_wp2_with (first | (go_at_call 48; (with_reducible refine HH.out.mono ?_); rintro e w' ⟨rfl, rfl⟩))
    go_ret
    exact ⟨rfl, rfl⟩
  · obtain ⟨i, rfl, hi, er⟩ := rowAt_st h0
    rw [er] at H h0 ⊢
    obtain ⟨g, c, X⟩ := h.x (by omega)
    generalize hrow : rs.getD i Row.z = r at H h0
    have HH := Aside0.mk H
    have hb0 : (r.st == 0) = false := by simpa using h0
    have hc1 : w.cell? ⟨b, 1, none⟩ = some (.slice (some ⟨g, 0, none⟩) rs.length c) := (blk_cell X.1 1).trans rfl
    have f0 : w.cell? ⟨g, i * 5, none⟩ = some (.int .i64 r.pa) := (X.cell hi (j := 0) (by rw [hrow]; rfl)).1
    have hii : (i : Int) < (rs.length : Int) := by omega
    clear h X hrow H h0 er hs
    go_enter Try.func52, Try.ntmps52
    go_wp2_with (first | (go_at_call 48; (with_reducible refine HH.out.mono ?_); rintro e w' ⟨rfl, rfl⟩))
    go_ret
    exact ⟨rfl, rfl⟩
set_option maxHeartbeats 1000000 in
theorem rcode_any (pid : Int) (h : RB w b base most rs) (hl : rs.length ≤ 1000000) (hs : ∀ i, i < rs.length → (rs.getD i Row.z).st ≠ 0) : Calls Try.prog 51 #[.pointer (some ⟨b, 0, none⟩), .int .i64 pid] w fun e w' => e = .returned (.int .i64 (rowAt rs pid).cd) ∧ w = w' := by
  have H := rstate_any pid h hl
  by_cases h0 : (rowAt rs pid).st = 0
  · have ez : rowAt rs pid = Row.z := by
      by_cases q : 1 ≤ pid ∧ pid ≤ (rs.length : Int)
      · have := hs (pid - 1).toNat (by omega)
        unfold rowAt at h0
        rw [if_pos q] at h0
        exact absurd h0 this
      · exact rowAt_out (by omega)
    rw [ez] at H ⊢
    have HH := Aside0.mk H
    clear h H h0 ez
    go_enter Try.func51, Try.ntmps51
    go_wp2_with (first | (go_at_call 48; (with_reducible refine HH.out.mono ?_); rintro e w' ⟨rfl, rfl⟩))
    go_ret
    exact ⟨rfl, rfl⟩
  · obtain ⟨i, rfl, hi, er⟩ := rowAt_st h0
    rw [er] at H h0 ⊢
    obtain ⟨g, c, X⟩ := h.x (by omega)
    generalize hrow : rs.getD i Row.z = r at H h0
    have HH := Aside0.mk H
    have hb0 : (r.st == 0) = false := by simpa using h0
    have hc1 : w.cell? ⟨b, 1, none⟩ = some (.slice (some ⟨g, 0, none⟩) rs.length c) := (blk_cell X.1 1).trans rfl
    have f4 : w.cell? ⟨g, i * 5 + 4, none⟩ = some (.int .i64 r.cd) := (X.cell hi (j := 4) (by rw [hrow]; rfl)).1
    have hii : (i : Int) < (rs.length : Int) := by omega
    clear h X hrow H h0 er hs
    go_enter Try.func51, Try.ntmps51
    go_wp2_with (first | (go_at_call 48; (with_reducible refine HH.out.mono ?_); rintro e w' ⟨rfl, rfl⟩))
    go_ret
    exact ⟨rfl, rfl⟩
set_option maxHeartbeats 1000000 in
theorem rwhy_any (pid : Int) (h : RB w b base most rs) (hl : rs.length ≤ 1000000) (hs : ∀ i, i < rs.length → (rs.getD i Row.z).st ≠ 0) : Calls Try.prog 50 #[.pointer (some ⟨b, 0, none⟩), .int .i64 pid] w fun e w' => e = .returned (.agg #[.int .i64 (rowAt rs pid).kd, .int .i64 (rowAt rs pid).ix]) ∧ Below w.heap.size w w' := by
  have RH := Aside0.mk h
  have HB := Aside0.mk (Below.refl w.heap.size w)
  have hu36 := Try.underlying36
  by_cases h0 : (rowAt rs pid).st = 0
  · have ez : rowAt rs pid = Row.z := by
      by_cases q : 1 ≤ pid ∧ pid ≤ (rs.length : Int)
      · have := hs (pid - 1).toNat (by omega)
        unfold rowAt at h0
        rw [if_pos q] at h0
        exact absurd h0 this
      · exact rowAt_out (by omega)
    have EZ := Aside0.mk ez
    rw [ez]
    clear h h0 ez
    go_enter Try.func50, Try.ntmps50
    go_wp2_with (first | ((with_reducible refine gate_dst (N := 4) rfl ?_); refine box_event ?hg (N := 4) ?hd (cs := #[.int .i64 0, .int .i64 0]) (t := 36) ?hr ?_; (case hd => rfl); (case hg => rfl); (case hr => first | (go_simp; done) | (go_simp; rfl)); intro g4 hg w4 hbox hb; have n0_ := Aside0.mk (below_step HB.out hb); have n1_ := Aside0.mk (hbox); have n2_ := Aside0.mk ((by rw [hg]; exact below_size HB.out : w.heap.size ≤ g4)); clear HB; have HB := n0_; have BK4 := n1_; have GE4 := n2_; clear n0_ n1_ n2_; clear hg hbox hb) | (go_at_call 48; (refine (rstate_any pid (RH.out.below HB.out) hl).mono ?_); rw [EZ.out]; rintro e w7 ⟨rfl, rfl⟩; have hcz0 : w4.cell? ⟨g4, 0, none⟩ = some (.int .i64 0) := (blk_cell BK4.out 0).trans rfl; have hfz0 : w4.frozen? ⟨g4, 0, none⟩ = false := blk_frozen BK4.out 0; have hcz1 : w4.cell? ⟨g4, 1, none⟩ = some (.int .i64 0) := (blk_cell BK4.out 1).trans rfl; have hfz1 : w4.frozen? ⟨g4, 1, none⟩ = false := blk_frozen BK4.out 1))
    refine bodyPost_ret (results_cell_row rfl _ _ g4 36 #[.int .i64 0, .int .i64 0] (0, 0) _ rfl (blk_put (blk_put BK4.out 0 _ rfl) 1 _ rfl) Try.underlying36 rfl (by kernel_rfl)) rfl ?_
    exact ⟨rfl, below_set (below_set HB.out GE4.out) GE4.out⟩
  · obtain ⟨i, rfl, hi, er⟩ := rowAt_st h0
    have ER := Aside0.mk er
    rw [er] at h0 ⊢
    obtain ⟨g, c, X⟩ := h.x (by omega)
    have HX := Aside0.mk X
    have HI := Aside0.mk hi
    generalize hrow : rs.getD i Row.z = r at h0 ER
    have HR := Aside0.mk hrow
    have hb0 : (r.st == 0) = false := by simpa using h0
    have hii : (i : Int) < (rs.length : Int) := by omega
    clear h X hrow h0 er hs hi
    go_enter Try.func50, Try.ntmps50
    go_wp2_with (first | ((with_reducible refine gate_dst (N := 4) rfl ?_); refine box_event ?hg (N := 4) ?hd (cs := #[.int .i64 0, .int .i64 0]) (t := 36) ?hr ?_; (case hd => rfl); (case hg => rfl); (case hr => first | (go_simp; done) | (go_simp; rfl)); intro g4 hg w4 hbox hb; have n0_ := Aside0.mk (below_step HB.out hb); have n1_ := Aside0.mk (hbox); have n2_ := Aside0.mk ((by rw [hg]; exact below_size HB.out : w.heap.size ≤ g4)); clear HB; have HB := n0_; have BK4 := n1_; have GE4 := n2_; clear n0_ n1_ n2_; clear hg hbox hb) | (go_at_call 48; (refine (rstate_any ((i : Int) + 1) (RH.out.below HB.out) hl).mono ?_); rw [ER.out]; rintro e w7 ⟨rfl, rfl⟩; have hcz0 : w4.cell? ⟨g4, 0, none⟩ = some (.int .i64 0) := (blk_cell BK4.out 0).trans rfl; have hfz0 : w4.frozen? ⟨g4, 0, none⟩ = false := blk_frozen BK4.out 0; have hcz1 : w4.cell? ⟨g4, 1, none⟩ = some (.int .i64 0) := (blk_cell BK4.out 1).trans rfl; have hfz1 : w4.frozen? ⟨g4, 1, none⟩ = false := blk_frozen BK4.out 1; have X4 := HX.out.below HB.out; have hc1 : w4.cell? ⟨b, 1, none⟩ = some (.slice (some ⟨g, 0, none⟩) rs.length c) := (blk_cell X4.1 1).trans rfl; have f2 : w4.cell? ⟨g, i * 5 + 2, none⟩ = some (.int .i64 r.kd) := (X4.cell HI.out (j := 2) (by rw [HR.out]; rfl)).1; have f3 : w4.cell? ⟨g, i * 5 + 3, none⟩ = some (.int .i64 r.ix) := (X4.cell HI.out (j := 3) (by rw [HR.out]; rfl)).1; clear X4))
    refine bodyPost_ret (results_cell_row rfl _ _ g4 36 #[.int .i64 r.kd, .int .i64 r.ix] (0, 0) _ rfl (blk_put (blk_put BK4.out 0 _ rfl) 1 _ rfl) Try.underlying36 rfl (by kernel_rfl)) rfl ?_
    exact ⟨rfl, below_set (below_set HB.out GE4.out) GE4.out⟩
end

end Go.Proofs.Ytfllnpfikdhdbaa.PProcs
