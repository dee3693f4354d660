import Derived.Test.YtfllnpfikdhdbaaPProcsx0
import Derived.Test.YtfllnpfikdhdbaaProcsA
import Derived.Test.YtfllnpfikdhdbaaProcsB
import Derived.Test.YtfllnpfikdhdbaaProcsC
import Derived.Test.YtfllnpfikdhdbaaProcsD
import Derived.StillTailTactics
import Derived.Laws.LoneSync
import Derived.Laws.EntriesVeiled
namespace Go.Proofs.Ytfllnpfikdhdbaa.PProcs
open Go.RowKit Go.Proofs.YtfllnpfikdhdbaaW.PrintWords Go.Proofs.YtfllnpfikdhdbaaW.PrintLast Go.Proofs.YtfllnpfikdhdbaaW.PrintMore
attribute [local go_sem] max2_int min2_int max_two min_two max_three min_three max_four min_four
set_option linter.unusedVariables false
set_option linter.unusedSimpArgs false
theorem cells_ne {W : World} {b g t t' : Nat} {cs cs' : Array Value} {z z' : Nat × Nat} (h : W.heap[b]? = some (.cells cs t z)) (k : W.heap[g]? = some (.cells cs' t' z')) (hne : t ≠ t') : b ≠ g := by
  rintro rfl
  rw [h] at k
  injection k with k
  injection k with _ k
  exact hne k
/-- The table, its rows' place told. -/
def TBx (W : World) (b g c base : Nat) (most : Int) (rs : List Row) : Prop :=
  W.heap[b]? = some (.cells #[.int .i64 most, .int .i64 (rs.length : Int), .slice (some ⟨g, 0, none⟩) rs.length c] 73 (0, 0)) ∧ kT.R 79 W base (fun _ => True) (.slice (some ⟨g, 0, none⟩) rs.length c) rs ∧ base ≤ b ∧ rs.length ≤ c
section
variable {W : World} {b g c base : Nat} {most : Int} {rs : List Row}
theorem TB.x (h : TB W b base most rs) (hn : 0 < rs.length) : ∃ g c, TBx W b g c base most rs := by
  obtain ⟨v, a, r, q⟩ := h
  obtain ⟨g, c, rfl, hc, _⟩ := flat_form r hn
  exact ⟨g, c, a, r, q, hc⟩
theorem TBx.tb (h : TBx W b g c base most rs) : TB W b base most rs := ⟨_, h.1, h.2.1, h.2.2.1⟩
theorem TBx.blk (h : TBx W b g c base most rs) : ∃ cells, W.heap[g]? = some (.cells cells 79 (0, 0)) := own_typed h.2.1.2.choose_spec.1 g rfl
theorem TBx.ge (h : TBx W b g c base most rs) : base ≤ g := own_base h.2.1.2.choose_spec.1 g rfl
theorem TBx.below (h : TBx W b g c base most rs) {W1 : World} (hb : Below W.heap.size W W1) : TBx W1 b g c base most rs := ⟨blk_below h.1 hb, Kd.R_below h.2.1 hb, h.2.2⟩
theorem TBx.cell (h : TBx W b g c base most rs) {i j : Nat} {u : Value} (hi : i < rs.length) (hu : (encT (rs.getD i Row.z))[j]? = some u) : W.cell? ⟨g, i * 5 + j, none⟩ = some u ∧ W.frozen? ⟨g, i * 5 + j, none⟩ = false := flat_cell h.2.1 hi hu
theorem TBx.fr (h : TBx W b g c base most rs) (off : Nat) (u : Value) : Fr [73, 79] W (W.setCell ⟨g, off, none⟩ u) := by
  obtain ⟨cells, hc⟩ := h.blk
  exact Fr.set hc (by simp)
theorem TBx.put (h : TBx W b g c base most rs) {i j : Nat} {u : Value} {x' : Row} (hi : i < rs.length) (hj : j < 5) (hx : encT x' = (encT (rs.getD i Row.z)).set j u) : TBx (W.setCell ⟨g, i * 5 + j, none⟩ u) b g c base most (rs.set i x') := by
  obtain ⟨cells, hc⟩ := h.blk
  have hne : b ≠ g := cells_ne h.1 hc (by decide)
  refine ⟨?_, ?_, h.2.2.1, by rw [List.length_set]; exact h.2.2.2⟩
  · rw [List.length_set]
    exact blk_far h.1 (p := ⟨g, i * 5 + j, none⟩) hne u
  · rw [List.length_set]
    exact flat_put h.2.1 hi hj hx
theorem getD_set {i : Nat} {x : Row} (hi : i < rs.length) : (rs.set i x).getD i Row.z = x := by
  rw [List.getD_eq_getElem?_getD, List.getElem?_set, if_pos rfl, if_pos hi]; rfl
theorem put_put {i : Nat} {x y : Row} : (rs.set i x).set i y = rs.set i y := List.set_set ..
end
theorem rowAt_st {rs : List Row} {pid : Int} (h : (rowAt rs pid).st ≠ 0) : ∃ i : Nat, pid = (i : Int) + 1 ∧ i < rs.length ∧ rowAt rs pid = rs.getD i Row.z := by
  by_cases q : 1 ≤ pid ∧ pid ≤ (rs.length : Int)
  · refine ⟨(pid - 1).toNat, by omega, by omega, ?_⟩
    unfold rowAt
    rw [if_pos q]
  · rw [rowAt_out (by omega)] at h
    exact absurd rfl h
def wakeR (r : Row) : Row := ⟨1, r.pa, 0, 0, r.cd⟩
section
variable {w : World} {p : Value} {base : Nat} {most : Int} {rs : List Row}
set_option maxHeartbeats 1000000 in
theorem wake_no (pid : Int) (h : TV w p base most rs) (hl : rs.length ≤ 1000000) (hn : (rowAt rs pid).st ≠ 2) : Calls Try.prog 17 #[p, .int .i64 pid] w fun e w' => e = .returned (.bool false) ∧ Below w.heap.size w w' := by
  have H := Aside0.mk (state_any pid h hl)
  have hb0 : ((rowAt rs pid).st != 2) = true := by simpa using hn
  clear h hn
  go_enter Try.func17, Try.ntmps17
  go_wp2_with (first | (go_at_call 24; (with_reducible refine H.out.mono ?_); rintro e w8 ⟨rfl, hb⟩; have HB := Aside0.mk hb; clear hb))
  go_ret
  exact ⟨rfl, HB.out⟩
set_option maxHeartbeats 2000000 in
set_option maxRecDepth 100000 in
theorem wake_yes (w0 : World) (b i : Nat) (hB : Below w0.heap.size w0 w) (h : TB w b w0.heap.size most rs) (hl : rs.length ≤ 1000000) (hi : i < rs.length) (hn : (rs.getD i Row.z).st = 2) :
    Calls Try.prog 17 #[.pointer (some ⟨b, 0, none⟩), .int .i64 ((i : Int) + 1)] w fun e w' => e = .returned (.bool true) ∧ TB w' b w0.heap.size most (rs.set i (wakeR (rs.getD i Row.z))) ∧ Fr [73, 79] w w' ∧ Below w0.heap.size w0 w' := by
  have H := state_any ((i : Int) + 1) h.tv hl
  rw [rowAt_in hi, hn] at H
  have HS := Aside0.mk H
  obtain ⟨g, c, X⟩ := h.x (by omega)
  have HX := Aside0.mk X
  have HB0 := Aside0.mk hB
  have hii : (i : Int) < (rs.length : Int) := by omega
  have HI := Aside0.mk hi
  generalize hrow : rs.getD i Row.z = r at hn
  have HR := Aside0.mk hrow
  clear H h X hB hrow hn hi
  go_enter Try.func17, Try.ntmps17
  go_wp2_with (first | (go_at_call 24; (with_reducible refine HS.out.mono ?_); rintro e w8 ⟨rfl, hb⟩; have n0_ := Aside0.mk (below_step HB0.out hb); have n1_ := Aside0.mk (HX.out.below hb); have HF := Aside0.mk (Fr.of_below hb [73, 79]); clear HB0 HX hb; have HB0 := n0_; have HX := n1_; clear n0_ n1_; have hc2 : w8.cell? ⟨b, 2, none⟩ = some (.slice (some ⟨g, 0, none⟩) rs.length c) := (blk_cell HX.out.1 2).trans rfl; have hcx0 : w8.cell? ⟨g, i * 5, none⟩ = some (.int .i64 r.st) := (HX.out.cell HI.out (j := 0) (by rw [HR.out]; rfl)).1; have hfx0 : w8.frozen? ⟨g, i * 5, none⟩ = false := (HX.out.cell HI.out (j := 0) (u := .int .i64 r.st) (by rw [HR.out]; rfl)).2; have hcx2 : w8.cell? ⟨g, i * 5 + 2, none⟩ = some (.int .i64 r.kd) := (HX.out.cell HI.out (j := 2) (by rw [HR.out]; rfl)).1; have hfx2 : w8.frozen? ⟨g, i * 5 + 2, none⟩ = false := (HX.out.cell HI.out (j := 2) (u := .int .i64 r.kd) (by rw [HR.out]; rfl)).2; have hcx3 : w8.cell? ⟨g, i * 5 + 3, none⟩ = some (.int .i64 r.ix) := (HX.out.cell HI.out (j := 3) (by rw [HR.out]; rfl)).1; have hfx3 : w8.frozen? ⟨g, i * 5 + 3, none⟩ = false := (HX.out.cell HI.out (j := 3) (u := .int .i64 r.ix) (by rw [HR.out]; rfl)).2))
  
  go_ret
  have P0 := HX.out.put HI.out (j := 0) (u := .int .i64 1) (x' := ⟨1, r.pa, r.kd, r.ix, r.cd⟩) (by decide) (by rw [HR.out]; rfl)
  have P1 := P0.put (i := i) (j := 2) (u := .int .i64 0) (x' := ⟨1, r.pa, 0, r.ix, r.cd⟩) (by rw [List.length_set]; exact HI.out) (by decide) (by rw [getD_set HI.out]; rfl)
  have P2 := P1.put (i := i) (j := 3) (u := .int .i64 0) (x' := ⟨1, r.pa, 0, 0, r.cd⟩) (by rw [List.length_set, List.length_set]; exact HI.out) (by decide) (by rw [getD_set (by rw [List.length_set]; exact HI.out)]; rfl)
  rw [put_put, put_put] at P2
  exact ⟨rfl, P2.tb, HF.out.then_ ((HX.out.fr _ _).then_ ((P0.fr _ _).then_ (P1.fr _ _))), below_set (below_set (below_set HB0.out HX.out.ge) HX.out.ge) HX.out.ge⟩

def blockR (r : Row) (kd ix : Int) : Row := ⟨2, r.pa, kd, ix, r.cd⟩
set_option maxHeartbeats 1000000 in
theorem block_no (pid kd ix : Int) (h : TV w p base most rs) (hl : rs.length ≤ 1000000) (hn : (rowAt rs pid).st ≠ 1 ∨ kd < 1 ∨ 5 < kd) : Calls Try.prog 15 #[p, .int .i64 pid, .agg #[.int .i64 kd, .int .i64 ix]] w fun e w' => e = .returned (.bool false) ∧ Below w.heap.size w w' := by
  have TVH := Aside0.mk h
  have HB := Aside0.mk (Below.refl w.heap.size w)
  clear h
  by_cases h1 : (rowAt rs pid).st = 1
  · have hb0 : ((rowAt rs pid).st != 1) = false := by simpa using h1
    by_cases h2 : kd < 1
    · clear hn h1
      go_enter Try.func15, Try.ntmps15
      go_wp2_with (first | ((with_reducible refine gate_dst (N := 5) rfl ?_); refine box_event ?hg (N := 5) ?hd (cs := #[.int .i64 kd, .int .i64 ix]) (t := 36) ?hr ?_; (case hd => rfl); (case hg => rfl); (case hr => first | (go_simp; done) | (go_simp; rfl)); intro g5 hg w5 hbox hb; have n0_ := Aside0.mk (below_step HB.out hb); have n1_ := Aside0.mk (hbox); clear HB; have HB := n0_; have BK5 := n1_; clear n0_ n1_; have hcz0 : w5.cell? ⟨g5, 0, none⟩ = some (.int .i64 kd) := (blk_cell hbox 0).trans rfl; have hcz1 : w5.cell? ⟨g5, 1, none⟩ = some (.int .i64 ix) := (blk_cell hbox 1).trans rfl; clear hg hbox hb) | (go_at_call 24; (with_reducible refine (state_any pid (TVH.out.below HB.out) hl).mono ?_); rintro e w10 ⟨rfl, hb⟩; have n0_ := Aside0.mk (below_step HB.out hb); have n1_ := Aside0.mk (blk_below BK5.out hb); clear HB BK5; have HB := n0_; have BK5 := n1_; clear n0_ n1_; clear hb hcz0 hcz1; have hcz0 : w10.cell? ⟨g5, 0, none⟩ = some (.int .i64 kd) := (blk_cell BK5.out 0).trans rfl; have hcz1 : w10.cell? ⟨g5, 1, none⟩ = some (.int .i64 ix) := (blk_cell BK5.out 1).trans rfl))
      go_ret
      exact ⟨rfl, HB.out⟩
    · have h3 : 5 < kd := by omega
      clear hn h1
      go_enter Try.func15, Try.ntmps15
      go_wp2_with (first | ((with_reducible refine gate_dst (N := 5) rfl ?_); refine box_event ?hg (N := 5) ?hd (cs := #[.int .i64 kd, .int .i64 ix]) (t := 36) ?hr ?_; (case hd => rfl); (case hg => rfl); (case hr => first | (go_simp; done) | (go_simp; rfl)); intro g5 hg w5 hbox hb; have n0_ := Aside0.mk (below_step HB.out hb); have n1_ := Aside0.mk (hbox); clear HB; have HB := n0_; have BK5 := n1_; clear n0_ n1_; have hcz0 : w5.cell? ⟨g5, 0, none⟩ = some (.int .i64 kd) := (blk_cell hbox 0).trans rfl; have hcz1 : w5.cell? ⟨g5, 1, none⟩ = some (.int .i64 ix) := (blk_cell hbox 1).trans rfl; clear hg hbox hb) | (go_at_call 24; (with_reducible refine (state_any pid (TVH.out.below HB.out) hl).mono ?_); rintro e w10 ⟨rfl, hb⟩; have n0_ := Aside0.mk (below_step HB.out hb); have n1_ := Aside0.mk (blk_below BK5.out hb); clear HB BK5; have HB := n0_; have BK5 := n1_; clear n0_ n1_; clear hb hcz0 hcz1; have hcz0 : w10.cell? ⟨g5, 0, none⟩ = some (.int .i64 kd) := (blk_cell BK5.out 0).trans rfl; have hcz1 : w10.cell? ⟨g5, 1, none⟩ = some (.int .i64 ix) := (blk_cell BK5.out 1).trans rfl))
      go_ret
      exact ⟨rfl, HB.out⟩
  · have hb0 : ((rowAt rs pid).st != 1) = true := by simpa using h1
    clear hn h1
    go_enter Try.func15, Try.ntmps15
    go_wp2_with (first | ((with_reducible refine gate_dst (N := 5) rfl ?_); refine box_event ?hg (N := 5) ?hd (cs := #[.int .i64 kd, .int .i64 ix]) (t := 36) ?hr ?_; (case hd => rfl); (case hg => rfl); (case hr => first | (go_simp; done) | (go_simp; rfl)); intro g5 hg w5 hbox hb; have n0_ := Aside0.mk (below_step HB.out hb); have n1_ := Aside0.mk (hbox); clear HB; have HB := n0_; have BK5 := n1_; clear n0_ n1_; have hcz0 : w5.cell? ⟨g5, 0, none⟩ = some (.int .i64 kd) := (blk_cell hbox 0).trans rfl; have hcz1 : w5.cell? ⟨g5, 1, none⟩ = some (.int .i64 ix) := (blk_cell hbox 1).trans rfl; clear hg hbox hb) | (go_at_call 24; (with_reducible refine (state_any pid (TVH.out.below HB.out) hl).mono ?_); rintro e w10 ⟨rfl, hb⟩; have n0_ := Aside0.mk (below_step HB.out hb); have n1_ := Aside0.mk (blk_below BK5.out hb); clear HB BK5; have HB := n0_; have BK5 := n1_; clear n0_ n1_; clear hb hcz0 hcz1; have hcz0 : w10.cell? ⟨g5, 0, none⟩ = some (.int .i64 kd) := (blk_cell BK5.out 0).trans rfl; have hcz1 : w10.cell? ⟨g5, 1, none⟩ = some (.int .i64 ix) := (blk_cell BK5.out 1).trans rfl))
    go_ret
    exact ⟨rfl, HB.out⟩
set_option maxHeartbeats 2000000 in
set_option maxRecDepth 100000 in
theorem block_yes (w0 : World) (b i : Nat) (kd ix : Int) (hB : Below w0.heap.size w0 w) (h : TB w b w0.heap.size most rs) (hl : rs.length ≤ 1000000) (hi : i < rs.length) (hn : (rs.getD i Row.z).st = 1) (hk1 : 1 ≤ kd) (hk2 : kd ≤ 5) :
    Calls Try.prog 15 #[.pointer (some ⟨b, 0, none⟩), .int .i64 ((i : Int) + 1), .agg #[.int .i64 kd, .int .i64 ix]] w fun e w' => e = .returned (.bool true) ∧ TB w' b w0.heap.size most (rs.set i (blockR (rs.getD i Row.z) kd ix)) ∧ Fr [73, 79] w w' ∧ Below w0.heap.size w0 w' := by
  obtain ⟨g, c, X⟩ := h.x (by omega)
  have TVH := Aside0.mk h
  have HX := Aside0.mk X
  have HB0 := Aside0.mk hB
  have HB := Aside0.mk (Below.refl w.heap.size w)
  have hii : (i : Int) < (rs.length : Int) := by omega
  have HI := Aside0.mk hi
  have ST : ∀ W : World, Below w.heap.size w W → Calls Try.prog 24 #[.pointer (some ⟨b, 0, none⟩), .int .i64 ((i : Int) + 1)] W fun e w' => e = .returned (.int .i64 1) ∧ Below W.heap.size W w' := fun W hb => by
    have H := state_any ((i : Int) + 1) (TVH.out.below hb).tv hl
    rw [rowAt_in hi, hn] at H
    exact H
  have SH := Aside0.mk ST
  generalize hrow : rs.getD i Row.z = r at hn
  have HR := Aside0.mk hrow
  have n1 : ¬ kd < 1 := by omega
  have n2 : ¬ 5 < kd := by omega
  clear h X hB hrow hn hi ST
  go_enter Try.func15, Try.ntmps15
  go_upto_region 4 with (first
    | ((with_reducible refine gate_dst (N := 5) rfl ?_); refine box_event ?hg (N := 5) ?hd (cs := #[.int .i64 kd, .int .i64 ix]) (t := 36) ?hr ?_; (case hd => rfl); (case hg => rfl); (case hr => first | (go_simp; done) | (go_simp; rfl)); intro g5 hg w5 hbox hb; have n0_ := Aside0.mk (below_step HB.out hb); have n1_ := Aside0.mk (hbox); clear HB; have HB := n0_; have BK5 := n1_; clear n0_ n1_; have hcz0 : w5.cell? ⟨g5, 0, none⟩ = some (.int .i64 kd) := (blk_cell hbox 0).trans rfl; have hcz1 : w5.cell? ⟨g5, 1, none⟩ = some (.int .i64 ix) := (blk_cell hbox 1).trans rfl; clear hg hbox hb)
    | (go_at_call 24; (with_reducible refine (SH.out _ HB.out).mono ?_); rintro e w10 ⟨rfl, hb⟩; have n2_ := Aside0.mk (HX.out.below (below_step HB.out hb)); have n3_ := Aside0.mk (below_step HB0.out (below_step HB.out hb)); have n0_ := Aside0.mk (below_step HB.out hb); have n1_ := Aside0.mk (blk_below BK5.out hb); clear HB BK5; have HB := n0_; have BK5 := n1_; clear n0_ n1_; clear hb hcz0 hcz1; have hcz0 : w10.cell? ⟨g5, 0, none⟩ = some (.int .i64 kd) := (blk_cell BK5.out 0).trans rfl; have hcz1 : w10.cell? ⟨g5, 1, none⟩ = some (.int .i64 ix) := (blk_cell BK5.out 1).trans rfl; clear HX HB0; have HX := n2_; have HB0 := n3_; clear n2_ n3_; have hc2 : w10.cell? ⟨b, 2, none⟩ = some (.slice (some ⟨g, 0, none⟩) rs.length c) := (blk_cell HX.out.1 2).trans rfl; have hcx0 : w10.cell? ⟨g, i * 5, none⟩ = some (.int .i64 r.st) := (HX.out.cell HI.out (j := 0) (by rw [HR.out]; rfl)).1; have hfx0 : w10.frozen? ⟨g, i * 5, none⟩ = false := (HX.out.cell HI.out (j := 0) (u := .int .i64 r.st) (by rw [HR.out]; rfl)).2; have hcx2 : w10.cell? ⟨g, i * 5 + 2, none⟩ = some (.int .i64 r.kd) := (HX.out.cell HI.out (j := 2) (by rw [HR.out]; rfl)).1; have hfx2 : w10.frozen? ⟨g, i * 5 + 2, none⟩ = false := (HX.out.cell HI.out (j := 2) (u := .int .i64 r.kd) (by rw [HR.out]; rfl)).2; have hcx3 : w10.cell? ⟨g, i * 5 + 3, none⟩ = some (.int .i64 r.ix) := (HX.out.cell HI.out (j := 3) (by rw [HR.out]; rfl)).1; have hfx3 : w10.frozen? ⟨g, i * 5 + 3, none⟩ = false := (HX.out.cell HI.out (j := 3) (u := .int .i64 r.ix) (by rw [HR.out]; rfl)).2))
  have hne : g5 ≠ g := fun e => by
    obtain ⟨cells, hc⟩ := HX.out.blk
    exact cells_ne BK5.out hc (by decide) e
  have hne2 : g ≠ g5 := fun e => hne e.symm
  go_region
  go_wp2
  go_ret
  have P0 := HX.out.put HI.out (j := 0) (u := .int .i64 2) (x' := ⟨2, r.pa, r.kd, r.ix, r.cd⟩) (by decide) (by rw [HR.out]; rfl)
  have P1 := P0.put (i := i) (j := 2) (u := .int .i64 kd) (x' := ⟨2, r.pa, kd, r.ix, r.cd⟩) (by rw [List.length_set]; exact HI.out) (by decide) (by rw [getD_set HI.out]; rfl)
  have P2 := P1.put (i := i) (j := 3) (u := .int .i64 ix) (x' := ⟨2, r.pa, kd, ix, r.cd⟩) (by rw [List.length_set, List.length_set]; exact HI.out) (by decide) (by rw [getD_set (by rw [List.length_set]; exact HI.out)]; rfl)
  rw [put_put, put_put] at P2
  have D : ∀ X : World, Below X.heap.size X X.drew := fun X => below_drew1 (Below.refl _ _)
  exact ⟨rfl, P2.tb.below (D _), ((Fr.of_below HB.out [73, 79]).then_ ((HX.out.fr _ _).then_ ((P0.fr _ _).then_ (P1.fr _ _)))).then_ (Fr.of_below (D _) _), below_step (below_set (below_set (below_set HB0.out HX.out.ge) HX.out.ge) HX.out.ge) (D _)⟩
def endR (r : Row) (c : Int) : Row := ⟨if c = 0 then 3 else 4, r.pa, 0, 0, c⟩
set_option maxHeartbeats 1000000 in
theorem end_no (pid c : Int) (h : TV w p base most rs) (hl : rs.length ≤ 1000000) (hn : liveB (rowAt rs pid) = false) : Calls Try.prog 19 #[p, .int .i64 pid, .int .i64 c] w fun e w' => e = .returned (.bool false) ∧ Below w.heap.size w w' := by
  have H := Aside0.mk (row_any pid h hl)
  have HN := Aside0.mk hn
  clear h hn
  go_enter Try.func19, Try.ntmps19
  go_wp2_with (first
    | (go_at_call 43; (with_reducible refine H.out.mono ?_); rintro e w1 ⟨rfl, hb⟩; have HB := Aside0.mk hb; clear hb)
    | (go_at_call 44; (with_reducible refine (live_any _ (rowAt rs pid)).mono ?_); rintro e w2 ⟨rfl, hb⟩; rw [HN.out]; have n0_ := Aside0.mk (below_step HB.out hb); clear HB hb; have HB := n0_; clear n0_))
  go_ret
  exact ⟨rfl, HB.out⟩
set_option maxHeartbeats 4000000 in
set_option maxRecDepth 100000 in
theorem end_yes (w0 : World) (b i : Nat) (c : Int) (hB : Below w0.heap.size w0 w) (h : TB w b w0.heap.size most rs) (hl : rs.length ≤ 1000000) (hi : i < rs.length) (hn : liveB (rs.getD i Row.z) = true) :
    Calls Try.prog 19 #[.pointer (some ⟨b, 0, none⟩), .int .i64 ((i : Int) + 1), .int .i64 c] w fun e w' => e = .returned (.bool true) ∧ TB w' b w0.heap.size most (rs.set i (endR (rs.getD i Row.z) c)) ∧ Fr [73, 79] w w' ∧ Below w0.heap.size w0 w' := by
  have H := row_any ((i : Int) + 1) h.tv hl
  rw [rowAt_in hi] at H
  have HS := Aside0.mk H
  obtain ⟨g, cc, X⟩ := h.x (by omega)
  have HX := Aside0.mk X
  have HB0 := Aside0.mk hB
  have HF := Aside0.mk (Fr.of_below (Below.refl w.heap.size w) [73, 79])
  have hii : (i : Int) < (rs.length : Int) := by omega
  have HI := Aside0.mk hi
  generalize hrow : rs.getD i Row.z = r at hn HS
  have HR := Aside0.mk hrow
  have HN := Aside0.mk hn
  clear H h X hB hrow hn hi
  by_cases hc : c = 0
  · subst hc
    have eE : Aside0 (endR r 0 = ⟨3, r.pa, 0, 0, 0⟩) := ⟨rfl⟩
    go_enter Try.func19, Try.ntmps19
    go_wp2_with (first
      | (go_at_call 43; (with_reducible refine HS.out.mono ?_); rintro e w10 ⟨rfl, hb⟩; have n0_ := Aside0.mk (below_step HB0.out hb); have n1_ := Aside0.mk (HX.out.below hb); have n2_ := Aside0.mk (HF.out.then_ (Fr.of_below hb [73, 79])); clear HB0 HX HF; have HB0 := n0_; have HX := n1_; have HF := n2_; clear n0_ n1_ n2_; clear hb)
      | (go_at_call 44; (with_reducible refine (live_any _ r).mono ?_); rintro e w11 ⟨rfl, hb⟩; rw [HN.out]; have n0_ := Aside0.mk (below_step HB0.out hb); have n1_ := Aside0.mk (HX.out.below hb); have n2_ := Aside0.mk (HF.out.then_ (Fr.of_below hb [73, 79])); clear HB0 HX HF; have HB0 := n0_; have HX := n1_; have HF := n2_; clear n0_ n1_ n2_; clear hb; have hc2 : w11.cell? ⟨b, 2, none⟩ = some (.slice (some ⟨g, 0, none⟩) rs.length cc) := (blk_cell HX.out.1 2).trans rfl; have hcx0 : w11.cell? ⟨g, i * 5, none⟩ = some (.int .i64 r.st) := (HX.out.cell HI.out (j := 0) (by rw [HR.out]; rfl)).1; have hfx0 : w11.frozen? ⟨g, i * 5, none⟩ = false := (HX.out.cell HI.out (j := 0) (u := .int .i64 r.st) (by rw [HR.out]; rfl)).2; have hcx2 : w11.cell? ⟨g, i * 5 + 2, none⟩ = some (.int .i64 r.kd) := (HX.out.cell HI.out (j := 2) (by rw [HR.out]; rfl)).1; have hfx2 : w11.frozen? ⟨g, i * 5 + 2, none⟩ = false := (HX.out.cell HI.out (j := 2) (u := .int .i64 r.kd) (by rw [HR.out]; rfl)).2; have hcx3 : w11.cell? ⟨g, i * 5 + 3, none⟩ = some (.int .i64 r.ix) := (HX.out.cell HI.out (j := 3) (by rw [HR.out]; rfl)).1; have hfx3 : w11.frozen? ⟨g, i * 5 + 3, none⟩ = false := (HX.out.cell HI.out (j := 3) (u := .int .i64 r.ix) (by rw [HR.out]; rfl)).2; have hcx4 : w11.cell? ⟨g, i * 5 + 4, none⟩ = some (.int .i64 r.cd) := (HX.out.cell HI.out (j := 4) (by rw [HR.out]; rfl)).1; have hfx4 : w11.frozen? ⟨g, i * 5 + 4, none⟩ = false := (HX.out.cell HI.out (j := 4) (u := .int .i64 r.cd) (by rw [HR.out]; rfl)).2))
    go_ret
    have P0 := HX.out.put HI.out (j := 0) (u := .int .i64 3) (x' := ⟨3, r.pa, r.kd, r.ix, r.cd⟩) (by decide) (by rw [HR.out]; rfl)
    have P1 := P0.put (i := i) (j := 2) (u := .int .i64 0) (x' := ⟨3, r.pa, 0, r.ix, r.cd⟩) (by rw [List.length_set]; exact HI.out) (by decide) (by rw [getD_set HI.out]; rfl)
    have P2 := P1.put (i := i) (j := 3) (u := .int .i64 0) (x' := ⟨3, r.pa, 0, 0, r.cd⟩) (by rw [List.length_set, List.length_set]; exact HI.out) (by decide) (by rw [getD_set (by rw [List.length_set]; exact HI.out)]; rfl)
    rw [put_put, put_put] at P2
    have P3 := P2.put (i := i) (j := 4) (u := .int .i64 0) (x' := ⟨3, r.pa, 0, 0, 0⟩) (by rw [List.length_set]; exact HI.out) (by decide) (by rw [getD_set HI.out]; rfl)
    rw [put_put] at P3
    rw [eE.out]
    exact ⟨rfl, P3.tb, HF.out.then_ ((HX.out.fr _ _).then_ ((P0.fr _ _).then_ ((P1.fr _ _).then_ (P2.fr _ _)))), below_set (below_set (below_set (below_set HB0.out HX.out.ge) HX.out.ge) HX.out.ge) HX.out.ge⟩
  · have eE : Aside0 (endR r c = ⟨4, r.pa, 0, 0, c⟩) := ⟨by unfold endR; rw [if_neg hc]⟩
    have hcb : (c != 0) = true := by simpa using hc
    clear hc
    go_enter Try.func19, Try.ntmps19
    go_wp2_with (first
      | (go_at_call 43; (with_reducible refine HS.out.mono ?_); rintro e w10 ⟨rfl, hb⟩; have n0_ := Aside0.mk (below_step HB0.out hb); have n1_ := Aside0.mk (HX.out.below hb); have n2_ := Aside0.mk (HF.out.then_ (Fr.of_below hb [73, 79])); clear HB0 HX HF; have HB0 := n0_; have HX := n1_; have HF := n2_; clear n0_ n1_ n2_; clear hb)
      | (go_at_call 44; (with_reducible refine (live_any _ r).mono ?_); rintro e w11 ⟨rfl, hb⟩; rw [HN.out]; have n0_ := Aside0.mk (below_step HB0.out hb); have n1_ := Aside0.mk (HX.out.below hb); have n2_ := Aside0.mk (HF.out.then_ (Fr.of_below hb [73, 79])); clear HB0 HX HF; have HB0 := n0_; have HX := n1_; have HF := n2_; clear n0_ n1_ n2_; clear hb; have hc2 : w11.cell? ⟨b, 2, none⟩ = some (.slice (some ⟨g, 0, none⟩) rs.length cc) := (blk_cell HX.out.1 2).trans rfl; have hcx0 : w11.cell? ⟨g, i * 5, none⟩ = some (.int .i64 r.st) := (HX.out.cell HI.out (j := 0) (by rw [HR.out]; rfl)).1; have hfx0 : w11.frozen? ⟨g, i * 5, none⟩ = false := (HX.out.cell HI.out (j := 0) (u := .int .i64 r.st) (by rw [HR.out]; rfl)).2; have hcx2 : w11.cell? ⟨g, i * 5 + 2, none⟩ = some (.int .i64 r.kd) := (HX.out.cell HI.out (j := 2) (by rw [HR.out]; rfl)).1; have hfx2 : w11.frozen? ⟨g, i * 5 + 2, none⟩ = false := (HX.out.cell HI.out (j := 2) (u := .int .i64 r.kd) (by rw [HR.out]; rfl)).2; have hcx3 : w11.cell? ⟨g, i * 5 + 3, none⟩ = some (.int .i64 r.ix) := (HX.out.cell HI.out (j := 3) (by rw [HR.out]; rfl)).1; have hfx3 : w11.frozen? ⟨g, i * 5 + 3, none⟩ = false := (HX.out.cell HI.out (j := 3) (u := .int .i64 r.ix) (by rw [HR.out]; rfl)).2; have hcx4 : w11.cell? ⟨g, i * 5 + 4, none⟩ = some (.int .i64 r.cd) := (HX.out.cell HI.out (j := 4) (by rw [HR.out]; rfl)).1; have hfx4 : w11.frozen? ⟨g, i * 5 + 4, none⟩ = false := (HX.out.cell HI.out (j := 4) (u := .int .i64 r.cd) (by rw [HR.out]; rfl)).2))

    go_ret
    have P0 := HX.out.put HI.out (j := 0) (u := .int .i64 3) (x' := ⟨3, r.pa, r.kd, r.ix, r.cd⟩) (by decide) (by rw [HR.out]; rfl)
    have P1 := P0.put (i := i) (j := 2) (u := .int .i64 0) (x' := ⟨3, r.pa, 0, r.ix, r.cd⟩) (by rw [List.length_set]; exact HI.out) (by decide) (by rw [getD_set HI.out]; rfl)
    have P2 := P1.put (i := i) (j := 3) (u := .int .i64 0) (x' := ⟨3, r.pa, 0, 0, r.cd⟩) (by rw [List.length_set, List.length_set]; exact HI.out) (by decide) (by rw [getD_set (by rw [List.length_set]; exact HI.out)]; rfl)
    rw [put_put, put_put] at P2
    have P3 := P2.put (i := i) (j := 4) (u := .int .i64 c) (x' := ⟨3, r.pa, 0, 0, c⟩) (by rw [List.length_set]; exact HI.out) (by decide) (by rw [getD_set HI.out]; rfl)
    rw [put_put] at P3
    have P4 := P3.put (i := i) (j := 0) (u := .int .i64 4) (x' := ⟨4, r.pa, 0, 0, c⟩) (by rw [List.length_set]; exact HI.out) (by decide) (by rw [getD_set HI.out]; rfl)
    rw [put_put] at P4
    rw [eE.out]
    exact ⟨rfl, P4.tb, HF.out.then_ ((HX.out.fr _ _).then_ ((P0.fr _ _).then_ ((P1.fr _ _).then_ ((P2.fr _ _).then_ (P3.fr _ _))))), below_set (below_set (below_set (below_set (below_set HB0.out HX.out.ge) HX.out.ge) HX.out.ge) HX.out.ge) HX.out.ge⟩
end

end Go.Proofs.Ytfllnpfikdhdbaa.PProcs
