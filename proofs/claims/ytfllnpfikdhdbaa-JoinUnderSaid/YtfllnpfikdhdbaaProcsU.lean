import Derived.Test.YtfllnpfikdhdbaaPProcsx0
import Derived.Test.YtfllnpfikdhdbaaProcsT
import Derived.StillTailTactics
import Derived.Laws.LoneSync
import Derived.Laws.EntriesVeiled
namespace Go.Proofs.Ytfllnpfikdhdbaa.PProcs
open Go.RowKit Go.Proofs.YtfllnpfikdhdbaaW.PrintWords Go.Proofs.YtfllnpfikdhdbaaW.PrintLast Go.Proofs.YtfllnpfikdhdbaaW.PrintMore
attribute [local go_sem] max2_int min2_int max_two min_two max_three min_three max_four min_four
set_option linter.unusedVariables false
set_option linter.unusedSimpArgs false
section
variable {w : World} {b base : Nat} {most : Int} {rs : List Row}
set_option maxHeartbeats 1000000 in
theorem rwake_no (pid : Int) (h : RB w b base most rs) (hl : rs.length ≤ 1000000) (hn : (rowAt rs pid).st ≠ 2) : Calls Try.prog 18 #[.pointer (some ⟨b, 0, none⟩), .int .i64 pid] w fun e w' => e = .returned (.bool false) ∧ w = w' := by
  have H := Aside0.mk (rstate_any pid h hl)
  have hb0 : ((rowAt rs pid).st != 2) = true := by simpa using hn
  clear h hn
  go_enter Try.func18, Try.ntmps18
  go_wp2_with (first | (go_at_call 48; (with_reducible refine H.out.mono ?_); rintro e w' ⟨rfl, rfl⟩))
  go_ret
  exact ⟨rfl, rfl⟩
set_option maxHeartbeats 1000000 in
theorem rend_no (pid c : Int) (h : RB w b base most rs) (hl : rs.length ≤ 1000000) (hn : liveB (rowAt rs pid) = false) : Calls Try.prog 20 #[.pointer (some ⟨b, 0, none⟩), .int .i64 pid, .int .i64 c] w fun e w' => e = .returned (.bool false) ∧ w = w' := by
  have H := rlives_any pid h hl
  rw [hn] at H
  have HH := Aside0.mk H
  clear h hn H
  go_enter Try.func20, Try.ntmps20
  go_wp2_with (first | (go_at_call 46; (with_reducible refine HH.out.mono ?_); rintro e w' ⟨rfl, rfl⟩))
  go_ret
  exact ⟨rfl, rfl⟩
set_option maxHeartbeats 2000000 in
set_option maxRecDepth 100000 in
theorem rwake_yes (w0 : World) (i : Nat) (hB : Below w0.heap.size w0 w) (h : RB w b w0.heap.size most rs) (hl : rs.length ≤ 1000000) (hi : i < rs.length) (hn : (rs.getD i Row.z).st = 2) :
    Calls Try.prog 18 #[.pointer (some ⟨b, 0, none⟩), .int .i64 ((i : Int) + 1)] w fun e w' => e = .returned (.bool true) ∧ RB w' b w0.heap.size most (rs.set i (wakeR (rs.getD i Row.z))) ∧ Fr [77, 83] w w' ∧ Below w0.heap.size w0 w' := by
  have H := rstate_any ((i : Int) + 1) h hl
  rw [rowAt_in hi, hn] at H
  have HS := Aside0.mk H
  obtain ⟨g, cc, X⟩ := h.x (by omega)
  have HX := Aside0.mk X
  have HB0 := Aside0.mk hB
  have hii : (i : Int) < (rs.length : Int) := by omega
  have HI := Aside0.mk hi
  generalize hrow : rs.getD i Row.z = r at hn 
  have HR := Aside0.mk hrow
  have hc1 : w.cell? ⟨b, 1, none⟩ = some (.slice (some ⟨g, 0, none⟩) rs.length cc) := (blk_cell HX.out.1 1).trans rfl
  have hcx1 : w.cell? ⟨g, i * 5 + 1, none⟩ = some (.int .i64 r.st) := (HX.out.cell HI.out (j := 1) (by rw [HR.out]; rfl)).1
  have hfx1 : w.frozen? ⟨g, i * 5 + 1, none⟩ = false := (HX.out.cell HI.out (j := 1) (u := .int .i64 r.st) (by rw [HR.out]; rfl)).2
  have hcx2 : w.cell? ⟨g, i * 5 + 2, none⟩ = some (.int .i64 r.kd) := (HX.out.cell HI.out (j := 2) (by rw [HR.out]; rfl)).1
  have hfx2 : w.frozen? ⟨g, i * 5 + 2, none⟩ = false := (HX.out.cell HI.out (j := 2) (u := .int .i64 r.kd) (by rw [HR.out]; rfl)).2
  have hcx3 : w.cell? ⟨g, i * 5 + 3, none⟩ = some (.int .i64 r.ix) := (HX.out.cell HI.out (j := 3) (by rw [HR.out]; rfl)).1
  have hfx3 : w.frozen? ⟨g, i * 5 + 3, none⟩ = false := (HX.out.cell HI.out (j := 3) (u := .int .i64 r.ix) (by rw [HR.out]; rfl)).2
  clear H h X hB hrow hn hi
  have hbg : b ≠ g := fun e => by
    obtain ⟨cells, hc⟩ := HX.out.blk
    exact cells_ne HX.out.1 hc (by decide) e
  have hgb : g ≠ b := fun e => hbg e.symm
  go_enter Try.func18, Try.ntmps18
  go_wp2_with (first | (go_at_call 48; (with_reducible refine HS.out.mono ?_); rintro e w' ⟨rfl, rfl⟩))
  go_ret
  have P0 := HX.out.put HI.out (j := 1) (u := .int .i64 1) (x' := ⟨1, r.pa, r.kd, r.ix, r.cd⟩) (by decide) (by rw [HR.out]; rfl)
  have P1 := P0.put (i := i) (j := 2) (u := .int .i64 0) (x' := ⟨1, r.pa, 0, r.ix, r.cd⟩) (by rw [List.length_set]; exact HI.out) (by decide) (by rw [getD_set HI.out]; rfl)
  have P2 := P1.put (i := i) (j := 3) (u := .int .i64 0) (x' := ⟨1, r.pa, 0, 0, r.cd⟩) (by rw [List.length_set, List.length_set]; exact HI.out) (by decide) (by rw [getD_set (by rw [List.length_set]; exact HI.out)]; rfl)
  rw [put_put, put_put] at P2
  exact ⟨rfl, P2.rb, ((HX.out.fr _ _).then_ ((P0.fr _ _).then_ (P1.fr _ _))), below_set (below_set (below_set HB0.out HX.out.ge) HX.out.ge) HX.out.ge⟩
set_option maxHeartbeats 1000000 in
theorem rblock_no (pid kd ix : Int) (h : RB w b base most rs) (hl : rs.length ≤ 1000000) (hn : (rowAt rs pid).st ≠ 1 ∨ kd < 1 ∨ 5 < kd) : Calls Try.prog 16 #[.pointer (some ⟨b, 0, none⟩), .int .i64 pid, .agg #[.int .i64 kd, .int .i64 ix]] w fun e w' => e = .returned (.bool false) ∧ Below w.heap.size w w' := by
  have RH := Aside0.mk h
  have HB := Aside0.mk (Below.refl w.heap.size w)
  clear h
  by_cases h1 : (rowAt rs pid).st = 1
  · have hb0 : ((rowAt rs pid).st != 1) = false := by simpa using h1
    have HN := Aside0.mk (in_no (a := kd) (b := 1) (c := 5) (hn.resolve_left (fun q => q h1)))
    clear hn h1
    go_enter Try.func16, Try.ntmps16
    go_wp2_with (first | ((with_reducible refine gate_dst (N := 5) rfl ?_); refine box_event ?hg (N := 5) ?hd (cs := #[.int .i64 kd, .int .i64 ix]) (t := 36) ?hr ?_; (case hd => rfl); (case hg => rfl); (case hr => first | (go_simp; done) | (go_simp; rfl)); intro g5 hg w5 hbox hb; have n0_ := Aside0.mk (below_step HB.out hb); have n1_ := Aside0.mk (hbox); clear HB; have HB := n0_; have BK5 := n1_; clear n0_ n1_; have hcz0 : w5.cell? ⟨g5, 0, none⟩ = some (.int .i64 kd) := (blk_cell hbox 0).trans rfl; have hcz1 : w5.cell? ⟨g5, 1, none⟩ = some (.int .i64 ix) := (blk_cell hbox 1).trans rfl; clear hg hbox hb) | (go_at_call 48; (with_reducible refine (rstate_any pid (RH.out.below HB.out) hl).mono ?_); rintro e w' ⟨rfl, rfl⟩) | (go_at_call 42; (with_reducible refine (HN.out w5).mono ?_); rintro e w14 ⟨rfl, hb⟩; have n0_ := Aside0.mk (below_step HB.out hb); clear HB hb; have HB := n0_; clear n0_))
    go_ret
    exact ⟨rfl, HB.out⟩
  · have hb0 : ((rowAt rs pid).st != 1) = true := by simpa using h1
    clear hn h1
    go_enter Try.func16, Try.ntmps16
    go_wp2_with (first | ((with_reducible refine gate_dst (N := 5) rfl ?_); refine box_event ?hg (N := 5) ?hd (cs := #[.int .i64 kd, .int .i64 ix]) (t := 36) ?hr ?_; (case hd => rfl); (case hg => rfl); (case hr => first | (go_simp; done) | (go_simp; rfl)); intro g5 hg w5 hbox hb; have n0_ := Aside0.mk (below_step HB.out hb); have n1_ := Aside0.mk (hbox); clear HB; have HB := n0_; have BK5 := n1_; clear n0_ n1_; have hcz0 : w5.cell? ⟨g5, 0, none⟩ = some (.int .i64 kd) := (blk_cell hbox 0).trans rfl; have hcz1 : w5.cell? ⟨g5, 1, none⟩ = some (.int .i64 ix) := (blk_cell hbox 1).trans rfl; clear hg hbox hb) | (go_at_call 48; (with_reducible refine (rstate_any pid (RH.out.below HB.out) hl).mono ?_); rintro e w' ⟨rfl, rfl⟩))
    go_ret
    exact ⟨rfl, HB.out⟩
set_option maxHeartbeats 2000000 in
set_option maxRecDepth 100000 in
theorem rblock_yes (w0 : World) (i : Nat) (kd ix : Int) (hB : Below w0.heap.size w0 w) (h : RB w b w0.heap.size most rs) (hl : rs.length ≤ 1000000) (hi : i < rs.length) (hn : (rs.getD i Row.z).st = 1) (hk1 : 1 ≤ kd) (hk2 : kd ≤ 5) :
    Calls Try.prog 16 #[.pointer (some ⟨b, 0, none⟩), .int .i64 ((i : Int) + 1), .agg #[.int .i64 kd, .int .i64 ix]] w fun e w' => e = .returned (.bool true) ∧ RB w' b w0.heap.size most (rs.set i (blockR (rs.getD i Row.z) kd ix)) ∧ Fr [77, 83] w w' ∧ Below w0.heap.size w0 w' := by
  obtain ⟨g, cc, X⟩ := h.x (by omega)
  have RH := Aside0.mk h
  have HX := Aside0.mk X
  have HB0 := Aside0.mk hB
  have HB := Aside0.mk (Below.refl w.heap.size w)
  have hii : (i : Int) < (rs.length : Int) := by omega
  have HI := Aside0.mk hi
  have ST : ∀ W : World, Below w.heap.size w W → Calls Try.prog 48 #[.pointer (some ⟨b, 0, none⟩), .int .i64 ((i : Int) + 1)] W fun e w' => e = .returned (.int .i64 1) ∧ W = w' := fun W hb => by
    have H := rstate_any ((i : Int) + 1) (RH.out.below hb) hl
    rw [rowAt_in hi, hn] at H
    exact H
  have SH := Aside0.mk ST
  have HN := Aside0.mk (in_yes (a := kd) (b := 1) (c := 5) hk1 hk2)
  generalize hrow : rs.getD i Row.z = r at hn
  have HR := Aside0.mk hrow
  clear h X hB hrow hn hi ST hk1 hk2
  go_enter Try.func16, Try.ntmps16
  go_upto_region 3 with (first
    | ((with_reducible refine gate_dst (N := 5) rfl ?_); refine box_event ?hg (N := 5) ?hd (cs := #[.int .i64 kd, .int .i64 ix]) (t := 36) ?hr ?_; (case hd => rfl); (case hg => rfl); (case hr => first | (go_simp; done) | (go_simp; rfl)); intro g5 hg w5 hbox hb; have n0_ := Aside0.mk (below_step HB.out hb); have n1_ := Aside0.mk (hbox); clear HB; have HB := n0_; have BK5 := n1_; clear n0_ n1_; have hcz0 : w5.cell? ⟨g5, 0, none⟩ = some (.int .i64 kd) := (blk_cell hbox 0).trans rfl; have hcz1 : w5.cell? ⟨g5, 1, none⟩ = some (.int .i64 ix) := (blk_cell hbox 1).trans rfl; clear hg hbox hb)
    | (go_at_call 48; (with_reducible refine (SH.out _ HB.out).mono ?_); rintro e w' ⟨rfl, rfl⟩)
    | (go_at_call 42; (with_reducible refine (HN.out w5).mono ?_); rintro e w14 ⟨rfl, hb⟩; have n0_ := Aside0.mk (below_step HB.out hb); have n1_ := Aside0.mk (blk_below BK5.out hb); clear HB BK5 hb; have HB := n0_; have BK5 := n1_; clear n0_ n1_))
  have hz0 : w14.cell? ⟨g5, 0, none⟩ = some (.int .i64 kd) := (blk_cell BK5.out 0).trans rfl
  have hz1 : w14.cell? ⟨g5, 1, none⟩ = some (.int .i64 ix) := (blk_cell BK5.out 1).trans rfl
  have n0_ := Aside0.mk (HX.out.below HB.out)
  have n1_ := Aside0.mk (below_step HB0.out HB.out)
  clear HX HB0
  have HX := n0_
  have HB0 := n1_
  clear n0_ n1_
  have hc1 : w14.cell? ⟨b, 1, none⟩ = some (.slice (some ⟨g, 0, none⟩) rs.length cc) := (blk_cell HX.out.1 1).trans rfl
  have hcx1 : w14.cell? ⟨g, i * 5 + 1, none⟩ = some (.int .i64 r.st) := (HX.out.cell HI.out (j := 1) (by rw [HR.out]; rfl)).1
  have hfx1 : w14.frozen? ⟨g, i * 5 + 1, none⟩ = false := (HX.out.cell HI.out (j := 1) (u := .int .i64 r.st) (by rw [HR.out]; rfl)).2
  have hcx2 : w14.cell? ⟨g, i * 5 + 2, none⟩ = some (.int .i64 r.kd) := (HX.out.cell HI.out (j := 2) (by rw [HR.out]; rfl)).1
  have hfx2 : w14.frozen? ⟨g, i * 5 + 2, none⟩ = false := (HX.out.cell HI.out (j := 2) (u := .int .i64 r.kd) (by rw [HR.out]; rfl)).2
  have hcx3 : w14.cell? ⟨g, i * 5 + 3, none⟩ = some (.int .i64 r.ix) := (HX.out.cell HI.out (j := 3) (by rw [HR.out]; rfl)).1
  have hfx3 : w14.frozen? ⟨g, i * 5 + 3, none⟩ = false := (HX.out.cell HI.out (j := 3) (u := .int .i64 r.ix) (by rw [HR.out]; rfl)).2
  have hne : g5 ≠ g := fun e => by
    obtain ⟨cells, hc⟩ := HX.out.blk
    exact cells_ne BK5.out hc (by decide) e
  have hne2 : g ≠ g5 := fun e => hne e.symm
  have hbg : b ≠ g := fun e => by
    obtain ⟨cells, hc⟩ := HX.out.blk
    exact cells_ne HX.out.1 hc (by decide) e
  have hgb : g ≠ b := fun e => hbg e.symm
  go_upto_region 4 with (fail)
  go_region
  go_wp2
  go_ret
  have P0 := HX.out.put HI.out (j := 1) (u := .int .i64 2) (x' := ⟨2, r.pa, r.kd, r.ix, r.cd⟩) (by decide) (by rw [HR.out]; rfl)
  have P1 := P0.put (i := i) (j := 2) (u := .int .i64 kd) (x' := ⟨2, r.pa, kd, r.ix, r.cd⟩) (by rw [List.length_set]; exact HI.out) (by decide) (by rw [getD_set HI.out]; rfl)
  have P2 := P1.put (i := i) (j := 3) (u := .int .i64 ix) (x' := ⟨2, r.pa, kd, ix, r.cd⟩) (by rw [List.length_set, List.length_set]; exact HI.out) (by decide) (by rw [getD_set (by rw [List.length_set]; exact HI.out)]; rfl)
  rw [put_put, put_put] at P2
  have D : ∀ X : World, Below X.heap.size X X.drew := fun X => below_drew1 (Below.refl _ _)
  exact ⟨rfl, P2.rb.below (D _), ((Fr.of_below HB.out [77, 83]).then_ ((HX.out.fr _ _).then_ ((P0.fr _ _).then_ (P1.fr _ _)))).then_ (Fr.of_below (D _) _), below_step (below_set (below_set (below_set HB0.out HX.out.ge) HX.out.ge) HX.out.ge) (D _)⟩
set_option maxHeartbeats 4000000 in
set_option maxRecDepth 100000 in
theorem rend_yes (w0 : World) (i : Nat) (c : Int) (hB : Below w0.heap.size w0 w) (h : RB w b w0.heap.size most rs) (hl : rs.length ≤ 1000000) (hi : i < rs.length) (hn : liveB (rs.getD i Row.z) = true) (hcd : (rs.getD i Row.z).cd = 0) :
    Calls Try.prog 20 #[.pointer (some ⟨b, 0, none⟩), .int .i64 ((i : Int) + 1), .int .i64 c] w fun e w' => e = .returned (.bool true) ∧ RB w' b w0.heap.size most (rs.set i (endR (rs.getD i Row.z) c)) ∧ Fr [77, 83] w w' ∧ Below w0.heap.size w0 w' := by
  have H := rlives_any ((i : Int) + 1) h hl
  rw [rowAt_in hi, hn] at H
  have HS := Aside0.mk H
  obtain ⟨g, cc, X⟩ := h.x (by omega)
  have HX := Aside0.mk X
  have HB0 := Aside0.mk hB
  have hii : (i : Int) < (rs.length : Int) := by omega
  have HI := Aside0.mk hi
  generalize hrow : rs.getD i Row.z = r at hn hcd
  have HR := Aside0.mk hrow
  have hc1 : w.cell? ⟨b, 1, none⟩ = some (.slice (some ⟨g, 0, none⟩) rs.length cc) := (blk_cell HX.out.1 1).trans rfl
  have hcx1 : w.cell? ⟨g, i * 5 + 1, none⟩ = some (.int .i64 r.st) := (HX.out.cell HI.out (j := 1) (by rw [HR.out]; rfl)).1
  have hfx1 : w.frozen? ⟨g, i * 5 + 1, none⟩ = false := (HX.out.cell HI.out (j := 1) (u := .int .i64 r.st) (by rw [HR.out]; rfl)).2
  have hcx2 : w.cell? ⟨g, i * 5 + 2, none⟩ = some (.int .i64 r.kd) := (HX.out.cell HI.out (j := 2) (by rw [HR.out]; rfl)).1
  have hfx2 : w.frozen? ⟨g, i * 5 + 2, none⟩ = false := (HX.out.cell HI.out (j := 2) (u := .int .i64 r.kd) (by rw [HR.out]; rfl)).2
  have hcx3 : w.cell? ⟨g, i * 5 + 3, none⟩ = some (.int .i64 r.ix) := (HX.out.cell HI.out (j := 3) (by rw [HR.out]; rfl)).1
  have hfx3 : w.frozen? ⟨g, i * 5 + 3, none⟩ = false := (HX.out.cell HI.out (j := 3) (u := .int .i64 r.ix) (by rw [HR.out]; rfl)).2
  have hcx4 : w.cell? ⟨g, i * 5 + 4, none⟩ = some (.int .i64 r.cd) := (HX.out.cell HI.out (j := 4) (by rw [HR.out]; rfl)).1
  have hfx4 : w.frozen? ⟨g, i * 5 + 4, none⟩ = false := (HX.out.cell HI.out (j := 4) (u := .int .i64 r.cd) (by rw [HR.out]; rfl)).2
  have HCD := Aside0.mk hcd
  clear H h X hB hrow hn hi hcd
  have hbg : b ≠ g := fun e => by
    obtain ⟨cells, hc⟩ := HX.out.blk
    exact cells_ne HX.out.1 hc (by decide) e
  have hgb : g ≠ b := fun e => hbg e.symm
  by_cases hc : c = 0
  · subst hc
    have eE : Aside0 (endR r 0 = ⟨3, r.pa, 0, 0, r.cd⟩) := ⟨by rw [HCD.out]; rfl⟩
    go_enter Try.func20, Try.ntmps20
    go_wp2_with (first | (go_at_call 46; (with_reducible refine HS.out.mono ?_); rintro e w' ⟨rfl, rfl⟩))
    go_ret
    have P0 := HX.out.put HI.out (j := 2) (u := .int .i64 0) (x' := ⟨r.st, r.pa, 0, r.ix, r.cd⟩) (by decide) (by rw [HR.out]; rfl)
    have P1 := P0.put (i := i) (j := 3) (u := .int .i64 0) (x' := ⟨r.st, r.pa, 0, 0, r.cd⟩) (by rw [List.length_set]; exact HI.out) (by decide) (by rw [getD_set HI.out]; rfl)
    have P2 := P1.put (i := i) (j := 1) (u := .int .i64 3) (x' := ⟨3, r.pa, 0, 0, r.cd⟩) (by rw [List.length_set, List.length_set]; exact HI.out) (by decide) (by rw [getD_set (by rw [List.length_set]; exact HI.out)]; rfl)
    rw [put_put, put_put] at P2
    rw [eE.out]
    exact ⟨rfl, P2.rb, ((HX.out.fr _ _).then_ ((P0.fr _ _).then_ (P1.fr _ _))), below_set (below_set (below_set HB0.out HX.out.ge) HX.out.ge) HX.out.ge⟩
  · have eE : Aside0 (endR r c = ⟨4, r.pa, 0, 0, c⟩) := ⟨by unfold endR; rw [if_neg hc]⟩
    have hcb : (c != 0) = true := by simpa using hc
    clear hc
    go_enter Try.func20, Try.ntmps20
    go_wp2_with (first | (go_at_call 46; (with_reducible refine HS.out.mono ?_); rintro e w' ⟨rfl, rfl⟩))
    go_ret
    have P0 := HX.out.put HI.out (j := 2) (u := .int .i64 0) (x' := ⟨r.st, r.pa, 0, r.ix, r.cd⟩) (by decide) (by rw [HR.out]; rfl)
    have P1 := P0.put (i := i) (j := 3) (u := .int .i64 0) (x' := ⟨r.st, r.pa, 0, 0, r.cd⟩) (by rw [List.length_set]; exact HI.out) (by decide) (by rw [getD_set HI.out]; rfl)
    have P2 := P1.put (i := i) (j := 1) (u := .int .i64 3) (x' := ⟨3, r.pa, 0, 0, r.cd⟩) (by rw [List.length_set, List.length_set]; exact HI.out) (by decide) (by rw [getD_set (by rw [List.length_set]; exact HI.out)]; rfl)
    rw [put_put, put_put] at P2
    have P3 := P2.put (i := i) (j := 1) (u := .int .i64 4) (x' := ⟨4, r.pa, 0, 0, r.cd⟩) (by rw [List.length_set]; exact HI.out) (by decide) (by rw [getD_set HI.out]; rfl)
    rw [put_put] at P3
    have P4 := P3.put (i := i) (j := 4) (u := .int .i64 c) (x' := ⟨4, r.pa, 0, 0, c⟩) (by rw [List.length_set]; exact HI.out) (by decide) (by rw [getD_set HI.out]; rfl)
    rw [put_put] at P4
    rw [eE.out]
    exact ⟨rfl, P4.rb, ((HX.out.fr _ _).then_ ((P0.fr _ _).then_ ((P1.fr _ _).then_ ((P2.fr _ _).then_ (P3.fr _ _))))), below_set (below_set (below_set (below_set (below_set HB0.out HX.out.ge) HX.out.ge) HX.out.ge) HX.out.ge) HX.out.ge⟩
end

end Go.Proofs.Ytfllnpfikdhdbaa.PProcs
