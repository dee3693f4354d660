import Derived.Test.YtfllnpfikdhdbaaPProcsx0
import Derived.Test.YtfllnpfikdhdbaaJoinM
import Derived.StillTailTactics
import Derived.Laws.LoneSync
import Derived.Laws.EntriesVeiled
import Derived.IntWalk
import Derived.Deep.RegionHeld3
import Derived.WalkMore
import Derived.ScopeJumps
namespace Go.Proofs.Ytfllnpfikdhdbaa.PProcs
open Go.RowKit Go.Proofs.YtfllnpfikdhdbaaW.PrintWords Go.Proofs.YtfllnpfikdhdbaaW.PrintLast Go.Proofs.YtfllnpfikdhdbaaW.PrintMore
attribute [local go_sem] max2_int min2_int max_two min_two max_three min_three max_four min_four
set_option linter.unusedVariables false
set_option linter.unusedSimpArgs false
set_option maxHeartbeats 8000000 in
set_option maxRecDepth 100000 in
theorem jplays_any (w : World) (A : Option Addr) (n cap : Nat) (z : Nat → Nat → Int) (hz : n = 0 ∨ ∃ x, A = some x ∧ ∀ i, i < n → ∀ j, j < 3 → w.cell? (x.add (i * 3 + j)) = some (.int .i64 (z i j))) :
    Calls Try.prog 7 #[.slice A n cap] w fun e w' => e = .returned (.bool true) ∧ Below w.heap.size w w' := by
  by_cases h6 : (n : Int) > 60
  · have h6b : decide ((n : Int) > 60) = true := decide_eq_true h6
    go_enter Try.func7, Try.ntmps7
    go_wp2_with (first | (go_at_call 32; (with_reducible refine (awake10_any _).mono ?_); rintro e w32 ⟨rfl, hb⟩; have HZ9 := Aside0.mk (hb); clear hb))
    go_ret
    exact ⟨rfl, HZ9.out⟩
  · have h6b : decide ((n : Int) > 60) = false := decide_eq_false h6
    have hn60 : n ≤ 60 := by omega
    go_enter Try.func7, Try.ntmps7
    go_wp2_with (first | (go_at_call 11; (with_reducible refine (new_yes w 20 (by decide) (by decide)).mono ?_); rintro e w1 ⟨b, rfl, ht, hb⟩; have HT := Aside0.mk ht; have HB := Aside0.mk hb; clear ht hb) | (go_at_call 12; (with_reducible refine (rnew_yes _ 20 (by decide) (by decide)).mono ?_); rintro e w2 ⟨c, rfl, ht, hb⟩; have HW : Aside0 (TwoJ w w2 b c [] 0) := Aside0.mk ⟨HT.out.below hb, ht.lower (below_size HB.out), below_step HB.out hb, ⟨fun i h => absurd h (Nat.not_lt_zero i), fun i h => absurd h (Nat.not_lt_zero i)⟩, Nat.le_refl _, by decide⟩; clear HT HB ht hb) | (go_at_call 13; (with_reducible refine (tj_spawn HW.out (by decide) 0).mono ?_); rintro e w3 ⟨rfl, hf, hh⟩; clear HW; have HW := Aside0.mk hh; clear hf hh) | (go_at_call 14; (with_reducible refine (hj_spawn 0 HW.out).mono ?_); rintro e w4 ⟨rfl, hf, hh⟩; clear HW; have HW := Aside0.mk hh; clear hf hh))
    go_loopw [7] (fun v7 wx => ∃ (i : Nat) (rs : List Row), v7 = .int .i64 (i : Int) ∧ i ≤ n ∧ Aside0 (TwoJ w wx b c rs (1 + i))) (fun v7 _ => n - (intOf v7).toNat)
    case atStart => exact ⟨0, _, rfl, Nat.zero_le _, HW⟩
    case round =>
      clear HW
      obtain ⟨i, rs, rfl, hi, HW⟩ := hrel
      by_cases hlt : i < n
      · have hltb : decide (i < n) = true := decide_eq_true hlt
        have HI := Aside0.mk hlt
        have HN9 : Aside0 (1 + i < 1000) := ⟨by omega⟩
        obtain ⟨x, rfl, hx⟩ := hz.resolve_left (by omega)
        have f0 : wr.cell? (x.add (i * 3)) = some (.int .i64 (z i 0)) := pw_cell_below HW.out.2.2.1 (hx i hlt 0 (by decide))
        have f1 : wr.cell? ⟨(x.add (i * 3)).block, (x.add (i * 3)).off + 1, none⟩ = some (.int .i64 (z i 1)) := by have h := pw_cell_below HW.out.2.2.1 (hx i hlt 1 (by decide)); rw [← add_add_] at h; exact h
        have f2 : wr.cell? ⟨(x.add (i * 3)).block, (x.add (i * 3)).off + 2, none⟩ = some (.int .i64 (z i 2)) := by have h := pw_cell_below HW.out.2.2.1 (hx i hlt 2 (by decide)); rw [← add_add_] at h; exact h
        clear hx hz
        have HB := Aside0.mk (Below.refl wr.heap.size wr)
        go_upto_region 11 with (first | ((with_reducible refine gate_dst (N := 8) rfl ?_); refine box_event ?hg (N := 8) ?hd (cs := #[.int .i64 0, .int .i64 0, .int .i64 0]) (t := 53) ?hr ?_; (case hd => rfl); (case hg => rfl); (case hr => first | (go_simp; done) | (go_simp; rfl)); intro g8 hg w8 hbox hb; have n0_ := Aside0.mk (below_step HB.out hb); have n1_ := Aside0.mk (hbox); have n2_ := Aside0.mk ((by rw [hg]; exact below_size HB.out : wr.heap.size ≤ g8)); clear HB; have HB := n0_; have BK := n1_; have GE := n2_; clear n0_ n1_ n2_; have hcz0 : w8.cell? ⟨g8, 0, none⟩ = some (.int .i64 0) := (blk_cell hbox 0).trans rfl; have hfz0 : w8.frozen? ⟨g8, 0, none⟩ = false := blk_frozen hbox 0; have hcz1 : w8.cell? ⟨g8, 1, none⟩ = some (.int .i64 0) := (blk_cell hbox 1).trans rfl; have hfz1 : w8.frozen? ⟨g8, 1, none⟩ = false := blk_frozen hbox 1; have hcz2 : w8.cell? ⟨g8, 2, none⟩ = some (.int .i64 0) := (blk_cell hbox 2).trans rfl; have hfz2 : w8.frozen? ⟨g8, 2, none⟩ = false := blk_frozen hbox 2; have e0 := pw_cell_below hb f0; have e1 := pw_cell_below hb f1; have e2 := pw_cell_below hb f2; clear hg hbox hb))
        have b0_ := blk_put (cs' := #[.int .i64 (z i 0), .int .i64 0, .int .i64 0]) BK.out 0 (.int .i64 (z i 0)) rfl
        have b1_ := blk_put (cs' := #[.int .i64 (z i 0), .int .i64 (z i 1), .int .i64 0]) b0_ 1 (.int .i64 (z i 1)) rfl
        have b2_ := blk_put (cs' := #[.int .i64 (z i 0), .int .i64 (z i 1), .int .i64 (z i 2)]) b1_ 2 (.int .i64 (z i 2)) rfl
        have HG := Aside0.mk b2_
        have n0_ := Aside0.mk (HW.out.below (below_set (j := 2) (v := .int .i64 (z i 2)) (below_set (j := 1) (v := .int .i64 (z i 1)) (below_set (j := 0) (v := .int .i64 (z i 0)) HB.out GE.out) GE.out) GE.out))
        clear b0_ b1_ b2_ HW BK HB GE hcz0 hcz1 hcz2 hfz0 hfz1 hfz2 e0 e1 e2 f0 f1 f2
        have HW := n0_
        clear n0_
        generalize (((w8.setCell { block := g8, off := 0 } (Value.int IntKind.i64 (z i 0))).setCell { block := g8, off := 1 } (Value.int IntKind.i64 (z i 1))).setCell { block := g8, off := 2 } (Value.int IntKind.i64 (z i 2))) = W1 at HG HW ⊢
        have hg0 : W1.cell? ⟨g8, 0, none⟩ = some (.int .i64 (z i 0)) := (blk_cell HG.out 0).trans rfl
        have hg1 : W1.cell? ⟨g8, 1, none⟩ = some (.int .i64 (z i 1)) := (blk_cell HG.out 1).trans rfl
        have hg2 : W1.cell? ⟨g8, 2, none⟩ = some (.int .i64 (z i 2)) := (blk_cell HG.out 2).trans rfl
        by_cases k0 : z i 0 = 0
        · have k0b : (z i 0 == 0) = true := by simpa using k0
          clear k0
          go_wp2_with (first | (go_at_call 13; (with_reducible refine (tj_spawn HW.out HN9.out _).mono ?_); rintro e w13 ⟨rfl, hf, hh⟩; have g0_ := Aside0.mk (Fr.cells hf HG.out (by decide)); clear HG; have HG := g0_; clear g0_; clear HW; have HW := Aside0.mk hh; clear hf hh; have hg1 : w13.cell? ⟨g8, 1, none⟩ = some (.int .i64 (z i 1)) := (blk_cell HG.out 1).trans rfl; have hg2 : w13.cell? ⟨g8, 2, none⟩ = some (.int .i64 (z i 2)) := (blk_cell HG.out 2).trans rfl) | (go_at_call 14; (with_reducible refine (hj_spawn _ HW.out).mono ?_); rintro e w14 ⟨rfl, hf, hh⟩; have g0_ := Aside0.mk (Fr.cells hf HG.out (by decide)); clear HG; have HG := g0_; clear g0_; clear HW; have HW := Aside0.mk hh; clear hf hh; have hg1 : w14.cell? ⟨g8, 1, none⟩ = some (.int .i64 (z i 1)) := (blk_cell HG.out 1).trans rfl; have hg2 : w14.cell? ⟨g8, 2, none⟩ = some (.int .i64 (z i 2)) := (blk_cell HG.out 2).trans rfl) | (go_at_call 37; (with_reducible refine (tj_same HW.out).mono ?_); rintro e w37 ⟨rfl, hh⟩; clear HW; have HW := Aside0.mk hh; clear hh))
          go_roundw
          case rel => exact ⟨i + 1, _, by go_num, HI.out, HW⟩
          case measure => have := HI.out; simp [intOf]; omega
        · have k0b : (z i 0 == 0) = false := by simpa using k0
          by_cases k1 : z i 0 = 1
          · have k1b : (z i 0 == 1) = true := by simpa using k1
            clear k0 k1
            go_upto_region 22 with (fail)
            have n0_ := Aside0.mk (HW.out.below (below_drew1 (Below.refl W1.heap.size W1)))
            have n1_ := Aside0.mk (blk_below HG.out (below_drew1 (Below.refl W1.heap.size W1)))
            clear HW HG
            have HW := n0_
            have HG := n1_
            clear n0_ n1_ k0b k1b hg0 hg1 hg2
            go_region_held3 (fun w' => w'.cell? ⟨g8, 1, none⟩ = some (.int .i64 (z i 1))) (exact (blk_cell HG.out 1).trans rfl) (first | (go_at_call 33; (with_reducible refine (tj_join HW.out HN9.out _).mono ?_); rintro e w33 ⟨rfl, hf, hh⟩; have g0_ := Aside0.mk (Fr.cells hf HG.out (by decide)); clear HG; have HG := g0_; clear g0_; clear HW; have HW := Aside0.mk hh; clear hf hh; have hg1 : w33.cell? ⟨g8, 1, none⟩ = some (.int .i64 (z i 1)) := (blk_cell HG.out 1).trans rfl; have hg2 : w33.cell? ⟨g8, 2, none⟩ = some (.int .i64 (z i 2)) := (blk_cell HG.out 2).trans rfl) | (go_at_call 34; (with_reducible refine (hj_join _ HW.out).mono ?_); rintro e w34 ⟨rfl, hf, hh⟩; have g0_ := Aside0.mk (Fr.cells hf HG.out (by decide)); clear HG; have HG := g0_; clear g0_; clear HW; have HW := Aside0.mk hh; clear hf hh; have hg1 : w34.cell? ⟨g8, 1, none⟩ = some (.int .i64 (z i 1)) := (blk_cell HG.out 1).trans rfl; have hg2 : w34.cell? ⟨g8, 2, none⟩ = some (.int .i64 (z i 2)) := (blk_cell HG.out 2).trans rfl))
            go_wp2_with (first | (go_at_call 37; (with_reducible refine (tj_same HW.out).mono ?_); rintro e w37 ⟨rfl, hh⟩; clear HW; have HW := Aside0.mk hh; clear hh))
            go_roundw
            case rel => exact ⟨i + 1, _, by go_num, HI.out, HW⟩
            case measure => have := HI.out; simp [intOf]; omega
          · have k1b : (z i 0 == 1) = false := by simpa using k1
            clear k0 k1
            go_wp2_with (first | (go_at_call 35; (with_reducible refine (tj_jend HW.out HN9.out _ _).mono ?_); rintro e w35 ⟨rfl, hf, hh⟩; have g0_ := Aside0.mk (Fr.cells hf HG.out (by decide)); clear HG; have HG := g0_; clear g0_; clear HW; have HW := Aside0.mk hh; clear hf hh; have hg1 : w35.cell? ⟨g8, 1, none⟩ = some (.int .i64 (z i 1)) := (blk_cell HG.out 1).trans rfl; have hg2 : w35.cell? ⟨g8, 2, none⟩ = some (.int .i64 (z i 2)) := (blk_cell HG.out 2).trans rfl) | (go_at_call 36; (with_reducible refine (hj_jend _ _ HW.out).mono ?_); rintro e w36 ⟨rfl, hf, hh⟩; have g0_ := Aside0.mk (Fr.cells hf HG.out (by decide)); clear HG; have HG := g0_; clear g0_; clear HW; have HW := Aside0.mk hh; clear hf hh; have hg1 : w36.cell? ⟨g8, 1, none⟩ = some (.int .i64 (z i 1)) := (blk_cell HG.out 1).trans rfl; have hg2 : w36.cell? ⟨g8, 2, none⟩ = some (.int .i64 (z i 2)) := (blk_cell HG.out 2).trans rfl) | (go_at_call 37; (with_reducible refine (tj_same HW.out).mono ?_); rintro e w37 ⟨rfl, hh⟩; clear HW; have HW := Aside0.mk hh; clear hh))
            go_roundw
            case rel => exact ⟨i + 1, _, by go_num, HI.out, HW⟩
            case measure => have := HI.out; simp [intOf]; omega
      · have hltb : decide (i < n) = false := decide_eq_false hlt
        clear hi hlt
        go_wp2_with (first | (go_at_call 32; (with_reducible refine (awake10_any _).mono ?_); rintro e w32 ⟨rfl, hb⟩; have HZ9 := Aside0.mk (below_step HW.out.2.2.1 hb); clear hb))
        go_ret
        exact ⟨rfl, HZ9.out⟩

end Go.Proofs.Ytfllnpfikdhdbaa.PProcs
