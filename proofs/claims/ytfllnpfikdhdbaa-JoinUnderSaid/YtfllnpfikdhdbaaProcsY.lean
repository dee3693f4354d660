import Derived.Test.YtfllnpfikdhdbaaPProcsx0
import Derived.Test.YtfllnpfikdhdbaaProcsV
import Derived.StillTailTactics
import Derived.Laws.LoneSync
import Derived.Laws.EntriesVeiled
import Derived.IntWalk
import Derived.Deep.RegionHeld3
namespace Go.Proofs.Ytfllnpfikdhdbaa.PProcs
open Go.RowKit Go.Proofs.YtfllnpfikdhdbaaW.PrintWords Go.Proofs.YtfllnpfikdhdbaaW.PrintLast Go.Proofs.YtfllnpfikdhdbaaW.PrintMore
attribute [local go_sem] max2_int min2_int max_two min_two max_three min_three max_four min_four
set_option linter.unusedVariables false
set_option linter.unusedSimpArgs false
def Half (w0 w : World) (b c : Nat) (most : Int) (rs rs' : List Row) (n : Nat) : Prop := TB w b w0.heap.size most rs' ∧ RB w c w0.heap.size most rs ∧ Below w0.heap.size w0 w ∧ Inv rs ∧ Inv rs' ∧ rs.length ≤ 1000000 ∧ rs'.length ≤ n ∧ n ≤ 1000
def Two (w0 w : World) (b c : Nat) (most : Int) (rs : List Row) (n : Nat) : Prop := TB w b w0.heap.size most rs ∧ RB w c w0.heap.size most rs ∧ Below w0.heap.size w0 w ∧ Inv rs ∧ rs.length ≤ n ∧ n ≤ 1000
section
variable {w0 w : World} {b c n : Nat} {most : Int} {rs rs' : List Row}
theorem Two.below (h : Two w0 w b c most rs n) {w1 : World} (k : Below w.heap.size w w1) : Two w0 w1 b c most rs n := ⟨h.1.below k, h.2.1.below k, below_step h.2.2.1 k, h.2.2.2⟩
theorem Half.below (h : Half w0 w b c most rs rs' n) {w1 : World} (k : Below w.heap.size w w1) : Half w0 w1 b c most rs rs' n := ⟨h.1.below k, h.2.1.below k, below_step h.2.2.1 k, h.2.2.2⟩
theorem Two.len (h : Two w0 w b c most rs n) : rs.length ≤ 1000000 := by
  obtain ⟨_, _, _, _, x, y⟩ := h
  omega
theorem Two.half (h : Two w0 w b c most rs n) (hn : n < 1000) {w' : World} (k : PA w0 w w' b most rs') (hi : Inv rs' ∧ rs'.length ≤ rs.length + 1) : Half w0 w' b c most rs rs' (n + 1) :=
  ⟨k.1, h.2.1.fr k.2.1 (by decide) (by decide), k.2.2, h.2.2.2.1, hi.1, h.len, by have := h.2.2.2.2.1; have := hi.2; omega, hn⟩
theorem Half.two (h : Half w0 w b c most rs rs' n) {w' : World} (k : PR w0 w w' c most rs') : Two w0 w' b c most rs' n :=
  ⟨h.1.fr k.2.1 (by decide) (by decide), k.1, k.2.2, h.2.2.2.2.1, h.2.2.2.2.2.2⟩
theorem tw_same (h : Two w0 w b c most rs n) : Calls Try.prog 21 #[.pointer (some ⟨b, 0, none⟩), .pointer (some ⟨c, 0, none⟩)] w fun e w' => e = .returned (.bool true) ∧ Two w0 w' b c most rs n :=
  (same_any h.1 h.2.1 (by obtain ⟨_, _, _, _, x, y⟩ := h; omega) h.2.2.2.1).mono fun _ _ k => ⟨k.1, h.below k.2⟩
theorem tw_spawn (h : Two w0 w b c most rs n) (hn : n < 1000) (par : Int) : Calls Try.prog 13 #[.pointer (some ⟨b, 0, none⟩), .int .i64 par] w fun e w' => e = .returned (.tuple #[.int .i64 (spawnP most rs par).1, .int .i64 (spawnP most rs par).2.1]) ∧ Fr [73, 79] w w' ∧ Half w0 w' b c most rs (spawnP most rs par).2.2 (n + 1) :=
  (spawn_any par h.2.2.1 h.1 h.len).mono fun _ _ k => ⟨k.1, k.2.2.1, h.half hn k.2 (Inv.spawn h.2.2.2.1 most par)⟩
theorem ha_spawn (par : Int) (h : Half w0 w b c most rs (spawnP most rs par).2.2 n) : Calls Try.prog 14 #[.pointer (some ⟨c, 0, none⟩), .int .i64 par] w fun e w' => e = .returned (.tuple #[.int .i64 (spawnP most rs par).1, .int .i64 (spawnP most rs par).2.1]) ∧ Fr [77, 83] w w' ∧ Two w0 w' b c most (spawnP most rs par).2.2 n :=
  (rspawn_any par h.2.2.1 h.2.1 h.2.2.2.2.2.1).mono fun _ _ k => ⟨k.1, k.2.2.1, h.two k.2⟩
theorem tw_block (h : Two w0 w b c most rs n) (hn : n < 1000) (pid kd ix : Int) : Calls Try.prog 15 #[.pointer (some ⟨b, 0, none⟩), .int .i64 pid, .agg #[.int .i64 kd, .int .i64 ix]] w fun e w' => e = .returned (.bool (blockP rs pid kd ix).1) ∧ Fr [73, 79] w w' ∧ Half w0 w' b c most rs (blockP rs pid kd ix).2 (n + 1) :=
  (block_any pid kd ix h.2.2.1 h.1 h.len).mono fun _ _ k => ⟨k.1, k.2.2.1, h.half hn k.2 (Inv.block h.2.2.2.1 pid kd ix)⟩
theorem ha_block (pid kd ix : Int) (h : Half w0 w b c most rs (blockP rs pid kd ix).2 n) : Calls Try.prog 16 #[.pointer (some ⟨c, 0, none⟩), .int .i64 pid, .agg #[.int .i64 kd, .int .i64 ix]] w fun e w' => e = .returned (.bool (blockP rs pid kd ix).1) ∧ Fr [77, 83] w w' ∧ Two w0 w' b c most (blockP rs pid kd ix).2 n :=
  (rblock_any pid kd ix h.2.2.1 h.2.1 h.2.2.2.2.2.1).mono fun _ _ k => ⟨k.1, k.2.2.1, h.two k.2⟩
theorem tw_wake (h : Two w0 w b c most rs n) (hn : n < 1000) (pid : Int) : Calls Try.prog 17 #[.pointer (some ⟨b, 0, none⟩), .int .i64 pid] w fun e w' => e = .returned (.bool (wakeP rs pid).1) ∧ Fr [73, 79] w w' ∧ Half w0 w' b c most rs (wakeP rs pid).2 (n + 1) :=
  (wake_any pid h.2.2.1 h.1 h.len).mono fun _ _ k => ⟨k.1, k.2.2.1, h.half hn k.2 (Inv.wake h.2.2.2.1 pid)⟩
theorem ha_wake (pid : Int) (h : Half w0 w b c most rs (wakeP rs pid).2 n) : Calls Try.prog 18 #[.pointer (some ⟨c, 0, none⟩), .int .i64 pid] w fun e w' => e = .returned (.bool (wakeP rs pid).1) ∧ Fr [77, 83] w w' ∧ Two w0 w' b c most (wakeP rs pid).2 n :=
  (rwake_any pid h.2.2.1 h.2.1 h.2.2.2.2.2.1).mono fun _ _ k => ⟨k.1, k.2.2.1, h.two k.2⟩
theorem tw_end (h : Two w0 w b c most rs n) (hn : n < 1000) (pid c_ : Int) : Calls Try.prog 19 #[.pointer (some ⟨b, 0, none⟩), .int .i64 pid, .int .i64 c_] w fun e w' => e = .returned (.bool (endP rs pid c_).1) ∧ Fr [73, 79] w w' ∧ Half w0 w' b c most rs (endP rs pid c_).2 (n + 1) :=
  (end_any pid c_ h.2.2.1 h.1 h.len).mono fun _ _ k => ⟨k.1, k.2.2.1, h.half hn k.2 (Inv.end_ h.2.2.2.1 pid c_)⟩
theorem ha_end (pid c_ : Int) (h : Half w0 w b c most rs (endP rs pid c_).2 n) : Calls Try.prog 20 #[.pointer (some ⟨c, 0, none⟩), .int .i64 pid, .int .i64 c_] w fun e w' => e = .returned (.bool (endP rs pid c_).1) ∧ Fr [77, 83] w w' ∧ Two w0 w' b c most (endP rs pid c_).2 n :=
  (rend_any pid c_ h.2.2.1 h.2.1 h.2.2.2.2.2.1 h.2.2.2.1).mono fun _ _ k => ⟨k.1, k.2.2.1, h.two k.2⟩
end
set_option maxHeartbeats 8000000 in
set_option maxRecDepth 100000 in
theorem plays_any (w : World) (most : Int) (A : Option Addr) (n cap : Nat) (z : Nat → Nat → Int) (hz : n = 0 ∨ ∃ x, A = some x ∧ ∀ i, i < n → ∀ j, j < 4 → w.cell? (x.add (i * 4 + j)) = some (.int .i64 (z i j))) :
    Calls Try.prog 3 #[.int .i64 most, .slice A n cap] w fun e w' => e = .returned (.bool true) ∧ Below w.heap.size w w' := by
  by_cases h6 : (n : Int) > 80
  · have h6b : decide ((n : Int) > 80) = true := decide_eq_true h6
    go_enter Try.func3, Try.ntmps3
    go_wp2_with (first | (go_at_call 10; (with_reducible refine (awake_any _).mono ?_); rintro e w10 ⟨rfl, hb⟩))
    go_ret
    exact ⟨rfl, hb⟩
  · have h6b : decide ((n : Int) > 80) = false := decide_eq_false h6
    have hn60 : n ≤ 80 := by omega
    by_cases hm : most < 1 ∨ 32 < most
    · have HM := Aside0.mk hm
      clear hm
      go_enter Try.func3, Try.ntmps3
      go_wp2_with (first | (go_at_call 11; (with_reducible refine (new_no _ most HM.out).mono ?_); rintro e w1 ⟨rfl, rfl⟩) | (go_at_call 12; (with_reducible refine (rnew_no _ most HM.out).mono ?_); rintro e w2 ⟨rfl, hb⟩; have HB := Aside0.mk hb; clear hb))
      go_loopw [9] (fun v9 wx => v9 = .int .i64 0 ∧ Aside0 (Below w.heap.size w wx)) (fun _ _ => 0)
      case atStart => exact ⟨rfl, HB⟩
      case round =>
        clear HB
        obtain ⟨rfl, HB⟩ := hrel
        by_cases h0 : 0 < n
        · have h0b : decide (0 < n) = true := decide_eq_true h0
          go_wp2_with (first | (go_at_call 10; (with_reducible refine (awake_any _).mono ?_); rintro e w10 ⟨rfl, hb⟩; have HZ9 := Aside0.mk (below_step HB.out hb); clear hb))
          go_ret
          exact ⟨rfl, HZ9.out⟩
        · have h0b : decide (0 < n) = false := decide_eq_false h0
          go_wp2_with (first | (go_at_call 10; (with_reducible refine (awake_any _).mono ?_); rintro e w10 ⟨rfl, hb⟩; have HZ9 := Aside0.mk (below_step HB.out hb); clear hb))
          go_ret
          exact ⟨rfl, HZ9.out⟩
    · have HM1 : Aside0 (1 ≤ most) := ⟨by omega⟩
      have HM2 : Aside0 (most ≤ 32) := ⟨by omega⟩
      clear hm
      go_enter Try.func3, Try.ntmps3
      go_wp2_with (first | (go_at_call 11; (with_reducible refine (new_yes w most HM1.out HM2.out).mono ?_); rintro e w1 ⟨b, rfl, ht, hb⟩; have HT := Aside0.mk ht; have HB := Aside0.mk hb; clear ht hb) | (go_at_call 12; (with_reducible refine (rnew_yes _ most HM1.out HM2.out).mono ?_); rintro e w2 ⟨c, rfl, ht, hb⟩; have HW : Aside0 (Two w w2 b c most [] 0) := Aside0.mk ⟨HT.out.below hb, ht.lower (below_size HB.out), below_step HB.out hb, fun i h => absurd h (Nat.not_lt_zero i), Nat.le_refl _, by decide⟩; clear HT HB ht hb))
      go_loopw [9] (fun v9 wx => ∃ (i : Nat) (rs : List Row), v9 = .int .i64 (i : Int) ∧ i ≤ n ∧ Aside0 (Two w wx b c most rs i)) (fun v9 _ => n - (intOf v9).toNat)
      case atStart => exact ⟨0, [], rfl, Nat.zero_le _, HW⟩
      case round =>
        clear HW
        obtain ⟨i, rs, rfl, hi, HW⟩ := hrel
        by_cases hlt : i < n
        · have hltb : decide (i < n) = true := decide_eq_true hlt
          have HI := Aside0.mk hlt
          have HN9 : Aside0 (i < 1000) := ⟨by omega⟩
          obtain ⟨x, rfl, hx⟩ := hz.resolve_left (by omega)
          have f0 : wr.cell? (x.add (i * 4)) = some (.int .i64 (z i 0)) := pw_cell_below HW.out.2.2.1 (hx i hlt 0 (by decide))
          have f1 : wr.cell? ⟨(x.add (i * 4)).block, (x.add (i * 4)).off + 1, none⟩ = some (.int .i64 (z i 1)) := by have h := pw_cell_below HW.out.2.2.1 (hx i hlt 1 (by decide)); rw [← add_add_] at h; exact h
          have f2 : wr.cell? ⟨(x.add (i * 4)).block, (x.add (i * 4)).off + 2, none⟩ = some (.int .i64 (z i 2)) := by have h := pw_cell_below HW.out.2.2.1 (hx i hlt 2 (by decide)); rw [← add_add_] at h; exact h
          have f3 : wr.cell? ⟨(x.add (i * 4)).block, (x.add (i * 4)).off + 3, none⟩ = some (.int .i64 (z i 3)) := by have h := pw_cell_below HW.out.2.2.1 (hx i hlt 3 (by decide)); rw [← add_add_] at h; exact h
          clear hx hz
          have HB := Aside0.mk (Below.refl wr.heap.size wr)
          go_upto_region 11 with (first | ((with_reducible refine gate_dst (N := 10) rfl ?_); refine box_event ?hg (N := 10) ?hd (cs := #[.int .i64 0, .int .i64 0, .int .i64 0, .int .i64 0]) (t := 32) ?hr ?_; (case hd => rfl); (case hg => rfl); (case hr => first | (go_simp; done) | (go_simp; rfl)); intro g10 hg w4 hbox hb; have n0_ := Aside0.mk (below_step HB.out hb); have n1_ := Aside0.mk (hbox); have n2_ := Aside0.mk ((by rw [hg]; exact below_size HB.out : wr.heap.size ≤ g10)); clear HB; have HB := n0_; have BK := n1_; have GE := n2_; clear n0_ n1_ n2_; have hcz0 : w4.cell? ⟨g10, 0, none⟩ = some (.int .i64 0) := (blk_cell hbox 0).trans rfl; have hfz0 : w4.frozen? ⟨g10, 0, none⟩ = false := blk_frozen hbox 0; have hcz1 : w4.cell? ⟨g10, 1, none⟩ = some (.int .i64 0) := (blk_cell hbox 1).trans rfl; have hfz1 : w4.frozen? ⟨g10, 1, none⟩ = false := blk_frozen hbox 1; have hcz2 : w4.cell? ⟨g10, 2, none⟩ = some (.int .i64 0) := (blk_cell hbox 2).trans rfl; have hfz2 : w4.frozen? ⟨g10, 2, none⟩ = false := blk_frozen hbox 2; have hcz3 : w4.cell? ⟨g10, 3, none⟩ = some (.int .i64 0) := (blk_cell hbox 3).trans rfl; have hfz3 : w4.frozen? ⟨g10, 3, none⟩ = false := blk_frozen hbox 3; have e0 := pw_cell_below hb f0; have e1 := pw_cell_below hb f1; have e2 := pw_cell_below hb f2; have e3 := pw_cell_below hb f3; clear hg hbox hb))
          have b0_ := blk_put (cs' := #[(.int .i64 (z i 0)), (.int .i64 0), (.int .i64 0), (.int .i64 0)]) BK.out 0 (.int .i64 (z i 0)) rfl
          have b1_ := blk_put (cs' := #[(.int .i64 (z i 0)), (.int .i64 (z i 1)), (.int .i64 0), (.int .i64 0)]) b0_ 1 (.int .i64 (z i 1)) rfl
          have b2_ := blk_put (cs' := #[(.int .i64 (z i 0)), (.int .i64 (z i 1)), (.int .i64 (z i 2)), (.int .i64 0)]) b1_ 2 (.int .i64 (z i 2)) rfl
          have b3_ := blk_put (cs' := #[(.int .i64 (z i 0)), (.int .i64 (z i 1)), (.int .i64 (z i 2)), (.int .i64 (z i 3))]) b2_ 3 (.int .i64 (z i 3)) rfl
          have HG := Aside0.mk b3_
          have n0_ := Aside0.mk (HW.out.below (below_set (j := 3) (v := .int .i64 (z i 3)) (below_set (j := 2) (v := .int .i64 (z i 2)) (below_set (j := 1) (v := .int .i64 (z i 1)) (below_set (j := 0) (v := .int .i64 (z i 0)) HB.out GE.out) GE.out) GE.out) GE.out))
          clear b0_ b1_ b2_ b3_ HW BK HB GE hcz0 hcz1 hcz2 hcz3 hfz0 hfz1 hfz2 hfz3 e0 e1 e2 e3 f0 f1 f2 f3
          have HW := n0_
          clear n0_
          generalize ((((w4.setCell { block := g10, off := 0 } (Value.int IntKind.i64 (z i 0))).setCell { block := g10, off := 1 } (Value.int IntKind.i64 (z i 1))).setCell { block := g10, off := 2 } (Value.int IntKind.i64 (z i 2))).setCell { block := g10, off := 3 } (Value.int IntKind.i64 (z i 3))) = W1 at HG HW ⊢
          have hg0 : W1.cell? ⟨g10, 0, none⟩ = some (.int .i64 (z i 0)) := (blk_cell HG.out 0).trans rfl
          have hg1 : W1.cell? ⟨g10, 1, none⟩ = some (.int .i64 (z i 1)) := (blk_cell HG.out 1).trans rfl
          have hg2 : W1.cell? ⟨g10, 2, none⟩ = some (.int .i64 (z i 2)) := (blk_cell HG.out 2).trans rfl
          have hg3 : W1.cell? ⟨g10, 3, none⟩ = some (.int .i64 (z i 3)) := (blk_cell HG.out 3).trans rfl
          by_cases k0 : z i 0 = 0
          · have k0b : (z i 0 == 0) = true := by simpa using k0
            clear k0
            go_wp2_with (first | (go_at_call 13; (with_reducible refine (tw_spawn HW.out HN9.out _).mono ?_); rintro e w13 ⟨rfl, hf, hh⟩; have g0_ := Aside0.mk (Fr.cells hf HG.out (by decide)); clear HG; have HG := g0_; clear g0_; clear HW; have HW := Aside0.mk hh; clear hf hh; have hg1 : w13.cell? ⟨g10, 1, none⟩ = some (.int .i64 (z i 1)) := (blk_cell HG.out 1).trans rfl) | (go_at_call 14; (with_reducible refine (ha_spawn _ HW.out).mono ?_); rintro e w14 ⟨rfl, hf, hh⟩; have g0_ := Aside0.mk (Fr.cells hf HG.out (by decide)); clear HG; have HG := g0_; clear g0_; clear HW; have HW := Aside0.mk hh; clear hf hh; have hg1 : w14.cell? ⟨g10, 1, none⟩ = some (.int .i64 (z i 1)) := (blk_cell HG.out 1).trans rfl) | (go_at_call 21; (with_reducible refine (tw_same HW.out).mono ?_); rintro e w21 ⟨rfl, hh⟩; clear HW; have HW := Aside0.mk hh; clear hh))
            go_roundw
            case rel => exact ⟨i + 1, _, by go_num, HI.out, HW⟩
            case measure => have := HI.out; simp [intOf]; omega
          · have k0b : (z i 0 == 0) = false := by simpa using k0
            by_cases k1 : z i 0 = 1
            · have k1b : (z i 0 == 1) = true := by simpa using k1
              clear k0 k1
              go_upto_region 21 with (first | ((with_reducible refine gate_dst (N := 15) rfl ?_); refine box_event ?hg (N := 15) ?hd (cs := #[.int .i64 0, .int .i64 0]) (t := 36) ?hr ?_; (case hd => rfl); (case hg => rfl); (case hr => first | (go_simp; done) | (go_simp; rfl)); intro g15 hg w15 hbox hb; have n0_ := Aside0.mk (hb); have n1_ := Aside0.mk (hbox); have n2_ := Aside0.mk ((by rw [hg]; exact Nat.le_refl _ : W1.heap.size ≤ g15)); have HB2 := n0_; have BK2 := n1_; have GE2 := n2_; clear n0_ n1_ n2_; have hcy0 : w15.cell? ⟨g15, 0, none⟩ = some (.int .i64 0) := (blk_cell hbox 0).trans rfl; have hfy0 : w15.frozen? ⟨g15, 0, none⟩ = false := blk_frozen hbox 0; have hcy1 : w15.cell? ⟨g15, 1, none⟩ = some (.int .i64 0) := (blk_cell hbox 1).trans rfl; have hfy1 : w15.frozen? ⟨g15, 1, none⟩ = false := blk_frozen hbox 1; clear hg hbox hb))
              have c0_ := blk_put (cs' := #[.int .i64 (z i 2), .int .i64 0]) BK2.out 0 (.int .i64 (z i 2)) rfl
              have c1_ := blk_put (cs' := #[.int .i64 (z i 2), .int .i64 (z i 3)]) c0_ 1 (.int .i64 (z i 3)) rfl
              have HK := Aside0.mk c1_
              have hbb := below_set (j := 1) (v := .int .i64 (z i 3)) (below_set (j := 0) (v := .int .i64 (z i 2)) HB2.out GE2.out) GE2.out
              have n0_ := Aside0.mk (HW.out.below hbb)
              have n1_ := Aside0.mk (blk_below HG.out hbb)
              clear c0_ c1_ hbb HW HG BK2 HB2 GE2 hcy0 hcy1 hfy0 hfy1 hg0 hg1 hg2 hg3
              have HW := n0_
              have HG := n1_
              clear n0_ n1_
              generalize ((w15.setCell { block := g15, off := 0 } (Value.int IntKind.i64 (z i 2))).setCell { block := g15, off := 1 } (Value.int IntKind.i64 (z i 3))) = W2 at HK HW HG ⊢
              have n0_ := Aside0.mk (HW.out.below (below_drew1 (Below.refl W2.heap.size W2)))
              have n1_ := Aside0.mk (blk_below HG.out (below_drew1 (Below.refl W2.heap.size W2)))
              have n2_ := Aside0.mk (blk_below HK.out (below_drew1 (Below.refl W2.heap.size W2)))
              clear HK
              have HK := n2_
              clear n2_
              clear HW HG
              have HW := n0_
              have HG := n1_
              clear n0_ n1_
              clear k0b k1b
              go_region_held3 (fun w' => w'.cell? ⟨g10, 1, none⟩ = some (.int .i64 (z i 1)) ∧ w'.cell? ⟨g15, 0, none⟩ = some (.int .i64 (z i 2)) ∧ w'.cell? ⟨g15, 1, none⟩ = some (.int .i64 (z i 3))) (exact ⟨(blk_cell HG.out 1).trans rfl, (blk_cell HK.out 0).trans rfl, (blk_cell HK.out 1).trans rfl⟩) (first | (go_at_call 15; (with_reducible refine (tw_block HW.out HN9.out _ _ _).mono ?_); rintro e w15 ⟨rfl, hf, hh⟩; have g0_ := Aside0.mk (Fr.cells hf HG.out (by decide)); have g1_ := Aside0.mk (Fr.cells hf HK.out (by decide)); clear HG HK; have HG := g0_; clear g0_; have HK := g1_; clear g1_; clear HW; have HW := Aside0.mk hh; clear hf hh; have hg1 : w15.cell? ⟨g10, 1, none⟩ = some (.int .i64 (z i 1)) := (blk_cell HG.out 1).trans rfl) | (go_at_call 16; (with_reducible refine (ha_block _ _ _ HW.out).mono ?_); rintro e w16 ⟨rfl, hf, hh⟩; have g0_ := Aside0.mk (Fr.cells hf HG.out (by decide)); have g1_ := Aside0.mk (Fr.cells hf HK.out (by decide)); clear HG HK; have HG := g0_; clear g0_; have HK := g1_; clear g1_; clear HW; have HW := Aside0.mk hh; clear hf hh; have hg1 : w16.cell? ⟨g10, 1, none⟩ = some (.int .i64 (z i 1)) := (blk_cell HG.out 1).trans rfl))
              go_wp2_with (first | (go_at_call 21; (with_reducible refine (tw_same HW.out).mono ?_); rintro e w21 ⟨rfl, hh⟩; clear HW; have HW := Aside0.mk hh; clear hh))
              go_roundw
              case rel => exact ⟨i + 1, _, by go_num, HI.out, HW⟩
              case measure => have := HI.out; simp [intOf]; omega
            · have k1b : (z i 0 == 1) = false := by simpa using k1
              by_cases k2 : z i 0 = 2
              · have k2b : (z i 0 == 2) = true := by simpa using k2
                clear k0 k1 k2
                go_upto_region 24 with (fail)
                have n0_ := Aside0.mk (HW.out.below (below_drew1 (Below.refl W1.heap.size W1)))
                have n1_ := Aside0.mk (blk_below HG.out (below_drew1 (Below.refl W1.heap.size W1)))
                clear HW HG
                have HW := n0_
                have HG := n1_
                clear n0_ n1_
                clear k0b k1b k2b hg0 hg1 hg2 hg3
                go_region_held3 (fun w' => w'.cell? ⟨g10, 1, none⟩ = some (.int .i64 (z i 1))) (exact (blk_cell HG.out 1).trans rfl) (first | (go_at_call 17; (with_reducible refine (tw_wake HW.out HN9.out _).mono ?_); rintro e w17 ⟨rfl, hf, hh⟩; have g0_ := Aside0.mk (Fr.cells hf HG.out (by decide)); clear HG; have HG := g0_; clear g0_; clear HW; have HW := Aside0.mk hh; clear hf hh; have hg1 : w17.cell? ⟨g10, 1, none⟩ = some (.int .i64 (z i 1)) := (blk_cell HG.out 1).trans rfl) | (go_at_call 18; (with_reducible refine (ha_wake _ HW.out).mono ?_); rintro e w18 ⟨rfl, hf, hh⟩; have g0_ := Aside0.mk (Fr.cells hf HG.out (by decide)); clear HG; have HG := g0_; clear g0_; clear HW; have HW := Aside0.mk hh; clear hf hh; have hg1 : w18.cell? ⟨g10, 1, none⟩ = some (.int .i64 (z i 1)) := (blk_cell HG.out 1).trans rfl))
                go_wp2_with (first | (go_at_call 21; (with_reducible refine (tw_same HW.out).mono ?_); rintro e w21 ⟨rfl, hh⟩; clear HW; have HW := Aside0.mk hh; clear hh))
                go_roundw
                case rel => exact ⟨i + 1, _, by go_num, HI.out, HW⟩
                case measure => have := HI.out; simp [intOf]; omega
              · have k2b : (z i 0 == 2) = false := by simpa using k2
                clear k0 k1 k2
                go_upto_region 12 with (fail)
                have n0_ := Aside0.mk (HW.out.below (below_drew1 (Below.refl W1.heap.size W1)))
                have n1_ := Aside0.mk (blk_below HG.out (below_drew1 (Below.refl W1.heap.size W1)))
                clear HW HG
                have HW := n0_
                have HG := n1_
                clear n0_ n1_
                clear k0b k1b k2b hg0 hg1 hg2 hg3
                go_region_held3 (fun w' => w'.cell? ⟨g10, 1, none⟩ = some (.int .i64 (z i 1)) ∧ w'.cell? ⟨g10, 2, none⟩ = some (.int .i64 (z i 2))) (exact ⟨(blk_cell HG.out 1).trans rfl, (blk_cell HG.out 2).trans rfl⟩) (first | (go_at_call 19; (with_reducible refine (tw_end HW.out HN9.out _ _).mono ?_); rintro e w19 ⟨rfl, hf, hh⟩; have g0_ := Aside0.mk (Fr.cells hf HG.out (by decide)); clear HG; have HG := g0_; clear g0_; clear HW; have HW := Aside0.mk hh; clear hf hh; have hg1 : w19.cell? ⟨g10, 1, none⟩ = some (.int .i64 (z i 1)) := (blk_cell HG.out 1).trans rfl) | (go_at_call 20; (with_reducible refine (ha_end _ _ HW.out).mono ?_); rintro e w20 ⟨rfl, hf, hh⟩; have g0_ := Aside0.mk (Fr.cells hf HG.out (by decide)); clear HG; have HG := g0_; clear g0_; clear HW; have HW := Aside0.mk hh; clear hf hh; have hg1 : w20.cell? ⟨g10, 1, none⟩ = some (.int .i64 (z i 1)) := (blk_cell HG.out 1).trans rfl))
                go_wp2_with (first | (go_at_call 21; (with_reducible refine (tw_same HW.out).mono ?_); rintro e w21 ⟨rfl, hh⟩; clear HW; have HW := Aside0.mk hh; clear hh))
                go_roundw
                case rel => exact ⟨i + 1, _, by go_num, HI.out, HW⟩
                case measure => have := HI.out; simp [intOf]; omega
        · have hltb : decide (i < n) = false := decide_eq_false hlt
          clear hi hlt
          go_wp2_with (first | (go_at_call 10; (with_reducible refine (awake_any _).mono ?_); rintro e w10 ⟨rfl, hb⟩; have HZ9 := Aside0.mk (below_step HW.out.2.2.1 hb); clear hb))
          go_ret
          exact ⟨rfl, HZ9.out⟩

end Go.Proofs.Ytfllnpfikdhdbaa.PProcs
