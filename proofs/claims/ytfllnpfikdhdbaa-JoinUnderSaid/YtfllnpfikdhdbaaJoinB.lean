import Derived.Test.YtfllnpfikdhdbaaPProcsx0
import Derived.Test.YtfllnpfikdhdbaaJoinA
import Derived.StillTailTactics
import Derived.Laws.LoneSync
import Derived.Laws.EntriesVeiled
import Derived.IntWalk
import Derived.Deep.RegionHeld3
import Derived.WalkMore
import Derived.ScopeJumps
namespace Go.Proofs.Ytfllnpfikdhdbaa.PProcs
open Go.RowKit Go.Proofs.YtfllnpfikdhdbaaW.PrintWords Go.Proofs.YtfllnpfikdhdbaaW.PrintLast Go.Proofs.YtfllnpfikdhdbaaW.PrintMore
attribute [local go_sem] max2_int min2_int max_two min_two max_three min_three max_four min_four
set_option linter.unusedVariables false
set_option linter.unusedSimpArgs false
def underN (rs : List Row) (pid : Int) : Nat → List Int
  | 0 => []
  | i + 1 => if above rs pid rs.length ((i : Int) + 1) = true then underN rs pid i ++ [(i : Int) + 1] else underN rs pid i
theorem underN_len (rs : List Row) (pid : Int) : ∀ i, (underN rs pid i).length ≤ i
  | 0 => Nat.le_refl 0
  | i + 1 => by
    have := underN_len rs pid i
    unfold underN
    split
    · rw [List.length_append]; simp; omega
    · omega
def underL (rs : List Row) (pid : Int) : List Int := if 0 < pid then underN rs pid rs.length else []
def UJ (w W1 : World) (g2 g3 g5 : Nat) (a : Option Addr) (pid : Int) (base : Nat) (most : Int) (rs : List Row) : Prop := Below w.heap.size w W1 ∧ TV W1 (.pointer a) base most rs ∧ W1.heap[g2]? = some (.cells #[.pointer a] 24 (0, 0)) ∧ W1.heap[g3]? = some (.cells #[.int .i64 pid] 3 (0, 0)) ∧ W1.heap[g5]? = some (.cells #[UpF g2 g3 g5] 38 (0, 0))
set_option maxHeartbeats 8000000 in
set_option maxRecDepth 100000 in
theorem under_any {w : World} {a : Option Addr} {base : Nat} {most : Int} {rs : List Row} (pid : Int) (ht : TV w (.pointer a) base most rs) (hl : rs.length ≤ 1000000) (hA : Ahead rs) : Calls Try.prog 40 #[.pointer a, .int .i64 pid] w fun e w' => ∃ v, e = .returned v ∧ Kd.R (Kd.int .i64) 3 w' w.heap.size (fun _ => True) v (underL rs pid) ∧ Below w.heap.size w w' := by
  have TH := Aside0.mk ht
  have HL := Aside0.mk hl
  have HA := Aside0.mk hA
  have HB := Aside0.mk (Below.refl w.heap.size w)
  clear ht hl hA
  go_enter Try.func40, Try.ntmps40
  go_wp2_with (first | ((with_reducible refine gate_dst (N := 2) rfl ?_); refine box_event ?hg (N := 2) ?hd (cs := #[.pointer a]) (t := 24) ?hr ?_; (case hd => rfl); (case hg => rfl); (case hr => first | (go_simp; done) | (go_simp; rfl)); intro g2 hg w2 hbox hb; have n0_ := Aside0.mk (below_step HB.out hb); have n1_ := Aside0.mk (hbox); clear HB; have HB := n0_; have H2 := n1_; clear n0_ n1_; clear hg hbox hb) | ((with_reducible refine gate_dst (N := 3) rfl ?_); refine box_event ?hg (N := 3) ?hd (cs := #[.int .i64 pid]) (t := 3) ?hr ?_; (case hd => rfl); (case hg => rfl); (case hr => first | (go_simp; done) | (go_simp; rfl)); intro g3 hg w3 hbox hb; have n0_ := Aside0.mk (below_step HB.out hb); have n1_ := Aside0.mk (blk_below H2.out hb); have n2_ := Aside0.mk (hbox); clear HB H2; have HB := n0_; have H2 := n1_; have H3 := n2_; clear n0_ n1_ n2_; clear hg hbox hb))
  refine wp_scope_jumps 0 (fun a' w' => ∃ (W1 : World) (g2 g3 g5 i : Nat) (out u7 u8 u9 u10 u11 u12 u13 u14 u15 u16 u17 u18 u19 u20 u21 u22 u23 u24 u25 : Value), a' = { tmps := #[.pointer a, .int .i64 pid, .pointer (some ⟨g2, 0, none⟩), .pointer (some ⟨g3, 0, none⟩), out, .pointer (some ⟨g5, 0, none⟩), .int .i64 ((i : Int) + 1), u7, u8, u9, u10, u11, u12, u13, u14, u15, u16, u17, u18, u19, u20, u21, u22, u23, u24, u25], defers := [] } ∧ i ≤ rs.length ∧ (i = 0 ∨ 0 < pid) ∧ UJ w W1 g2 g3 g5 a pid base most rs ∧ Below W1.heap.size W1 w' ∧ Kd.R (Kd.int .i64) 3 w' W1.heap.size (fun _ => True) out (underN rs pid i)) (fun a' _ => ((rs.length : Int) + 2 - intOf (a'.tmps.getD 6 undef)).toNat) rfl ?_ ?_
  · go_wp2_with (first | ((with_reducible refine gate_dst (N := 5) rfl ?_); refine box_event ?hg (N := 5) ?hd (cs := #[.nilFunc]) (t := 38) ?hr ?_; (case hd => rfl); (case hg => rfl); (case hr => first | (go_simp; done) | (go_simp; rfl)); intro g5 hg w5 hbox hb; have n0_ := Aside0.mk ((by rw [hg]; exact below_size HB.out : w.heap.size ≤ g5)); have n1_ := Aside0.mk (below_step HB.out hb); have n2_ := Aside0.mk (blk_below H2.out hb); have n3_ := Aside0.mk (blk_below H3.out hb); have n4_ := Aside0.mk (hbox); clear HB H2 H3; have GE5 := n0_; have HB := n1_; have H2 := n2_; have H3 := n3_; have H5 := n4_; clear n0_ n1_ n2_ n3_ n4_; have hcz0 : w5.cell? ⟨g5, 0, none⟩ = some .nilFunc := (blk_cell hbox 0).trans rfl; have hfz0 : w5.frozen? ⟨g5, 0, none⟩ = false := blk_frozen hbox 0; clear hg hbox hb))
    have hne2 : g2 ≠ g5 := cells_ne H2.out H5.out (by decide)
    have hne3 : g3 ≠ g5 := cells_ne H3.out H5.out (by decide)
    have UU : Aside0 (UJ w (w5.setCell ⟨g5, 0, none⟩ (.func (.func 60) #[] #[.pointer (some ⟨g2, 0, none⟩), .pointer (some ⟨g3, 0, none⟩), .pointer (some ⟨g5, 0, none⟩)])) g2 g3 g5 a pid base most rs) := Aside0.mk ⟨below_set HB.out GE5.out, TH.out.below (below_set HB.out GE5.out), blk_far H2.out (p := ⟨g5, 0, none⟩) hne2 _, blk_far H3.out (p := ⟨g5, 0, none⟩) hne3 _, blk_put (cs' := #[UpF g2 g3 g5]) H5.out 0 (UpF g2 g3 g5) rfl⟩
    clear hne2 hne3 HB H2 H3 H5 GE5 hcz0 hfz0 TH
    generalize (w5.setCell ⟨g5, 0, none⟩ (.func (.func 60) #[] #[.pointer (some ⟨g2, 0, none⟩), .pointer (some ⟨g3, 0, none⟩), .pointer (some ⟨g5, 0, none⟩)])) = W1 at UU ⊢
    have HB1 := Aside0.mk (Below.refl W1.heap.size W1)
    go_step3
    have TV1 := Aside0.mk UU.out.2.1
    have G2 := Aside0.mk UU.out.2.2.1
    have G3 := Aside0.mk UU.out.2.2.2.1
    have G5 := Aside0.mk UU.out.2.2.2.2
    have HO : Aside0 (Kd.R (Kd.int .i64) 3 W1 W1.heap.size (fun _ => True) (.slice none 0 0) []) := ⟨Kd.R_nil _ _ _ _ _⟩
    have hc2 : W1.cell? ⟨g2, 0, none⟩ = some (.pointer a) := (blk_cell (blk_below G2.out HB1.out) 0).trans rfl
    have hc3 : W1.cell? ⟨g3, 0, none⟩ = some (.int .i64 pid) := (blk_cell (blk_below G3.out HB1.out) 0).trans rfl
    have hc5 : W1.cell? ⟨g5, 0, none⟩ = some (.func (.func 60) #[] #[.pointer (some ⟨g2, 0, none⟩), .pointer (some ⟨g3, 0, none⟩), .pointer (some ⟨g5, 0, none⟩)]) := (blk_cell (blk_below G5.out HB1.out) 0).trans rfl
    by_cases hp : 0 < pid
    · have hpb : decide (pid > 0) = true := decide_eq_true hp
      have HP := Aside0.mk hp
      by_cases hi : 0 < rs.length
      · have HI := Aside0.mk hi
        have hib : decide (1 ≤ (rs.length : Int)) = true := decide_eq_true (by omega)
        have hw3 := HL.out
        cases hab : above rs pid rs.length 1 with
        | true =>
          have HAB := Aside0.mk hab
          have HT : Aside0 (underN rs pid 1 = [] ++ [1]) := ⟨by show (if above rs pid rs.length 1 = true then [] ++ [1] else []) = _; rw [if_pos hab]⟩
          clear hab
          go_wp2_with (first | (go_at_call 31; (with_reducible refine (count_any (TV1.out.below HB1.out)).mono ?_); rintro e w' ⟨rfl, rfl⟩) | (go_at_call 60; (with_reducible refine (above_any rs pid g2 g3 g5 _ base most HL.out HA.out rs.length 1 _ (by have := HI.out; omega) (TV1.out.below HB1.out) (blk_below G2.out HB1.out) (blk_below G3.out HB1.out) (blk_below G5.out HB1.out)).mono ?_); rintro e w60 ⟨rfl, hb⟩; rw [HAB.out]; have n0_ := Aside0.mk (below_step HB1.out hb); have n1_ := Aside0.mk (Kd.R_below HO.out hb); clear HB1 HO hb; have HB1 := n0_; have HO := n1_; clear n0_ n1_) | ((with_reducible refine gate_builtin (b := .append) (xs := #[.tmp 19, .tmp 21]) rfl ?_); at_builtin; refine Kd.R_append (Kd.int .i64) (w0 := W1) W1.heap.size rfl (.tmp 19) (.tmp 21) 42 3 (.int .i64 0) 8 rfl Try.underlying42 info3 rfl (by decide) (by omega) (.slice none 0 0) [] 1 [.int .i64 1] (fun _ => True) (fun _ => False) rfl rfl ?aP (fun _ hk => hk.elim) ?aF ?aO ?aB ?aS ?aL ?_; (case aP => exact rfl); (case aB => exact HB1.out); (case aF => exact (fun _ _ => trivial)); (case aO => exact HO.out); (case aS => exact (below_size HB1.out)); (case aL => simp); intro v31 w31 ho hb hg hat; clear HB1 HO; have HB1 := Aside0.mk hb; have HO := Aside0.mk ho; clear ho hb hg hat))
          go_step3
          refine ⟨rfl, W1, g2, g3, g5, 1, _, _, _, _, _, _, _, _, _, _, _, _, _, _, _, _, _, _, _, _, rfl, HI.out, .inr HP.out, UU.out, HB1.out, ?_⟩
          rw [HT.out]; exact HO.out
        | false =>
          have HAB := Aside0.mk hab
          have HT : Aside0 (underN rs pid 1 = []) := ⟨by show (if above rs pid rs.length 1 = true then [] ++ [1] else []) = _; rw [if_neg (by rw [hab]; simp)]⟩
          clear hab
          go_wp2_with (first | (go_at_call 31; (with_reducible refine (count_any (TV1.out.below HB1.out)).mono ?_); rintro e w' ⟨rfl, rfl⟩) | (go_at_call 60; (with_reducible refine (above_any rs pid g2 g3 g5 _ base most HL.out HA.out rs.length 1 _ (by have := HI.out; omega) (TV1.out.below HB1.out) (blk_below G2.out HB1.out) (blk_below G3.out HB1.out) (blk_below G5.out HB1.out)).mono ?_); rintro e w60 ⟨rfl, hb⟩; rw [HAB.out]; have n0_ := Aside0.mk (below_step HB1.out hb); have n1_ := Aside0.mk (Kd.R_below HO.out hb); clear HB1 HO hb; have HB1 := n0_; have HO := n1_; clear n0_ n1_))
          go_step3
          refine ⟨rfl, W1, g2, g3, g5, 1, _, _, _, _, _, _, _, _, _, _, _, _, _, _, _, _, _, _, _, _, rfl, HI.out, .inr HP.out, UU.out, HB1.out, ?_⟩
          rw [HT.out]; exact HO.out
      · have hib : decide (1 ≤ (rs.length : Int)) = false := decide_eq_false (by omega)
        have h0 : rs.length = 0 := by omega
        go_wp2_with (first | (go_at_call 31; (with_reducible refine (count_any (TV1.out.below HB1.out)).mono ?_); rintro e w' ⟨rfl, rfl⟩))
        simp only [Exit.jump]
        go_ret
        exact ⟨_, rfl, by rw [underL, if_pos hp, h0]; exact Kd.R_lower HO.out (below_size UU.out.1), below_step UU.out.1 HB1.out⟩
    · have hpb : decide (pid > 0) = false := decide_eq_false hp
      have HN : Aside0 (Kd.R (Kd.int .i64) 3 W1 W1.heap.size (fun _ => True) (.slice none 0 0) []) := ⟨HO.out⟩
      go_wp2_with (fail)
      simp only [Exit.jump]
      go_ret
      exact ⟨_, rfl, by rw [underL, if_neg (by omega)]; exact Kd.R_lower HN.out (below_size UU.out.1), below_step UU.out.1 HB1.out⟩
  · rintro a' WW ⟨W1, g2, g3, g5, i, out, u7, u8, u9, u10, u11, u12, u13, u14, u15, u16, u17, u18, u19, u20, u21, u22, u23, u24, u25, rfl, hil, hip, uu, hb1, ho⟩
    have UU := Aside0.mk uu
    have HB1 := Aside0.mk hb1
    have HO := Aside0.mk ho
    have TV1 := Aside0.mk uu.2.1
    have G2 := Aside0.mk uu.2.2.1
    have G3 := Aside0.mk uu.2.2.2.1
    have G5 := Aside0.mk uu.2.2.2.2
    clear uu hb1 ho
    have hc2 : WW.cell? ⟨g2, 0, none⟩ = some (.pointer a) := (blk_cell (blk_below G2.out HB1.out) 0).trans rfl
    have hc3 : WW.cell? ⟨g3, 0, none⟩ = some (.int .i64 pid) := (blk_cell (blk_below G3.out HB1.out) 0).trans rfl
    have hc5 : WW.cell? ⟨g5, 0, none⟩ = some (.func (.func 60) #[] #[.pointer (some ⟨g2, 0, none⟩), .pointer (some ⟨g3, 0, none⟩), .pointer (some ⟨g5, 0, none⟩)]) := (blk_cell (blk_below G5.out HB1.out) 0).trans rfl
    by_cases hp : 0 < pid
    · have hpb : decide (pid > 0) = true := decide_eq_true hp
      have HP := Aside0.mk hp
      by_cases hi : i < rs.length
      · have HI := Aside0.mk hi
        have hib : decide ((i : Int) + 1 ≤ (rs.length : Int)) = true := decide_eq_true (by omega)
        have hw3 : (i : Int) ≤ 1000000 := by have := HL.out; omega
        cases hab : above rs pid rs.length ((i : Int) + 1) with
        | true =>
          have HAB := Aside0.mk hab
          have HT : Aside0 (underN rs pid (i + 1) = underN rs pid i ++ [(i : Int) + 1]) := ⟨by rw [underN, if_pos hab]⟩
          clear hab
          go_wp2_with (first | (go_at_call 31; (with_reducible refine (count_any (TV1.out.below HB1.out)).mono ?_); rintro e w' ⟨rfl, rfl⟩) | (go_at_call 60; (with_reducible refine (above_any rs pid g2 g3 g5 _ base most HL.out HA.out rs.length ((i : Int) + 1) _ (by have := HI.out; omega) (TV1.out.below HB1.out) (blk_below G2.out HB1.out) (blk_below G3.out HB1.out) (blk_below G5.out HB1.out)).mono ?_); rintro e w60 ⟨rfl, hb⟩; rw [HAB.out]; have n0_ := Aside0.mk (below_step HB1.out hb); have n1_ := Aside0.mk (Kd.R_below HO.out hb); clear HB1 HO hb; have HB1 := n0_; have HO := n1_; clear n0_ n1_) | ((with_reducible refine gate_builtin (b := .append) (xs := #[.tmp 19, .tmp 21]) rfl ?_); at_builtin; refine Kd.R_append (Kd.int .i64) (w0 := W1) W1.heap.size rfl (.tmp 19) (.tmp 21) 42 3 (.int .i64 0) 8 rfl Try.underlying42 info3 rfl (by decide) (by omega) out (underN rs pid i) ((i : Int) + 1) [.int .i64 ((i : Int) + 1)] (fun _ => True) (fun _ => False) rfl rfl ?aP (fun _ hk => hk.elim) ?aF ?aO ?aB ?aS ?aL ?_; (case aP => exact rfl); (case aB => exact HB1.out); (case aF => exact (fun _ _ => trivial)); (case aO => exact HO.out); (case aS => exact (below_size HB1.out)); (case aL => have := underN_len rs pid i; have := HI.out; have := HL.out; omega); intro v31 w31 ho hb hg hat; clear HB1 HO; have HB1 := Aside0.mk hb; have HO := Aside0.mk ho; clear ho hb hg hat))
          go_step3
          refine ⟨rfl, ⟨W1, g2, g3, g5, i + 1, _, _, _, _, _, _, _, _, _, _, _, _, _, _, _, _, _, _, _, _, rfl, HI.out, .inr HP.out, UU.out, HB1.out, ?_⟩, ?_⟩
          · rw [HT.out]; exact HO.out
          · have := HI.out; simp [intOf]; omega
        | false =>
          have HAB := Aside0.mk hab
          have HT : Aside0 (underN rs pid (i + 1) = underN rs pid i) := ⟨by rw [underN, if_neg (by rw [hab]; simp)]⟩
          clear hab
          go_wp2_with (first | (go_at_call 31; (with_reducible refine (count_any (TV1.out.below HB1.out)).mono ?_); rintro e w' ⟨rfl, rfl⟩) | (go_at_call 60; (with_reducible refine (above_any rs pid g2 g3 g5 _ base most HL.out HA.out rs.length ((i : Int) + 1) _ (by have := HI.out; omega) (TV1.out.below HB1.out) (blk_below G2.out HB1.out) (blk_below G3.out HB1.out) (blk_below G5.out HB1.out)).mono ?_); rintro e w60 ⟨rfl, hb⟩; rw [HAB.out]; have n0_ := Aside0.mk (below_step HB1.out hb); have n1_ := Aside0.mk (Kd.R_below HO.out hb); clear HB1 HO hb; have HB1 := n0_; have HO := n1_; clear n0_ n1_))
          go_step3
          refine ⟨rfl, ⟨W1, g2, g3, g5, i + 1, _, _, _, _, _, _, _, _, _, _, _, _, _, _, _, _, _, _, _, _, rfl, HI.out, .inr HP.out, UU.out, HB1.out, ?_⟩, ?_⟩
          · rw [HT.out]; exact HO.out
          · have := HI.out; simp [intOf]; omega
      · have hib : decide ((i : Int) + 1 ≤ (rs.length : Int)) = false := decide_eq_false (by omega)
        obtain rfl : i = rs.length := by omega
        go_wp2_with (first | (go_at_call 31; (with_reducible refine (count_any (TV1.out.below HB1.out)).mono ?_); rintro e w' ⟨rfl, rfl⟩))
        simp only [Exit.jump]
        go_ret
        exact ⟨_, rfl, by rw [underL, if_pos hp]; exact Kd.R_lower HO.out (below_size UU.out.1), below_step UU.out.1 HB1.out⟩
    · have hpb : decide (pid > 0) = false := decide_eq_false hp
      have HN : Aside0 (Kd.R (Kd.int .i64) 3 WW W1.heap.size (fun _ => True) out []) := ⟨by have h := HO.out; rw [hip.resolve_right hp] at h; exact h⟩
      go_wp2_with (fail)
      simp only [Exit.jump]
      go_ret
      exact ⟨_, rfl, by rw [underL, if_neg (by omega)]; exact Kd.R_lower HN.out (below_size UU.out.1), below_step UU.out.1 HB1.out⟩

end Go.Proofs.Ytfllnpfikdhdbaa.PProcs
