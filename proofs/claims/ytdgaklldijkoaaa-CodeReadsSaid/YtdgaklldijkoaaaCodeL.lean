import Derived.Test.YtdgaklldijkoaaaPCodex0
import Derived.Test.YtdgaklldijkoaaaCodeK
import Derived.BigQuiet
import Derived.IntWalk
import Derived.WalkMore
import Derived.Laws.EntriesVeiled
import Derived.StillTailTactics
import Derived.Laws.BitsAllLaws
import Derived.Laws.BitsLemmas
import Derived.Laws.Strings
import Derived.Lib.SlBytesConst
namespace Go.Proofs.Ytdgaklldijkoaaa.PCode
open Go.RowKit Go.Proofs.YtdgaklldijkoaaaW.PrintWords Go.Proofs.YtdgaklldijkoaaaW.PrintLast Go.Proofs.YtdgaklldijkoaaaW.PrintMore
attribute [local go_sem] max2_int min2_int max_two min_two max_three min_three max_four min_four
set_option linter.unusedVariables false
set_option linter.unusedSimpArgs false
theorem decode_any {w : World} {A : Option Addr} {c n : Nat} {b : List Int} (hn : n = b.length) (hy : Byt b) (hC : Kd.C (Kd.int .u8) w A b.length b) (hc : b.length ≤ c) : Calls Try.prog 14 #[.slice A n c] w fun e w' => ∃ v, e = .returned (.tuple #[v, .int .i64 (dec b).2]) ∧ PR w' v (dec b).1 ∧ Below w.heap.size w w' := by
  subst hn
  by_cases q : b.length < 2
  · exact decode_short q
  · exact decode_long (by omega) hy hC hc
theorem encode_any {w : World} {v : Value} {p : Pg} (h : PR w v p) : Calls Try.prog 10 #[v] w fun e w' => (∃ A c, e = .returned (.tuple #[.slice A (encP p).1.length c, .int .i64 (encP p).2]) ∧ (encP p).1.length ≤ c ∧ Kd.C (Kd.int .u8) w' A (encP p).1.length (encP p).1) ∧ Below w.heap.size w w' := by
  unfold encP
  cases hm : p.may with
  | true =>
    rw [if_pos rfl]
    exact (encode_yes h hm).mono fun e w' ⟨⟨A, c, k1, k2⟩, k3⟩ => ⟨⟨A, c, k1, (Kd.R_reads' k2).2.1, (Kd.R_reads' k2).2.2⟩, k3⟩
  | false =>
    rw [if_neg (by decide)]
    exact (encode_no h hm).mono fun e w' ⟨k1, k2⟩ => ⟨⟨none, 0, k1, Nat.le_refl _, nilC _ w'⟩, k2⟩
abbrev sb : Obj := .cells #[.int .u8 83, .int .u8 66] 5 (2, 3)
theorem conv_sb (W : World) : (convert 32 32 (.slice (some ⟨W.heap.size, 0, none⟩) 2 2)).run Try.prog (W.alloc (.cells #[.int .u8 83, .int .u8 66] 5)) = .ok (.slice (some ⟨W.heap.size, 0, none⟩) 2 2) (W.alloc sb) := Go.Lib.run_convert_bytes_const W 32 5 #[.int .u8 83, .int .u8 66] 2 2 Try.underlying32 Try.underlying5
theorem sbC (W : World) : Kd.C (Kd.int .u8) (W.alloc sb) (some ⟨W.heap.size, 0, none⟩) 2 [83, 66] := by
  have hh : (W.alloc sb).heap[W.heap.size]? = some sb := by
    show (W.heap.push sb)[W.heap.size]? = _
    exact Array.getElem?_push_size
  have hc : ∀ k, (W.alloc sb).cell? ⟨W.heap.size, k, none⟩ = (#[.int .u8 83, .int .u8 66] : Array Value)[k]? := fun k => cell_of_row _ _ k _ 5 (2, 3) hh
  refine ⟨rfl, by decide, fun _ => ⟨_, rfl, fun i p hi => ?_⟩⟩
  match i, hi with
  | 0, hi =>
    cases hi
    refine ⟨[.int .u8 83], rfl, rfl, fun j u hu => ?_⟩
    cases j with
    | zero => cases hu; rw [add_plain]; exact hc 0
    | succ j => cases hu
  | 1, hi =>
    cases hi
    refine ⟨[.int .u8 66], rfl, rfl, fun j u hu => ?_⟩
    cases j with
    | zero => cases hu; rw [add_plain]; exact hc 1
    | succ j => cases hu
  | n + 2, hi => exact absurd hi (by simp)
def p0 : Pg := ⟨[⟨27, 0, 0⟩], [⟨0, 0, 0⟩], [], 0, [], [], [[]], [], 0⟩
theorem p0_ok : p0.Ok := Pg.may_ok.1 rfl
theorem w64_0 : W64 0 := ⟨by decide, by decide⟩
theorem p0_wf : p0.Wf := ⟨fun x hx => by cases List.mem_singleton.1 hx; exact ⟨⟨by decide, by decide⟩, w64_0, w64_0⟩, fun x hx => by cases List.mem_singleton.1 hx; exact ⟨w64_0, w64_0, w64_0⟩, fun x hx => (by cases hx), w64_0, fun x hx => (by cases hx), fun x hx => (by cases hx), fun x hx y hy => (by cases List.mem_singleton.1 hx; cases hy), fun x hx => (by cases hx), w64_0⟩
theorem enc0 : encP p0 = (encB p0, 0) := rfl
theorem dec0 : dec (encB p0) = (p0, 0) := dec_enc p0_wf p0_ok
theorem len0 : (encB p0).length = 80 := rfl
theorem encz : encP Pg.z = ([], 1) := rfl
theorem dec1 : dec [83, 66] = (Pg.z, 5) := rfl

theorem enc_p0 {w : World} {A11 A13 A14 : Option Addr} {c11 c13 c14 : Nat} (h : PX w A11 c11 A13 c13 none 0 none 0 none 0 A14 c14 none 0 p0) : Calls Try.prog 10 #[.agg #[.slice A11 1 c11, .slice A13 1 c13, .slice none 0 0, .int .i64 0, .slice none 0 0, .slice none 0 0, .slice A14 1 c14, .slice none 0 0, .int .i64 0]] w fun e w' => (∃ A c, e = .returned (.tuple #[.slice A 80 c, .int .i64 0]) ∧ 80 ≤ c ∧ Kd.C (Kd.int .u8) w' A 80 (encB p0)) ∧ Below w.heap.size w w' := by
  have H := encode_any h.pr
  rw [enc0] at H
  exact H
theorem dec_p0 {w : World} {A : Option Addr} {c : Nat} (hC : Kd.C (Kd.int .u8) w A 80 (encB p0)) (hc : 80 ≤ c) : Calls Try.prog 14 #[.slice A 80 c] w fun e w' => ∃ B0 d0 B1 d1 B2 d2 B4 d4 B5 d5 B6 d6 B7 d7, e = .returned (.tuple #[.agg #[.slice B0 1 d0, .slice B1 1 d1, .slice B2 0 d2, .int .i64 0, .slice B4 0 d4, .slice B5 0 d5, .slice B6 1 d6, .slice B7 0 d7, .int .i64 0], .int .i64 0]) ∧ PX w' B0 d0 B1 d1 B2 d2 B4 d4 B5 d5 B6 d6 B7 d7 p0 ∧ Below w.heap.size w w' := by
  have H := decode_any (n := 80) len0.symm (encB_byt p0) hC hc
  rw [dec0] at H
  exact H.mono fun e w' ⟨v, k1, ⟨B0, d0, B1, d1, B2, d2, B4, d4, B5, d5, B6, d6, B7, d7, k2, k3⟩, k4⟩ => ⟨B0, d0, B1, d1, B2, d2, B4, d4, B5, d5, B6, d6, B7, d7, by rw [k1, k2]; rfl, k3, k4⟩
theorem enc_z (w : World) : Calls Try.prog 10 #[.agg #[.slice none 0 0, .slice none 0 0, .slice none 0 0, .int .i64 0, .slice none 0 0, .slice none 0 0, .slice none 0 0, .slice none 0 0, .int .i64 0]] w fun e w' => (∃ A c, e = .returned (.tuple #[.slice A 0 c, .int .i64 1])) ∧ Below w.heap.size w w' := by
  have H := encode_any (zPX w).pr
  rw [encz] at H
  exact H.mono fun e w' ⟨⟨A, c, k1, _⟩, k2⟩ => ⟨⟨A, c, k1⟩, k2⟩
theorem dec_2 (w : World) : Calls Try.prog 14 #[.slice (some ⟨w.heap.size, 0, none⟩) 2 2] (w.alloc sb) fun e w' => ∃ B0 d0 B1 d1 B2 d2 B4 d4 B5 d5 B6 d6 B7 d7, e = .returned (.tuple #[.agg #[.slice B0 0 d0, .slice B1 0 d1, .slice B2 0 d2, .int .i64 0, .slice B4 0 d4, .slice B5 0 d5, .slice B6 0 d6, .slice B7 0 d7, .int .i64 0], .int .i64 5]) ∧ Below w.heap.size w w' := by
  have H := decode_any (n := 2) (c := 2) (b := [83, 66]) rfl (fun x hx => by rcases List.mem_cons.1 hx with rfl | hx; decide; cases List.mem_singleton.1 hx; decide) (sbC w) (by decide)
  rw [dec1] at H
  exact H.mono fun e w' ⟨v, k1, ⟨B0, d0, B1, d1, B2, d2, B4, d4, B5, d5, B6, d6, B7, d7, k2, k3⟩, k4⟩ => ⟨B0, d0, B1, d1, B2, d2, B4, d4, B5, d5, B6, d6, B7, d7, by rw [k1, k2]; rfl, below_step (below_alloc (Below.refl w.heap.size w) sb) k4⟩
theorem may_p0 {w : World} {A11 A13 A14 : Option Addr} {c11 c13 c14 : Nat} (h : PX w A11 c11 A13 c13 none 0 none 0 none 0 A14 c14 none 0 p0) : Calls Try.prog 12 #[.agg #[.slice A11 1 c11, .slice A13 1 c13, .slice none 0 0, .int .i64 0, .slice none 0 0, .slice none 0 0, .slice A14 1 c14, .slice none 0 0, .int .i64 0]] w fun e w' => e = .returned (.bool true) ∧ Below w.heap.size w w' := may_t (p := p0) rfl h.pr
theorem may_z (w : World) : Calls Try.prog 12 #[.agg #[.slice none 0 0, .slice none 0 0, .slice none 0 0, .int .i64 0, .slice none 0 0, .slice none 0 0, .slice none 0 0, .slice none 0 0, .int .i64 0]] w fun e w' => e = .returned (.bool false) ∧ Below w.heap.size w w' := may_t (p := Pg.z) rfl (zPX w).pr
theorem same_p0 {w : World} {A11 A13 A14 : Option Addr} {c11 c13 c14 : Nat} {B0 B1 B2 B4 B5 B6 B7 : Option Addr} {d0 d1 d2 d4 d5 d6 d7 : Nat} (h : PX w A11 c11 A13 c13 none 0 none 0 none 0 A14 c14 none 0 p0) (k : PX w B0 d0 B1 d1 B2 d2 B4 d4 B5 d5 B6 d6 B7 d7 p0) : Calls Try.prog 16 #[.agg #[.slice A11 1 c11, .slice A13 1 c13, .slice none 0 0, .int .i64 0, .slice none 0 0, .slice none 0 0, .slice A14 1 c14, .slice none 0 0, .int .i64 0], .agg #[.slice B0 1 d0, .slice B1 1 d1, .slice B2 0 d2, .int .i64 0, .slice B4 0 d4, .slice B5 0 d5, .slice B6 1 d6, .slice B7 0 d7, .int .i64 0]] w fun e w' => e = .returned (.bool true) ∧ Below w.heap.size w w' := csame_any (p := p0) (q := p0) ⟨fun _ => rfl, fun _ => rfl⟩ h.pr k.pr
theorem same_z {w : World} {A11 A13 A14 : Option Addr} {c11 c13 c14 : Nat} (h : PX w A11 c11 A13 c13 none 0 none 0 none 0 A14 c14 none 0 p0) : Calls Try.prog 16 #[.agg #[.slice A11 1 c11, .slice A13 1 c13, .slice none 0 0, .int .i64 0, .slice none 0 0, .slice none 0 0, .slice A14 1 c14, .slice none 0 0, .int .i64 0], .agg #[.slice none 0 0, .slice none 0 0, .slice none 0 0, .int .i64 0, .slice none 0 0, .slice none 0 0, .slice none 0 0, .slice none 0 0, .int .i64 0]] w fun e w' => e = .returned (.bool false) ∧ Below w.heap.size w w' := csame_any (p := p0) (q := Pg.z) ⟨fun h => (by cases h), fun h => absurd (congrArg (fun p => p.a.length) h) (by decide)⟩ h.pr (zPX w).pr

set_option maxHeartbeats 16000000 in
set_option maxRecDepth 100000 in
theorem awake6_any (w : World) : Calls Try.prog 9 #[] w fun e w' => e = .returned (.bool true) ∧ Below w.heap.size w w' := by
  have HB := Aside0.mk (Below.refl w.heap.size w)
  have hcv := conv_sb
  go_enter Try.func9, Try.ntmps9
  go_upto_region 2 with (first | ((with_reducible refine gate_dst (N := 11) rfl ?_); refine Kd.R_lit (k44) _ 44 ?hg (N := 11) ?hd (xs := ([⟨27, 0, 0⟩] : List S44)) (inner := [.int .i64 27, .int .i64 0, .int .i64 0]) (ok := fun _ => True) (okp := fun _ => True) ?hr ?hp (fun _ hk => hk) trivial (Below.refl _ _) (Nat.le_refl _) (by simp) ?_; (case hd => rfl); (case hg => rfl); (case hr => first | (go_simp; done) | (go_simp; rfl)); (case hp => exact (by refine ⟨rfl, fun j p hj => ?_⟩; match j, hj with | 0, hj => (cases hj; exact ⟨[.int .i64 27], [.int .i64 0, .int .i64 0], rfl, rfl, [.int .i64 0], [.int .i64 0], rfl, rfl, rfl⟩) | n + 1, hj => exact absurd hj (by simp))); intro v11 w11 ho hb hg_ hnew_; clear hg_ hnew_; obtain ⟨A11, c11, e11⟩ : ∃ A c, v11 = .slice A 1 c := Kd.R_slice ho; subst e11; have n0_ := Aside0.mk (Kd.R_lower ho (below_size HB.out)); have n1_ := Aside0.mk (below_step HB.out hb); clear HB ho; have HQa := n0_; have HB := n1_; clear n0_ n1_; clear hb) | ((with_reducible refine gate_dst (N := 13) rfl ?_); refine Kd.R_lit (k46) _ 46 ?hg (N := 13) ?hd (xs := ([⟨0, 0, 0⟩] : List S46)) (inner := [.int .i64 0, .int .i64 0, .int .i64 0]) (ok := fun _ => True) (okp := fun _ => True) ?hr ?hp (fun _ hk => hk) trivial (Below.refl _ _) (Nat.le_refl _) (by simp) ?_; (case hd => rfl); (case hg => rfl); (case hr => first | (go_simp; done) | (go_simp; rfl)); (case hp => exact (by refine ⟨rfl, fun j p hj => ?_⟩; match j, hj with | 0, hj => (cases hj; exact ⟨[.int .i64 0], [.int .i64 0, .int .i64 0], rfl, rfl, [.int .i64 0], [.int .i64 0], rfl, rfl, rfl⟩) | n + 1, hj => exact absurd hj (by simp))); intro v13 w13 ho hb hg_ hnew_; clear hg_ hnew_; obtain ⟨A13, c13, e13⟩ : ∃ A c, v13 = .slice A 1 c := Kd.R_slice ho; subst e13; have n0_ := Aside0.mk (Kd.R_lower ho (below_size HB.out)); have n1_ := Aside0.mk (below_step HB.out hb); have m0_ := Aside0.mk (Kd.R_below HQa.out hb); clear HQa; clear HB ho; have HQb := n0_; have HB := n1_; clear n0_ n1_; have HQa := m0_; clear m0_; clear hb) | ((with_reducible refine gate_dst (N := 14) rfl ?_); refine Kd.R_lit (Kd.slice 3 (Kd.int .i64)) _ 25 ?hg (N := 14) ?hd (xs := ([[]] : List (List Int))) (inner := [.slice none 0 0]) (ok := fun _ => True) (okp := fun _ => True) ?hr ?hp (fun _ hk => hk) trivial (Below.refl _ _) (Nat.le_refl _) (by simp) ?_; (case hd => rfl); (case hg => rfl); (case hr => first | (go_simp; done) | (go_simp; rfl)); (case hp => exact (by refine ⟨rfl, fun j p hj => ?_⟩; match j, hj with | 0, hj => (cases hj; exact ⟨_, rfl, Kd.R_nil _ _ _ _ _⟩) | n + 1, hj => exact absurd hj (by simp))); intro v14 w14 ho hb hg_ hnew_; clear hg_ hnew_; obtain ⟨A14, c14, e14⟩ : ∃ A c, v14 = .slice A 1 c := Kd.R_slice ho; subst e14; have n0_ := Aside0.mk (Kd.R_lower ho (below_size HB.out)); have n1_ := Aside0.mk (below_step HB.out hb); have m0_ := Aside0.mk (Kd.R_below HQa.out hb); have m1_ := Aside0.mk (Kd.R_below HQb.out hb); clear HQa HQb; clear HB ho; have HQg := n0_; have HB := n1_; clear n0_ n1_; have HQa := m0_; clear m0_; have HQb := m1_; clear m1_; clear hb) | ((with_reducible refine gate_dst (N := 1) rfl ?_); refine box_event ?hg (N := 1) ?hd (cs := #[.slice none 0 0, .slice none 0 0, .slice none 0 0, .int .i64 0, .slice none 0 0, .slice none 0 0, .slice none 0 0, .slice none 0 0, .int .i64 0]) (t := 29) ?hr ?_; (case hd => rfl); (case hg => rfl); (case hr => first | (go_simp; done) | (go_simp; rfl)); intro g1 hg w1 hbox hb; have n0_ := Aside0.mk (below_step HB.out hb); have n1_ := Aside0.mk (Kd.R_below HQa.out hb); have n2_ := Aside0.mk (Kd.R_below HQb.out hb); have n3_ := Aside0.mk (Kd.R_below HQg.out hb); have n4_ := Aside0.mk (hbox); have n5_ := Aside0.mk ((by rw [hg]; exact below_size HB.out : w.heap.size ≤ g1)); clear HB HQa HQb HQg; have HB := n0_; have HQa := n1_; have HQb := n2_; have HQg := n3_; have BP := n4_; have GP := n5_; clear n0_ n1_ n2_ n3_ n4_ n5_; have hcr0 : w1.cell? ⟨g1, 0, none⟩ = some (.slice none 0 0) := (blk_cell hbox 0).trans rfl; have hfr0 : w1.frozen? ⟨g1, 0, none⟩ = false := blk_frozen hbox 0; have hcr1 : w1.cell? ⟨g1, 1, none⟩ = some (.slice none 0 0) := (blk_cell hbox 1).trans rfl; have hfr1 : w1.frozen? ⟨g1, 1, none⟩ = false := blk_frozen hbox 1; have hcr2 : w1.cell? ⟨g1, 2, none⟩ = some (.slice none 0 0) := (blk_cell hbox 2).trans rfl; have hfr2 : w1.frozen? ⟨g1, 2, none⟩ = false := blk_frozen hbox 2; have hcr3 : w1.cell? ⟨g1, 3, none⟩ = some (.int .i64 0) := (blk_cell hbox 3).trans rfl; have hfr3 : w1.frozen? ⟨g1, 3, none⟩ = false := blk_frozen hbox 3; have hcr4 : w1.cell? ⟨g1, 4, none⟩ = some (.slice none 0 0) := (blk_cell hbox 4).trans rfl; have hfr4 : w1.frozen? ⟨g1, 4, none⟩ = false := blk_frozen hbox 4; have hcr5 : w1.cell? ⟨g1, 5, none⟩ = some (.slice none 0 0) := (blk_cell hbox 5).trans rfl; have hfr5 : w1.frozen? ⟨g1, 5, none⟩ = false := blk_frozen hbox 5; have hcr6 : w1.cell? ⟨g1, 6, none⟩ = some (.slice none 0 0) := (blk_cell hbox 6).trans rfl; have hfr6 : w1.frozen? ⟨g1, 6, none⟩ = false := blk_frozen hbox 6; have hcr7 : w1.cell? ⟨g1, 7, none⟩ = some (.slice none 0 0) := (blk_cell hbox 7).trans rfl; have hfr7 : w1.frozen? ⟨g1, 7, none⟩ = false := blk_frozen hbox 7; have hcr8 : w1.cell? ⟨g1, 8, none⟩ = some (.int .i64 0) := (blk_cell hbox 8).trans rfl; have hfr8 : w1.frozen? ⟨g1, 8, none⟩ = false := blk_frozen hbox 8; clear hg hbox hb))
  have q0_ : QX w.heap.size w1 A11 c11 A13 c13 none 0 none 0 none 0 A14 c14 none 0 p0 := ⟨HQa.out, HQb.out, Kd.R_nil _ _ _ _ _, Kd.R_nil _ _ _ _ _, Kd.R_nil _ _ _ _ _, HQg.out, Kd.R_nil _ _ _ _ _⟩
  have b0_ := blk_put (cs' := #[.slice A11 1 c11, .slice none 0 0, .slice none 0 0, .int .i64 0, .slice none 0 0, .slice none 0 0, .slice none 0 0, .slice none 0 0, .int .i64 0]) BP.out 0 (.slice A11 1 c11) rfl
  have e0_ := below_set (j := 0) (v := .slice A11 1 c11) HB.out GP.out
  have q1_ := QX.set (j := 0) (u := .slice A11 1 c11) q0_ BP.out
  have b1_ := blk_put (cs' := #[.slice A11 1 c11, .slice A13 1 c13, .slice none 0 0, .int .i64 0, .slice none 0 0, .slice none 0 0, .slice none 0 0, .slice none 0 0, .int .i64 0]) b0_ 1 (.slice A13 1 c13) rfl
  have e1_ := below_set (j := 1) (v := .slice A13 1 c13) e0_ GP.out
  have q2_ := QX.set (j := 1) (u := .slice A13 1 c13) q1_ b0_
  have b2_ := blk_put (cs' := #[.slice A11 1 c11, .slice A13 1 c13, .slice none 0 0, .int .i64 0, .slice none 0 0, .slice none 0 0, .slice none 0 0, .slice none 0 0, .int .i64 0]) b1_ 2 (.slice none 0 0) rfl
  have e2_ := below_set (j := 2) (v := .slice none 0 0) e1_ GP.out
  have q3_ := QX.set (j := 2) (u := .slice none 0 0) q2_ b1_
  have b3_ := blk_put (cs' := #[.slice A11 1 c11, .slice A13 1 c13, .slice none 0 0, .int .i64 0, .slice none 0 0, .slice none 0 0, .slice none 0 0, .slice none 0 0, .int .i64 0]) b2_ 3 (.int .i64 0) rfl
  have e3_ := below_set (j := 3) (v := .int .i64 0) e2_ GP.out
  have q4_ := QX.set (j := 3) (u := .int .i64 0) q3_ b2_
  have b4_ := blk_put (cs' := #[.slice A11 1 c11, .slice A13 1 c13, .slice none 0 0, .int .i64 0, .slice none 0 0, .slice none 0 0, .slice none 0 0, .slice none 0 0, .int .i64 0]) b3_ 4 (.slice none 0 0) rfl
  have e4_ := below_set (j := 4) (v := .slice none 0 0) e3_ GP.out
  have q5_ := QX.set (j := 4) (u := .slice none 0 0) q4_ b3_
  have b5_ := blk_put (cs' := #[.slice A11 1 c11, .slice A13 1 c13, .slice none 0 0, .int .i64 0, .slice none 0 0, .slice none 0 0, .slice none 0 0, .slice none 0 0, .int .i64 0]) b4_ 5 (.slice none 0 0) rfl
  have e5_ := below_set (j := 5) (v := .slice none 0 0) e4_ GP.out
  have q6_ := QX.set (j := 5) (u := .slice none 0 0) q5_ b4_
  have b6_ := blk_put (cs' := #[.slice A11 1 c11, .slice A13 1 c13, .slice none 0 0, .int .i64 0, .slice none 0 0, .slice none 0 0, .slice A14 1 c14, .slice none 0 0, .int .i64 0]) b5_ 6 (.slice A14 1 c14) rfl
  have e6_ := below_set (j := 6) (v := .slice A14 1 c14) e5_ GP.out
  have q7_ := QX.set (j := 6) (u := .slice A14 1 c14) q6_ b5_
  have b7_ := blk_put (cs' := #[.slice A11 1 c11, .slice A13 1 c13, .slice none 0 0, .int .i64 0, .slice none 0 0, .slice none 0 0, .slice A14 1 c14, .slice none 0 0, .int .i64 0]) b6_ 7 (.slice none 0 0) rfl
  have e7_ := below_set (j := 7) (v := .slice none 0 0) e6_ GP.out
  have q8_ := QX.set (j := 7) (u := .slice none 0 0) q7_ b6_
  have b8_ := blk_put (cs' := #[.slice A11 1 c11, .slice A13 1 c13, .slice none 0 0, .int .i64 0, .slice none 0 0, .slice none 0 0, .slice A14 1 c14, .slice none 0 0, .int .i64 0]) b7_ 8 (.int .i64 0) rfl
  have e8_ := below_set (j := 8) (v := .int .i64 0) e7_ GP.out
  have q9_ := QX.set (j := 8) (u := .int .i64 0) q8_ b7_
  have n0_ := Aside0.mk q9_.px
  have n1_ := Aside0.mk b8_
  have n2_ := Aside0.mk e8_
  clear b0_ e0_ q1_ b1_ e1_ q2_ b2_ e2_ q3_ b3_ e3_ q4_ b4_ e4_ q5_ b5_ e5_ q6_ b6_ e6_ q7_ b7_ e7_ q8_ b8_ e8_ q9_ q0_ HQa HQb HQg BP HB GP hcr0 hfr0 hcr1 hfr1 hcr2 hfr2 hcr3 hfr3 hcr4 hfr4 hcr5 hfr5 hcr6 hfr6 hcr7 hfr7 hcr8 hfr8
  generalize (((((((((w1.setCell { block := g1, off := 0 } (.slice A11 1 c11)).setCell { block := g1, off := 1 } (.slice A13 1 c13)).setCell { block := g1, off := 2 } (.slice none 0 0)).setCell { block := g1, off := 3 } (.int .i64 0)).setCell { block := g1, off := 4 } (.slice none 0 0)).setCell { block := g1, off := 5 } (.slice none 0 0)).setCell { block := g1, off := 6 } (.slice A14 1 c14)).setCell { block := g1, off := 7 } (.slice none 0 0)).setCell { block := g1, off := 8 } (.int .i64 0)) = W1 at n0_ n1_ n2_ ⊢
  have HP := n0_
  have BP := n1_
  have HB := n2_
  clear n0_ n1_ n2_
  have hcp0 : W1.cell? ⟨g1, 0, none⟩ = some (.slice A11 1 c11) := (blk_cell BP.out 0).trans rfl
  have hcp1 : W1.cell? ⟨g1, 1, none⟩ = some (.slice A13 1 c13) := (blk_cell BP.out 1).trans rfl
  have hcp2 : W1.cell? ⟨g1, 2, none⟩ = some (.slice none 0 0) := (blk_cell BP.out 2).trans rfl
  have hcp3 : W1.cell? ⟨g1, 3, none⟩ = some (.int .i64 0) := (blk_cell BP.out 3).trans rfl
  have hcp4 : W1.cell? ⟨g1, 4, none⟩ = some (.slice none 0 0) := (blk_cell BP.out 4).trans rfl
  have hcp5 : W1.cell? ⟨g1, 5, none⟩ = some (.slice none 0 0) := (blk_cell BP.out 5).trans rfl
  have hcp6 : W1.cell? ⟨g1, 6, none⟩ = some (.slice A14 1 c14) := (blk_cell BP.out 6).trans rfl
  have hcp7 : W1.cell? ⟨g1, 7, none⟩ = some (.slice none 0 0) := (blk_cell BP.out 7).trans rfl
  have hcp8 : W1.cell? ⟨g1, 8, none⟩ = some (.int .i64 0) := (blk_cell BP.out 8).trans rfl
  go_upto_region 4 with (first | (go_at_call 10; (with_reducible refine (enc_p0 HP.out).mono ?_); rintro e w18 ⟨⟨A18, c18, rfl, hk, hc⟩, hb⟩; have n0_ := Aside0.mk (below_step HB.out hb); have n1_ := Aside0.mk (HP.out.below hb); have n2_ := Aside0.mk (blk_below BP.out hb); clear HB HP BP; have HB := n0_; have HP := n1_; have BP := n2_; clear n0_ n1_ n2_; have HE := Aside0.mk hc; have HK := Aside0.mk hk; clear hb hc hk hcp0 hcp1 hcp2 hcp3 hcp4 hcp5 hcp6 hcp7 hcp8) | (go_at_call 14; (with_reducible refine (dec_p0 HE.out HK.out).mono ?_); rintro e w23 ⟨B0, d0, B1, d1, B2, d2, B4, d4, B5, d5, B6, d6, B7, d7, rfl, hq, hb⟩; have n0_ := Aside0.mk (below_step HB.out hb); have n1_ := Aside0.mk (HP.out.below hb); have n2_ := Aside0.mk (blk_below BP.out hb); clear HB HP BP; have HB := n0_; have HP := n1_; have BP := n2_; clear n0_ n1_ n2_; have HQ := Aside0.mk hq; clear hb hq) | ((with_reducible refine gate_dst (N := 4) rfl ?_); refine box_event ?hg (N := 4) ?hd (cs := #[.slice none 0 0, .slice none 0 0, .slice none 0 0, .int .i64 0, .slice none 0 0, .slice none 0 0, .slice none 0 0, .slice none 0 0, .int .i64 0]) (t := 29) ?hr ?_; (case hd => rfl); (case hg => rfl); (case hr => first | (go_simp; done) | (go_simp; rfl)); intro g4 hg w4 hbox hb; have n0_ := Aside0.mk (hb); have n1_ := Aside0.mk (hbox); have n2_ := Aside0.mk ((by rw [hg]; exact Nat.le_refl _ : w23.heap.size ≤ g4)); have HBQ := n0_; have BQ := n1_; have GQ := n2_; clear n0_ n1_ n2_; have hcr0 : w4.cell? ⟨g4, 0, none⟩ = some (.slice none 0 0) := (blk_cell hbox 0).trans rfl; have hfr0 : w4.frozen? ⟨g4, 0, none⟩ = false := blk_frozen hbox 0; have hcr1 : w4.cell? ⟨g4, 1, none⟩ = some (.slice none 0 0) := (blk_cell hbox 1).trans rfl; have hfr1 : w4.frozen? ⟨g4, 1, none⟩ = false := blk_frozen hbox 1; have hcr2 : w4.cell? ⟨g4, 2, none⟩ = some (.slice none 0 0) := (blk_cell hbox 2).trans rfl; have hfr2 : w4.frozen? ⟨g4, 2, none⟩ = false := blk_frozen hbox 2; have hcr3 : w4.cell? ⟨g4, 3, none⟩ = some (.int .i64 0) := (blk_cell hbox 3).trans rfl; have hfr3 : w4.frozen? ⟨g4, 3, none⟩ = false := blk_frozen hbox 3; have hcr4 : w4.cell? ⟨g4, 4, none⟩ = some (.slice none 0 0) := (blk_cell hbox 4).trans rfl; have hfr4 : w4.frozen? ⟨g4, 4, none⟩ = false := blk_frozen hbox 4; have hcr5 : w4.cell? ⟨g4, 5, none⟩ = some (.slice none 0 0) := (blk_cell hbox 5).trans rfl; have hfr5 : w4.frozen? ⟨g4, 5, none⟩ = false := blk_frozen hbox 5; have hcr6 : w4.cell? ⟨g4, 6, none⟩ = some (.slice none 0 0) := (blk_cell hbox 6).trans rfl; have hfr6 : w4.frozen? ⟨g4, 6, none⟩ = false := blk_frozen hbox 6; have hcr7 : w4.cell? ⟨g4, 7, none⟩ = some (.slice none 0 0) := (blk_cell hbox 7).trans rfl; have hfr7 : w4.frozen? ⟨g4, 7, none⟩ = false := blk_frozen hbox 7; have hcr8 : w4.cell? ⟨g4, 8, none⟩ = some (.int .i64 0) := (blk_cell hbox 8).trans rfl; have hfr8 : w4.frozen? ⟨g4, 8, none⟩ = false := blk_frozen hbox 8; clear hg hbox hb))
  have b0_ := blk_put (cs' := #[.slice B0 1 d0, .slice none 0 0, .slice none 0 0, .int .i64 0, .slice none 0 0, .slice none 0 0, .slice none 0 0, .slice none 0 0, .int .i64 0]) BQ.out 0 (.slice B0 1 d0) rfl
  have e0_ := below_set (j := 0) (v := .slice B0 1 d0) HBQ.out GQ.out
  have b1_ := blk_put (cs' := #[.slice B0 1 d0, .slice B1 1 d1, .slice none 0 0, .int .i64 0, .slice none 0 0, .slice none 0 0, .slice none 0 0, .slice none 0 0, .int .i64 0]) b0_ 1 (.slice B1 1 d1) rfl
  have e1_ := below_set (j := 1) (v := .slice B1 1 d1) e0_ GQ.out
  have b2_ := blk_put (cs' := #[.slice B0 1 d0, .slice B1 1 d1, .slice B2 0 d2, .int .i64 0, .slice none 0 0, .slice none 0 0, .slice none 0 0, .slice none 0 0, .int .i64 0]) b1_ 2 (.slice B2 0 d2) rfl
  have e2_ := below_set (j := 2) (v := .slice B2 0 d2) e1_ GQ.out
  have b3_ := blk_put (cs' := #[.slice B0 1 d0, .slice B1 1 d1, .slice B2 0 d2, .int .i64 0, .slice none 0 0, .slice none 0 0, .slice none 0 0, .slice none 0 0, .int .i64 0]) b2_ 3 (.int .i64 0) rfl
  have e3_ := below_set (j := 3) (v := .int .i64 0) e2_ GQ.out
  have b4_ := blk_put (cs' := #[.slice B0 1 d0, .slice B1 1 d1, .slice B2 0 d2, .int .i64 0, .slice B4 0 d4, .slice none 0 0, .slice none 0 0, .slice none 0 0, .int .i64 0]) b3_ 4 (.slice B4 0 d4) rfl
  have e4_ := below_set (j := 4) (v := .slice B4 0 d4) e3_ GQ.out
  have b5_ := blk_put (cs' := #[.slice B0 1 d0, .slice B1 1 d1, .slice B2 0 d2, .int .i64 0, .slice B4 0 d4, .slice B5 0 d5, .slice none 0 0, .slice none 0 0, .int .i64 0]) b4_ 5 (.slice B5 0 d5) rfl
  have e5_ := below_set (j := 5) (v := .slice B5 0 d5) e4_ GQ.out
  have b6_ := blk_put (cs' := #[.slice B0 1 d0, .slice B1 1 d1, .slice B2 0 d2, .int .i64 0, .slice B4 0 d4, .slice B5 0 d5, .slice B6 1 d6, .slice none 0 0, .int .i64 0]) b5_ 6 (.slice B6 1 d6) rfl
  have e6_ := below_set (j := 6) (v := .slice B6 1 d6) e5_ GQ.out
  have b7_ := blk_put (cs' := #[.slice B0 1 d0, .slice B1 1 d1, .slice B2 0 d2, .int .i64 0, .slice B4 0 d4, .slice B5 0 d5, .slice B6 1 d6, .slice B7 0 d7, .int .i64 0]) b6_ 7 (.slice B7 0 d7) rfl
  have e7_ := below_set (j := 7) (v := .slice B7 0 d7) e6_ GQ.out
  have b8_ := blk_put (cs' := #[.slice B0 1 d0, .slice B1 1 d1, .slice B2 0 d2, .int .i64 0, .slice B4 0 d4, .slice B5 0 d5, .slice B6 1 d6, .slice B7 0 d7, .int .i64 0]) b7_ 8 (.int .i64 0) rfl
  have e8_ := below_set (j := 8) (v := .int .i64 0) e7_ GQ.out
  have n0_ := Aside0.mk (HP.out.below e8_)
  have n1_ := Aside0.mk (blk_below BP.out e8_)
  have n2_ := Aside0.mk (below_step HB.out e8_)
  have n3_ := Aside0.mk (HQ.out.below e8_)
  have n4_ := Aside0.mk b8_
  clear b0_ e0_ b1_ e1_ b2_ e2_ b3_ e3_ b4_ e4_ b5_ e5_ b6_ e6_ b7_ e7_ b8_ e8_ HP BP HB HQ HBQ BQ GQ HE HK hcr0 hfr0 hcr1 hfr1 hcr2 hfr2 hcr3 hfr3 hcr4 hfr4 hcr5 hfr5 hcr6 hfr6 hcr7 hfr7 hcr8 hfr8
  generalize (((((((((w4.setCell { block := g4, off := 0 } (.slice B0 1 d0)).setCell { block := g4, off := 1 } (.slice B1 1 d1)).setCell { block := g4, off := 2 } (.slice B2 0 d2)).setCell { block := g4, off := 3 } (.int .i64 0)).setCell { block := g4, off := 4 } (.slice B4 0 d4)).setCell { block := g4, off := 5 } (.slice B5 0 d5)).setCell { block := g4, off := 6 } (.slice B6 1 d6)).setCell { block := g4, off := 7 } (.slice B7 0 d7)).setCell { block := g4, off := 8 } (.int .i64 0)) = W4 at n0_ n1_ n2_ n3_ n4_ ⊢
  have HP := n0_
  have BP := n1_
  have HB := n2_
  have HQ := n3_
  have BQ := n4_
  clear n0_ n1_ n2_ n3_ n4_
  go_upto_region 6 with (first | (go_at_call 10; (with_reducible refine (enc_z _).mono ?_); rintro e w28 ⟨⟨A28, c28, rfl⟩, hb⟩; have n0_ := Aside0.mk (below_step HB.out hb); have n1_ := Aside0.mk (HP.out.below hb); have n2_ := Aside0.mk (blk_below BP.out hb); have n3_ := Aside0.mk (HQ.out.below hb); have n4_ := Aside0.mk (blk_below BQ.out hb); clear HB HP BP HQ BQ; have HB := n0_; have HP := n1_; have BP := n2_; have HQ := n3_; have BQ := n4_; clear n0_ n1_ n2_ n3_ n4_; clear hb) | (go_at_call 14; (with_reducible refine (dec_2 w28).mono ?_); rintro e w34 ⟨D0, f0, D1, f1, D2, f2, D4, f4, D5, f5, D6, f6, D7, f7, rfl, hb⟩; have n0_ := Aside0.mk (below_step HB.out hb); have n1_ := Aside0.mk (HP.out.below hb); have n2_ := Aside0.mk (blk_below BP.out hb); have n3_ := Aside0.mk (HQ.out.below hb); have n4_ := Aside0.mk (blk_below BQ.out hb); clear HB HP BP HQ BQ; have HB := n0_; have HP := n1_; have BP := n2_; have HQ := n3_; have BQ := n4_; clear n0_ n1_ n2_ n3_ n4_; clear hb) | ((with_reducible refine gate_dst (N := 8) rfl ?_); refine box_event ?hg (N := 8) ?hd (cs := #[.slice none 0 0, .slice none 0 0, .slice none 0 0, .int .i64 0, .slice none 0 0, .slice none 0 0, .slice none 0 0, .slice none 0 0, .int .i64 0]) (t := 29) ?hr ?_; (case hd => rfl); (case hg => rfl); (case hr => first | (go_simp; done) | (go_simp; rfl)); intro g8 hg w8 hbox hb; have n0_ := Aside0.mk (hb); have n1_ := Aside0.mk (hbox); have n2_ := Aside0.mk ((by rw [hg]; exact Nat.le_refl _ : w34.heap.size ≤ g8)); have HBQ := n0_; have BR := n1_; have GQ := n2_; clear n0_ n1_ n2_; have hcr0 : w8.cell? ⟨g8, 0, none⟩ = some (.slice none 0 0) := (blk_cell hbox 0).trans rfl; have hfr0 : w8.frozen? ⟨g8, 0, none⟩ = false := blk_frozen hbox 0; have hcr1 : w8.cell? ⟨g8, 1, none⟩ = some (.slice none 0 0) := (blk_cell hbox 1).trans rfl; have hfr1 : w8.frozen? ⟨g8, 1, none⟩ = false := blk_frozen hbox 1; have hcr2 : w8.cell? ⟨g8, 2, none⟩ = some (.slice none 0 0) := (blk_cell hbox 2).trans rfl; have hfr2 : w8.frozen? ⟨g8, 2, none⟩ = false := blk_frozen hbox 2; have hcr3 : w8.cell? ⟨g8, 3, none⟩ = some (.int .i64 0) := (blk_cell hbox 3).trans rfl; have hfr3 : w8.frozen? ⟨g8, 3, none⟩ = false := blk_frozen hbox 3; have hcr4 : w8.cell? ⟨g8, 4, none⟩ = some (.slice none 0 0) := (blk_cell hbox 4).trans rfl; have hfr4 : w8.frozen? ⟨g8, 4, none⟩ = false := blk_frozen hbox 4; have hcr5 : w8.cell? ⟨g8, 5, none⟩ = some (.slice none 0 0) := (blk_cell hbox 5).trans rfl; have hfr5 : w8.frozen? ⟨g8, 5, none⟩ = false := blk_frozen hbox 5; have hcr6 : w8.cell? ⟨g8, 6, none⟩ = some (.slice none 0 0) := (blk_cell hbox 6).trans rfl; have hfr6 : w8.frozen? ⟨g8, 6, none⟩ = false := blk_frozen hbox 6; have hcr7 : w8.cell? ⟨g8, 7, none⟩ = some (.slice none 0 0) := (blk_cell hbox 7).trans rfl; have hfr7 : w8.frozen? ⟨g8, 7, none⟩ = false := blk_frozen hbox 7; have hcr8 : w8.cell? ⟨g8, 8, none⟩ = some (.int .i64 0) := (blk_cell hbox 8).trans rfl; have hfr8 : w8.frozen? ⟨g8, 8, none⟩ = false := blk_frozen hbox 8; clear hg hbox hb))
  have b0_ := blk_put (cs' := #[.slice D0 0 f0, .slice none 0 0, .slice none 0 0, .int .i64 0, .slice none 0 0, .slice none 0 0, .slice none 0 0, .slice none 0 0, .int .i64 0]) BR.out 0 (.slice D0 0 f0) rfl
  have e0_ := below_set (j := 0) (v := .slice D0 0 f0) HBQ.out GQ.out
  have b1_ := blk_put (cs' := #[.slice D0 0 f0, .slice D1 0 f1, .slice none 0 0, .int .i64 0, .slice none 0 0, .slice none 0 0, .slice none 0 0, .slice none 0 0, .int .i64 0]) b0_ 1 (.slice D1 0 f1) rfl
  have e1_ := below_set (j := 1) (v := .slice D1 0 f1) e0_ GQ.out
  have b2_ := blk_put (cs' := #[.slice D0 0 f0, .slice D1 0 f1, .slice D2 0 f2, .int .i64 0, .slice none 0 0, .slice none 0 0, .slice none 0 0, .slice none 0 0, .int .i64 0]) b1_ 2 (.slice D2 0 f2) rfl
  have e2_ := below_set (j := 2) (v := .slice D2 0 f2) e1_ GQ.out
  have b3_ := blk_put (cs' := #[.slice D0 0 f0, .slice D1 0 f1, .slice D2 0 f2, .int .i64 0, .slice none 0 0, .slice none 0 0, .slice none 0 0, .slice none 0 0, .int .i64 0]) b2_ 3 (.int .i64 0) rfl
  have e3_ := below_set (j := 3) (v := .int .i64 0) e2_ GQ.out
  have b4_ := blk_put (cs' := #[.slice D0 0 f0, .slice D1 0 f1, .slice D2 0 f2, .int .i64 0, .slice D4 0 f4, .slice none 0 0, .slice none 0 0, .slice none 0 0, .int .i64 0]) b3_ 4 (.slice D4 0 f4) rfl
  have e4_ := below_set (j := 4) (v := .slice D4 0 f4) e3_ GQ.out
  have b5_ := blk_put (cs' := #[.slice D0 0 f0, .slice D1 0 f1, .slice D2 0 f2, .int .i64 0, .slice D4 0 f4, .slice D5 0 f5, .slice none 0 0, .slice none 0 0, .int .i64 0]) b4_ 5 (.slice D5 0 f5) rfl
  have e5_ := below_set (j := 5) (v := .slice D5 0 f5) e4_ GQ.out
  have b6_ := blk_put (cs' := #[.slice D0 0 f0, .slice D1 0 f1, .slice D2 0 f2, .int .i64 0, .slice D4 0 f4, .slice D5 0 f5, .slice D6 0 f6, .slice none 0 0, .int .i64 0]) b5_ 6 (.slice D6 0 f6) rfl
  have e6_ := below_set (j := 6) (v := .slice D6 0 f6) e5_ GQ.out
  have b7_ := blk_put (cs' := #[.slice D0 0 f0, .slice D1 0 f1, .slice D2 0 f2, .int .i64 0, .slice D4 0 f4, .slice D5 0 f5, .slice D6 0 f6, .slice D7 0 f7, .int .i64 0]) b6_ 7 (.slice D7 0 f7) rfl
  have e7_ := below_set (j := 7) (v := .slice D7 0 f7) e6_ GQ.out
  have b8_ := blk_put (cs' := #[.slice D0 0 f0, .slice D1 0 f1, .slice D2 0 f2, .int .i64 0, .slice D4 0 f4, .slice D5 0 f5, .slice D6 0 f6, .slice D7 0 f7, .int .i64 0]) b7_ 8 (.int .i64 0) rfl
  have e8_ := below_set (j := 8) (v := .int .i64 0) e7_ GQ.out
  have n0_ := Aside0.mk (HP.out.below e8_)
  have n1_ := Aside0.mk (blk_below BP.out e8_)
  have n2_ := Aside0.mk (below_step HB.out e8_)
  have n3_ := Aside0.mk (HQ.out.below e8_)
  have n4_ := Aside0.mk (blk_below BQ.out e8_)
  clear b0_ e0_ b1_ e1_ b2_ e2_ b3_ e3_ b4_ e4_ b5_ e5_ b6_ e6_ b7_ e7_ b8_ e8_ HP BP HB HQ HBQ BQ GQ BR hcr0 hfr0 hcr1 hfr1 hcr2 hfr2 hcr3 hfr3 hcr4 hfr4 hcr5 hfr5 hcr6 hfr6 hcr7 hfr7 hcr8 hfr8
  generalize (((((((((w8.setCell { block := g8, off := 0 } (.slice D0 0 f0)).setCell { block := g8, off := 1 } (.slice D1 0 f1)).setCell { block := g8, off := 2 } (.slice D2 0 f2)).setCell { block := g8, off := 3 } (.int .i64 0)).setCell { block := g8, off := 4 } (.slice D4 0 f4)).setCell { block := g8, off := 5 } (.slice D5 0 f5)).setCell { block := g8, off := 6 } (.slice D6 0 f6)).setCell { block := g8, off := 7 } (.slice D7 0 f7)).setCell { block := g8, off := 8 } (.int .i64 0)) = W8 at n0_ n1_ n2_ n3_ n4_ ⊢
  have HP := n0_
  have BP := n1_
  have HB := n2_
  have HQ := n3_
  have BQ := n4_
  clear n0_ n1_ n2_ n3_ n4_
  have hcp0 : W8.cell? ⟨g1, 0, none⟩ = some (.slice A11 1 c11) := (blk_cell BP.out 0).trans rfl
  have hcp1 : W8.cell? ⟨g1, 1, none⟩ = some (.slice A13 1 c13) := (blk_cell BP.out 1).trans rfl
  have hcp2 : W8.cell? ⟨g1, 2, none⟩ = some (.slice none 0 0) := (blk_cell BP.out 2).trans rfl
  have hcp3 : W8.cell? ⟨g1, 3, none⟩ = some (.int .i64 0) := (blk_cell BP.out 3).trans rfl
  have hcp4 : W8.cell? ⟨g1, 4, none⟩ = some (.slice none 0 0) := (blk_cell BP.out 4).trans rfl
  have hcp5 : W8.cell? ⟨g1, 5, none⟩ = some (.slice none 0 0) := (blk_cell BP.out 5).trans rfl
  have hcp6 : W8.cell? ⟨g1, 6, none⟩ = some (.slice A14 1 c14) := (blk_cell BP.out 6).trans rfl
  have hcp7 : W8.cell? ⟨g1, 7, none⟩ = some (.slice none 0 0) := (blk_cell BP.out 7).trans rfl
  have hcp8 : W8.cell? ⟨g1, 8, none⟩ = some (.int .i64 0) := (blk_cell BP.out 8).trans rfl
  have hcq0 : W8.cell? ⟨g4, 0, none⟩ = some (.slice B0 1 d0) := (blk_cell BQ.out 0).trans rfl
  have hcq1 : W8.cell? ⟨g4, 1, none⟩ = some (.slice B1 1 d1) := (blk_cell BQ.out 1).trans rfl
  have hcq2 : W8.cell? ⟨g4, 2, none⟩ = some (.slice B2 0 d2) := (blk_cell BQ.out 2).trans rfl
  have hcq3 : W8.cell? ⟨g4, 3, none⟩ = some (.int .i64 0) := (blk_cell BQ.out 3).trans rfl
  have hcq4 : W8.cell? ⟨g4, 4, none⟩ = some (.slice B4 0 d4) := (blk_cell BQ.out 4).trans rfl
  have hcq5 : W8.cell? ⟨g4, 5, none⟩ = some (.slice B5 0 d5) := (blk_cell BQ.out 5).trans rfl
  have hcq6 : W8.cell? ⟨g4, 6, none⟩ = some (.slice B6 1 d6) := (blk_cell BQ.out 6).trans rfl
  have hcq7 : W8.cell? ⟨g4, 7, none⟩ = some (.slice B7 0 d7) := (blk_cell BQ.out 7).trans rfl
  have hcq8 : W8.cell? ⟨g4, 8, none⟩ = some (.int .i64 0) := (blk_cell BQ.out 8).trans rfl
  go_wp2_with (first | (go_at_call 12; (with_reducible refine (may_p0 HP.out).mono ?_); rintro e wm1 ⟨rfl, hb⟩; have n0_ := Aside0.mk (below_step HB.out hb); have n1_ := Aside0.mk (HP.out.below hb); have n2_ := Aside0.mk (blk_below BP.out hb); have n3_ := Aside0.mk (HQ.out.below hb); have n4_ := Aside0.mk (blk_below BQ.out hb); clear HB HP BP HQ BQ; have HB := n0_; have HP := n1_; have BP := n2_; have HQ := n3_; have BQ := n4_; clear n0_ n1_ n2_ n3_ n4_; clear hb; have hcp0 : wm1.cell? ⟨g1, 0, none⟩ = some (.slice A11 1 c11) := (blk_cell BP.out 0).trans rfl; have hcp1 : wm1.cell? ⟨g1, 1, none⟩ = some (.slice A13 1 c13) := (blk_cell BP.out 1).trans rfl; have hcp2 : wm1.cell? ⟨g1, 2, none⟩ = some (.slice none 0 0) := (blk_cell BP.out 2).trans rfl; have hcp3 : wm1.cell? ⟨g1, 3, none⟩ = some (.int .i64 0) := (blk_cell BP.out 3).trans rfl; have hcp4 : wm1.cell? ⟨g1, 4, none⟩ = some (.slice none 0 0) := (blk_cell BP.out 4).trans rfl; have hcp5 : wm1.cell? ⟨g1, 5, none⟩ = some (.slice none 0 0) := (blk_cell BP.out 5).trans rfl; have hcp6 : wm1.cell? ⟨g1, 6, none⟩ = some (.slice A14 1 c14) := (blk_cell BP.out 6).trans rfl; have hcp7 : wm1.cell? ⟨g1, 7, none⟩ = some (.slice none 0 0) := (blk_cell BP.out 7).trans rfl; have hcp8 : wm1.cell? ⟨g1, 8, none⟩ = some (.int .i64 0) := (blk_cell BP.out 8).trans rfl; have hcq0 : wm1.cell? ⟨g4, 0, none⟩ = some (.slice B0 1 d0) := (blk_cell BQ.out 0).trans rfl; have hcq1 : wm1.cell? ⟨g4, 1, none⟩ = some (.slice B1 1 d1) := (blk_cell BQ.out 1).trans rfl; have hcq2 : wm1.cell? ⟨g4, 2, none⟩ = some (.slice B2 0 d2) := (blk_cell BQ.out 2).trans rfl; have hcq3 : wm1.cell? ⟨g4, 3, none⟩ = some (.int .i64 0) := (blk_cell BQ.out 3).trans rfl; have hcq4 : wm1.cell? ⟨g4, 4, none⟩ = some (.slice B4 0 d4) := (blk_cell BQ.out 4).trans rfl; have hcq5 : wm1.cell? ⟨g4, 5, none⟩ = some (.slice B5 0 d5) := (blk_cell BQ.out 5).trans rfl; have hcq6 : wm1.cell? ⟨g4, 6, none⟩ = some (.slice B6 1 d6) := (blk_cell BQ.out 6).trans rfl; have hcq7 : wm1.cell? ⟨g4, 7, none⟩ = some (.slice B7 0 d7) := (blk_cell BQ.out 7).trans rfl; have hcq8 : wm1.cell? ⟨g4, 8, none⟩ = some (.int .i64 0) := (blk_cell BQ.out 8).trans rfl) | (go_at_call 12; (with_reducible refine (may_z _).mono ?_); rintro e wm2 ⟨rfl, hb⟩; have n0_ := Aside0.mk (below_step HB.out hb); have n1_ := Aside0.mk (HP.out.below hb); have n2_ := Aside0.mk (blk_below BP.out hb); have n3_ := Aside0.mk (HQ.out.below hb); have n4_ := Aside0.mk (blk_below BQ.out hb); clear HB HP BP HQ BQ; have HB := n0_; have HP := n1_; have BP := n2_; have HQ := n3_; have BQ := n4_; clear n0_ n1_ n2_ n3_ n4_; clear hb; have hcp0 : wm2.cell? ⟨g1, 0, none⟩ = some (.slice A11 1 c11) := (blk_cell BP.out 0).trans rfl; have hcp1 : wm2.cell? ⟨g1, 1, none⟩ = some (.slice A13 1 c13) := (blk_cell BP.out 1).trans rfl; have hcp2 : wm2.cell? ⟨g1, 2, none⟩ = some (.slice none 0 0) := (blk_cell BP.out 2).trans rfl; have hcp3 : wm2.cell? ⟨g1, 3, none⟩ = some (.int .i64 0) := (blk_cell BP.out 3).trans rfl; have hcp4 : wm2.cell? ⟨g1, 4, none⟩ = some (.slice none 0 0) := (blk_cell BP.out 4).trans rfl; have hcp5 : wm2.cell? ⟨g1, 5, none⟩ = some (.slice none 0 0) := (blk_cell BP.out 5).trans rfl; have hcp6 : wm2.cell? ⟨g1, 6, none⟩ = some (.slice A14 1 c14) := (blk_cell BP.out 6).trans rfl; have hcp7 : wm2.cell? ⟨g1, 7, none⟩ = some (.slice none 0 0) := (blk_cell BP.out 7).trans rfl; have hcp8 : wm2.cell? ⟨g1, 8, none⟩ = some (.int .i64 0) := (blk_cell BP.out 8).trans rfl; have hcq0 : wm2.cell? ⟨g4, 0, none⟩ = some (.slice B0 1 d0) := (blk_cell BQ.out 0).trans rfl; have hcq1 : wm2.cell? ⟨g4, 1, none⟩ = some (.slice B1 1 d1) := (blk_cell BQ.out 1).trans rfl; have hcq2 : wm2.cell? ⟨g4, 2, none⟩ = some (.slice B2 0 d2) := (blk_cell BQ.out 2).trans rfl; have hcq3 : wm2.cell? ⟨g4, 3, none⟩ = some (.int .i64 0) := (blk_cell BQ.out 3).trans rfl; have hcq4 : wm2.cell? ⟨g4, 4, none⟩ = some (.slice B4 0 d4) := (blk_cell BQ.out 4).trans rfl; have hcq5 : wm2.cell? ⟨g4, 5, none⟩ = some (.slice B5 0 d5) := (blk_cell BQ.out 5).trans rfl; have hcq6 : wm2.cell? ⟨g4, 6, none⟩ = some (.slice B6 1 d6) := (blk_cell BQ.out 6).trans rfl; have hcq7 : wm2.cell? ⟨g4, 7, none⟩ = some (.slice B7 0 d7) := (blk_cell BQ.out 7).trans rfl; have hcq8 : wm2.cell? ⟨g4, 8, none⟩ = some (.int .i64 0) := (blk_cell BQ.out 8).trans rfl) | (go_at_call 16; (with_reducible refine (same_p0 HP.out HQ.out).mono ?_); rintro e ws1 ⟨rfl, hb⟩; have n0_ := Aside0.mk (below_step HB.out hb); have n1_ := Aside0.mk (HP.out.below hb); have n2_ := Aside0.mk (blk_below BP.out hb); have n3_ := Aside0.mk (HQ.out.below hb); have n4_ := Aside0.mk (blk_below BQ.out hb); clear HB HP BP HQ BQ; have HB := n0_; have HP := n1_; have BP := n2_; have HQ := n3_; have BQ := n4_; clear n0_ n1_ n2_ n3_ n4_; clear hb; have hcp0 : ws1.cell? ⟨g1, 0, none⟩ = some (.slice A11 1 c11) := (blk_cell BP.out 0).trans rfl; have hcp1 : ws1.cell? ⟨g1, 1, none⟩ = some (.slice A13 1 c13) := (blk_cell BP.out 1).trans rfl; have hcp2 : ws1.cell? ⟨g1, 2, none⟩ = some (.slice none 0 0) := (blk_cell BP.out 2).trans rfl; have hcp3 : ws1.cell? ⟨g1, 3, none⟩ = some (.int .i64 0) := (blk_cell BP.out 3).trans rfl; have hcp4 : ws1.cell? ⟨g1, 4, none⟩ = some (.slice none 0 0) := (blk_cell BP.out 4).trans rfl; have hcp5 : ws1.cell? ⟨g1, 5, none⟩ = some (.slice none 0 0) := (blk_cell BP.out 5).trans rfl; have hcp6 : ws1.cell? ⟨g1, 6, none⟩ = some (.slice A14 1 c14) := (blk_cell BP.out 6).trans rfl; have hcp7 : ws1.cell? ⟨g1, 7, none⟩ = some (.slice none 0 0) := (blk_cell BP.out 7).trans rfl; have hcp8 : ws1.cell? ⟨g1, 8, none⟩ = some (.int .i64 0) := (blk_cell BP.out 8).trans rfl) | (go_at_call 16; (with_reducible refine (same_z HP.out).mono ?_); rintro e ws2 ⟨rfl, hb⟩; have n0_ := Aside0.mk (below_step HB.out hb); have n1_ := Aside0.mk (HP.out.below hb); have n2_ := Aside0.mk (blk_below BP.out hb); have n3_ := Aside0.mk (HQ.out.below hb); have n4_ := Aside0.mk (blk_below BQ.out hb); clear HB HP BP HQ BQ; have HB := n0_; have HP := n1_; have BP := n2_; have HQ := n3_; have BQ := n4_; clear n0_ n1_ n2_ n3_ n4_; clear hb))
  go_ret
  exact ⟨rfl, HB.out⟩

end Go.Proofs.Ytdgaklldijkoaaa.PCode
