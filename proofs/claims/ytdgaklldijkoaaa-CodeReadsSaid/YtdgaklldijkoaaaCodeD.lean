import Derived.Test.YtdgaklldijkoaaaPCodex0
import Derived.Test.YtdgaklldijkoaaaCodeB
import Derived.Test.YtdgaklldijkoaaaCodeC
import Derived.BigQuiet
import Derived.IntWalk
import Derived.WalkMore
import Derived.Laws.EntriesVeiled
import Derived.StillTailTactics
namespace Go.Proofs.Ytdgaklldijkoaaa.PCode
open Go.RowKit Go.Proofs.YtdgaklldijkoaaaW.PrintWords Go.Proofs.YtdgaklldijkoaaaW.PrintLast Go.Proofs.YtdgaklldijkoaaaW.PrintMore
attribute [local go_sem] max2_int min2_int max_two min_two max_three min_three max_four min_four
set_option linter.unusedVariables false
set_option linter.unusedSimpArgs false
def encB (p : Pg) : List Int := [83, 66] ++ layB (p.a.map toL44) ++ layB (p.b.map toL46) ++ layB (p.c.map toL56) ++ num8 p.d ++ layB (p.e.map (fun x => [x])) ++ layB (p.f.map (fun x => [x])) ++ layB p.g ++ layB (p.h.map toL65) ++ num8 p.i
theorem layB_len (m : Nat) (l : List (List Int)) (h : ∀ x ∈ l, x.length ≤ m) : (layB l).length ≤ 2 + 8 * m * l.length := by
  have := rowsB_len m l h
  unfold layB
  rw [List.length_append, le_len]; omega
theorem map_le {α : Type} (f : α → List Int) (m : Nat) (h : ∀ x, (f x).length = m) (l : List α) : ∀ x ∈ l.map f, x.length ≤ m := by
  intro x hx
  obtain ⟨y, _, rfl⟩ := List.mem_map.1 hx
  exact Nat.le_of_eq (h y)
structure Pg.Ok (p : Pg) : Prop where
  a : p.a.length ≤ 5000
  b1 : 1 ≤ p.b.length
  b : p.b.length ≤ 13
  c : p.c.length ≤ 16
  e : p.e.length ≤ 8
  f : p.f.length ≤ 6
  g : p.g.length ≤ 1000
  h : p.h.length ≤ 1000
  v : ∀ x ∈ p.g, x.length = p.f.length
theorem Pg.may_ok {p : Pg} : p.may = true ↔ p.Ok := by
  unfold Pg.may oddB
  simp only [Bool.and_eq_true, decide_eq_true_eq, Bool.not_eq_true', List.any_eq_false, ne_eq, decide_not, Bool.not_eq_true, Bool.not_eq_false']
  constructor
  · rintro ⟨⟨⟨⟨⟨⟨⟨⟨a, b1⟩, b⟩, c⟩, e⟩, f⟩, g⟩, h⟩, v⟩
    exact ⟨a, b1, b, c, e, f, g, h, fun x hx => by simpa using v x hx⟩
  · rintro ⟨a, b1, b, c, e, f, g, h, v⟩
    exact ⟨⟨⟨⟨⟨⟨⟨⟨a, b1⟩, b⟩, c⟩, e⟩, f⟩, g⟩, h⟩, fun x hx => by simpa using v x hx⟩
theorem PX.pr {w : World} {A0 A1 A2 A4 A5 A6 A7 : Option Addr} {c0 c1 c2 c4 c5 c6 c7 : Nat} {p : Pg} (h : PX w A0 c0 A1 c1 A2 c2 A4 c4 A5 c5 A6 c6 A7 c7 p) : PR w (.agg (pv A0 c0 A1 c1 A2 c2 A4 c4 A5 c5 A6 c6 A7 c7 p)) p := ⟨A0, c0, A1, c1, A2, c2, A4, c4, A5, c5, A6, c6, A7, c7, rfl, h⟩
theorem may_t {w : World} {v : Value} {p : Pg} {t : Bool} (ht : p.may = t) (h : PR w v p) : Calls Try.prog 12 #[v] w fun e w' => e = .returned (.bool t) ∧ Below w.heap.size w w' := by
  subst ht
  exact may_any h
def encP (p : Pg) : List Int × Int := if p.may = true then (encB p, 0) else ([], 1)
set_option maxHeartbeats 8000000 in
set_option maxRecDepth 100000 in
theorem encode_no {w : World} {v : Value} {p : Pg} (h : PR w v p) (hm : p.may = false) : Calls Try.prog 10 #[v] w fun e w' => e = .returned (.tuple #[.slice none 0 0, .int .i64 1]) ∧ Below w.heap.size w w' := by
  obtain ⟨A0, c0, A1, c1, A2, c2, A4, c4, A5, c5, A6, c6, A7, c7, rfl, hx⟩ := h
  have HX := Aside0.mk hx
  have HB := Aside0.mk (Below.refl w.heap.size w)
  have HM := Aside0.mk hm
  clear hx hm
  go_enter Try.func10, Try.ntmps10
  go_wp2_with (first | ((with_reducible refine gate_dst (N := 1) rfl ?_); refine box_event ?hg (N := 1) ?hd (cs := (pv A0 c0 A1 c1 A2 c2 A4 c4 A5 c5 A6 c6 A7 c7 p)) (t := 29) ?hr ?_; (case hd => rfl); (case hg => rfl); (case hr => first | (go_simp; done) | (go_simp; rfl)); intro g1 hg w1 hbox hb; have n0_ := Aside0.mk (below_step HB.out hb); have n1_ := Aside0.mk (hbox); clear HB; have HB := n0_; have BP := n1_; clear n0_ n1_; have hcp0 : w1.cell? ⟨g1, 0, none⟩ = some (.slice A0 p.a.length c0) := (blk_cell hbox 0).trans rfl; have hcp1 : w1.cell? ⟨g1, 1, none⟩ = some (.slice A1 p.b.length c1) := (blk_cell hbox 1).trans rfl; have hcp2 : w1.cell? ⟨g1, 2, none⟩ = some (.slice A2 p.c.length c2) := (blk_cell hbox 2).trans rfl; have hcp3 : w1.cell? ⟨g1, 3, none⟩ = some (.int .i64 p.d) := (blk_cell hbox 3).trans rfl; have hcp4 : w1.cell? ⟨g1, 4, none⟩ = some (.slice A4 p.e.length c4) := (blk_cell hbox 4).trans rfl; have hcp5 : w1.cell? ⟨g1, 5, none⟩ = some (.slice A5 p.f.length c5) := (blk_cell hbox 5).trans rfl; have hcp6 : w1.cell? ⟨g1, 6, none⟩ = some (.slice A6 p.g.length c6) := (blk_cell hbox 6).trans rfl; have hcp7 : w1.cell? ⟨g1, 7, none⟩ = some (.slice A7 p.h.length c7) := (blk_cell hbox 7).trans rfl; have hcp8 : w1.cell? ⟨g1, 8, none⟩ = some (.int .i64 p.i) := (blk_cell hbox 8).trans rfl; clear hg hbox hb) | (go_at_call 12; (with_reducible refine (may_t HM.out (HX.out.below HB.out).pr).mono ?_); rintro e w6 ⟨rfl, hb⟩; have n0_ := Aside0.mk (below_step HB.out hb); have n1_ := Aside0.mk (blk_below BP.out hb); clear HB BP hb; have HB := n0_; have BP := n1_; clear n0_ n1_))
  go_ret2
  exact ⟨rfl, HB.out⟩
set_option maxHeartbeats 16000000 in
set_option maxRecDepth 100000 in
theorem encode_yes {w : World} {v : Value} {p : Pg} (h : PR w v p) (hm : p.may = true) : Calls Try.prog 10 #[v] w fun e w' => (∃ A c, e = .returned (.tuple #[.slice A (encB p).length c, .int .i64 0]) ∧ Kd.R (Kd.int .u8) 5 w' w.heap.size (fun _ => True) (.slice A (encB p).length c) (encB p)) ∧ Below w.heap.size w w' := by
  obtain ⟨A0, c0, A1, c1, A2, c2, A4, c4, A5, c5, A6, c6, A7, c7, rfl, hx⟩ := h
  have HX := Aside0.mk hx
  have HB := Aside0.mk (Below.refl w.heap.size w)
  have HM := Aside0.mk hm
  have ho := Pg.may_ok.1 hm
  obtain ⟨b0, e0⟩ : ∃ b : List Int, b = [83, 66] := ⟨_, rfl⟩
  have l0 : b0.length = 2 := by rw [e0]; rfl
  obtain ⟨b1, e1⟩ : ∃ b : List Int, b = b0 ++ layB (p.a.map toL44) := ⟨_, rfl⟩
  have l1 : b1.length ≤ 120004 := by
    have h1 := layB_len 3 _ (map_le toL44 3 (fun _ => rfl) p.a)
    have h2 := ho.a
    rw [e1, List.length_append]
    rw [List.length_map] at h1
    omega
  obtain ⟨b2, e2⟩ : ∃ b : List Int, b = b1 ++ layB (p.b.map toL46) := ⟨_, rfl⟩
  have l2 : b2.length ≤ 120318 := by
    have h1 := layB_len 3 _ (map_le toL46 3 (fun _ => rfl) p.b)
    have h2 := ho.b
    rw [e2, List.length_append]
    rw [List.length_map] at h1
    omega
  obtain ⟨b3, e3⟩ : ∃ b : List Int, b = b2 ++ layB (p.c.map toL56) := ⟨_, rfl⟩
  have l3 : b3.length ≤ 120576 := by
    have h1 := layB_len 2 _ (map_le toL56 2 (fun _ => rfl) p.c)
    have h2 := ho.c
    rw [e3, List.length_append]
    rw [List.length_map] at h1
    omega
  obtain ⟨b4, e4⟩ : ∃ b : List Int, b = b3 ++ num8 p.d := ⟨_, rfl⟩
  have l4 : b4.length ≤ 120584 := by rw [e4, List.length_append, num8_len]; omega
  obtain ⟨b5, e5⟩ : ∃ b : List Int, b = b4 ++ layB (p.e.map (fun x => [x])) := ⟨_, rfl⟩
  have l5 : b5.length ≤ 120650 := by
    have h1 := layB_len 1 _ (map_le (fun x : Int => [x]) 1 (fun _ => rfl) p.e)
    have h2 := ho.e
    rw [e5, List.length_append]
    rw [List.length_map] at h1
    omega
  obtain ⟨b6, e6⟩ : ∃ b : List Int, b = b5 ++ layB (p.f.map (fun x => [x])) := ⟨_, rfl⟩
  have l6 : b6.length ≤ 120700 := by
    have h1 := layB_len 1 _ (map_le (fun x : Int => [x]) 1 (fun _ => rfl) p.f)
    have h2 := ho.f
    rw [e6, List.length_append]
    rw [List.length_map] at h1
    omega
  obtain ⟨b7, e7⟩ : ∃ b : List Int, b = b6 ++ layB p.g := ⟨_, rfl⟩
  have l7 : b7.length ≤ 168702 := by
    have h1 := layB_len 6 _ (show ∀ x ∈ p.g, x.length ≤ 6 from fun x hx => by rw [ho.v x hx]; exact ho.f)
    have h2 := ho.g
    rw [e7, List.length_append]
    omega
  obtain ⟨b8, e8⟩ : ∃ b : List Int, b = b7 ++ layB (p.h.map toL65) := ⟨_, rfl⟩
  have l8 : b8.length ≤ 184704 := by
    have h1 := layB_len 2 _ (map_le toL65 2 (fun _ => rfl) p.h)
    have h2 := ho.h
    rw [e8, List.length_append]
    rw [List.length_map] at h1
    omega
  obtain ⟨b9, e9⟩ : ∃ b : List Int, b = b8 ++ num8 p.i := ⟨_, rfl⟩
  have l9 : b9.length ≤ 184712 := by rw [e9, List.length_append, num8_len]; omega
  have EE : Aside0 (b9 = encB p) := ⟨by rw [e9, e8, e7, e6, e5, e4, e3, e2, e1, e0]; rfl⟩
  have E1 := Aside0.mk e1
  have E2 := Aside0.mk e2
  have E3 := Aside0.mk e3
  have E4 := Aside0.mk e4
  have E5 := Aside0.mk e5
  have E6 := Aside0.mk e6
  have E7 := Aside0.mk e7
  have E8 := Aside0.mk e8
  have E9 := Aside0.mk e9
  have L0 : Aside0 (b0.length ≤ 500000000) := ⟨by omega⟩
  have L1 : Aside0 (b1.length ≤ 500000000) := ⟨by omega⟩
  have L2 : Aside0 (b2.length ≤ 500000000) := ⟨by omega⟩
  have L3 : Aside0 (b3.length ≤ 500000000) := ⟨by omega⟩
  have L4 : Aside0 (b4.length ≤ 500000000) := ⟨by omega⟩
  have L5 : Aside0 (b5.length ≤ 500000000) := ⟨by omega⟩
  have L6 : Aside0 (b6.length ≤ 500000000) := ⟨by omega⟩
  have L7 : Aside0 (b7.length ≤ 500000000) := ⟨by omega⟩
  have L8 : Aside0 (b8.length ≤ 500000000) := ⟨by omega⟩
  have LN : Aside0 (p.a.length ≤ 60000 ∧ p.b.length ≤ 60000 ∧ p.c.length ≤ 60000 ∧ p.e.length ≤ 60000 ∧ p.f.length ≤ 60000 ∧ p.g.length ≤ 60000 ∧ p.h.length ≤ 60000) := ⟨by have := ho.a; have := ho.b; have := ho.c; have := ho.e; have := ho.f; have := ho.g; have := ho.h; omega⟩
  have LV : Aside0 (∀ x ∈ p.g, x.length ≤ 6) := ⟨fun x hx => by rw [ho.v x hx]; exact ho.f⟩
  have E0 := Aside0.mk e0
  have LD : Aside0 (b3.length + 8 * [p.d].length ≤ 1000000000) := ⟨by simp; omega⟩
  have LI : Aside0 (b8.length + 8 * [p.i].length ≤ 1000000000) := ⟨by simp; omega⟩
  clear hx hm ho e0 l0 e1 l1 e2 l2 e3 l3 e4 l4 e5 l5 e6 l6 e7 l7 e8 l8 e9 l9
  go_enter Try.func10, Try.ntmps10
  go_wp2_with (first | ((with_reducible refine gate_dst (N := 1) rfl ?_); refine box_event ?hg (N := 1) ?hd (cs := (pv A0 c0 A1 c1 A2 c2 A4 c4 A5 c5 A6 c6 A7 c7 p)) (t := 29) ?hr ?_; (case hd => rfl); (case hg => rfl); (case hr => first | (go_simp; done) | (go_simp; rfl)); intro g1 hg w1 hbox hb; have n0_ := Aside0.mk (below_step HB.out hb); have n1_ := Aside0.mk (hbox); clear HB; have HB := n0_; have BP := n1_; clear n0_ n1_; have hcp0 : w1.cell? ⟨g1, 0, none⟩ = some (.slice A0 p.a.length c0) := (blk_cell hbox 0).trans rfl; have hcp1 : w1.cell? ⟨g1, 1, none⟩ = some (.slice A1 p.b.length c1) := (blk_cell hbox 1).trans rfl; have hcp2 : w1.cell? ⟨g1, 2, none⟩ = some (.slice A2 p.c.length c2) := (blk_cell hbox 2).trans rfl; have hcp3 : w1.cell? ⟨g1, 3, none⟩ = some (.int .i64 p.d) := (blk_cell hbox 3).trans rfl; have hcp4 : w1.cell? ⟨g1, 4, none⟩ = some (.slice A4 p.e.length c4) := (blk_cell hbox 4).trans rfl; have hcp5 : w1.cell? ⟨g1, 5, none⟩ = some (.slice A5 p.f.length c5) := (blk_cell hbox 5).trans rfl; have hcp6 : w1.cell? ⟨g1, 6, none⟩ = some (.slice A6 p.g.length c6) := (blk_cell hbox 6).trans rfl; have hcp7 : w1.cell? ⟨g1, 7, none⟩ = some (.slice A7 p.h.length c7) := (blk_cell hbox 7).trans rfl; have hcp8 : w1.cell? ⟨g1, 8, none⟩ = some (.int .i64 p.i) := (blk_cell hbox 8).trans rfl; clear hg hbox hb) | (go_at_call 12; (with_reducible refine (may_t HM.out (HX.out.below HB.out).pr).mono ?_); rintro e w6 ⟨rfl, hb⟩; have n0_ := Aside0.mk (below_step HB.out hb); have n1_ := Aside0.mk (blk_below BP.out hb); clear HB BP hb; have HB := n0_; have BP := n1_; clear n0_ n1_) | ((with_reducible refine gate_dst (N := 8) rfl ?_); refine Kd.R_lit (Kd.int .u8) _ 5 ?hg (N := 8) ?hd (xs := ([83, 66] : List Int)) (inner := [.int .u8 83, .int .u8 66]) (ok := fun _ => True) (okp := fun _ => True) ?hr ?hp (fun _ hk => hk) trivial (Below.refl _ _) (Nat.le_refl _) (by simp) ?_; (case hd => rfl); (case hg => rfl); (case hr => first | (go_simp; done) | (go_simp; rfl)); (case hp => exact (by refine ⟨rfl, fun j p hj => ?_⟩; match j, hj with | 0, hj => (cases hj; rfl) | 1, hj => (cases hj; rfl) | n + 2, hj => exact absurd hj (by simp))); intro v8 w8 ho hb hg_ hnew_; clear hg_ hnew_; obtain ⟨A8, c8, e8⟩ : ∃ A c, v8 = .slice A 2 c := Kd.R_slice ho; subst e8; have n2_ := Aside0.mk (Kd.R_lower ho (below_size HB.out)); have n0_ := Aside0.mk (below_step HB.out hb); have n1_ := Aside0.mk (blk_below BP.out hb); clear HB BP hb; have HB := n0_; have BP := n1_; clear n0_ n1_; have HO := n2_; clear n2_ ho; rw [← E0.out] at HO) | ((with_reducible refine gate_dst (N := 10) rfl ?_); refine box_event ?hg (N := 10) ?hd (cs := #[.slice A8 2 c8]) (t := 49) ?hr ?_; (case hd => rfl); (case hg => rfl); (case hr => first | (go_simp; done) | (go_simp; rfl)); intro g10 hg w10 hbox hb; have n0_ := Aside0.mk (below_step HB.out hb); have n1_ := Aside0.mk (blk_below BP.out hb); have n2_ := Aside0.mk (Kd.R_below HO.out hb); have n3_ := Aside0.mk (hbox); have n4_ := Aside0.mk ((by rw [hg]; exact below_size HB.out : w.heap.size ≤ g10)); clear HB BP HO; have HB := n0_; have BP := n1_; have HO := n2_; have BW := n3_; have GE := n4_; clear n0_ n1_ n2_ n3_ n4_; have HW : Aside0 (WB w w10 g10 b0) := ⟨⟨_, BW.out, HO.out, GE.out, HB.out⟩⟩; clear HB HO BW GE; have hcp0 : w10.cell? ⟨g1, 0, none⟩ = some (.slice A0 p.a.length c0) := (blk_cell BP.out 0).trans rfl; clear hg hbox hb) | (go_at_call 19; (with_reducible refine (lay19_any HW.out HX.out.a.2 LN.out.1 L0.out).mono ?_); rintro e w14 ⟨rfl, hh, hf⟩; rw [← E1.out] at hh; have n1_ := Aside0.mk (Fr.cells hf BP.out (by decide)); clear HW BP hf; have HW := Aside0.mk hh; have BP := n1_; clear n1_ hh; have hcp1 : w14.cell? ⟨g1, 1, none⟩ = some (.slice A1 p.b.length c1) := (blk_cell BP.out 1).trans rfl) | (go_at_call 21; (with_reducible refine (lay21_any HW.out HX.out.b.2 LN.out.2.1 L1.out).mono ?_); rintro e w18 ⟨rfl, hh, hf⟩; rw [← E2.out] at hh; have n1_ := Aside0.mk (Fr.cells hf BP.out (by decide)); clear HW BP hf; have HW := Aside0.mk hh; have BP := n1_; clear n1_ hh; have hcp2 : w18.cell? ⟨g1, 2, none⟩ = some (.slice A2 p.c.length c2) := (blk_cell BP.out 2).trans rfl) | (go_at_call 23; (with_reducible refine (lay23_any HW.out HX.out.c.2 LN.out.2.2.1 L2.out).mono ?_); rintro e w22 ⟨rfl, hh, hf⟩; rw [← E3.out] at hh; have n1_ := Aside0.mk (Fr.cells hf BP.out (by decide)); clear HW BP hf; have HW := Aside0.mk hh; have BP := n1_; clear n1_ hh; have hcp3 : w22.cell? ⟨g1, 3, none⟩ = some (.int .i64 p.d) := (blk_cell BP.out 3).trans rfl) | ((with_reducible refine gate_dst (N := 26) rfl ?_); refine Kd.R_lit (Kd.int .i64) _ 3 ?hg (N := 26) ?hd (xs := ([p.d] : List Int)) (inner := [.int .i64 p.d]) (ok := fun _ => True) (okp := fun _ => True) ?hr ?hp (fun _ hk => hk) trivial (Below.refl _ _) (Nat.le_refl _) (by simp) ?_; (case hd => rfl); (case hg => rfl); (case hr => first | (go_simp; done) | (go_simp; rfl)); (case hp => exact (by refine ⟨rfl, fun j p hj => ?_⟩; match j, hj with | 0, hj => (cases hj; rfl) | n + 1, hj => exact absurd hj (by simp))); intro v26 w26 ho hb hg_ hnew_; clear hg_ hnew_; obtain ⟨A26, c26, rfl⟩ := Kd.R_slice ho; have HI : Aside0 (IL w w26 A26 1 c26 [p.d]) := ⟨⟨rfl, .inr (Kd.R_lower ho (below_size HW.out.at))⟩⟩; clear ho; have n0_ := Aside0.mk (HW.out.below hb); have n1_ := Aside0.mk (blk_below BP.out hb); clear HW BP hb; have HW := n0_; have BP := n1_; clear n0_ n1_) | (go_at_call 25; (with_reducible refine (nums_any HW.out HI.out LD.out).mono ?_); rintro e w27 ⟨rfl, hh, hf⟩; rw [show nums8 [p.d] = num8 p.d from by simp [nums8], ← E4.out] at hh; have n1_ := Aside0.mk (Fr.cells hf BP.out (by decide)); clear HW BP HI hf; have HW := Aside0.mk hh; have BP := n1_; clear n1_ hh; have hcp4 : w27.cell? ⟨g1, 4, none⟩ = some (.slice A4 p.e.length c4) := (blk_cell BP.out 4).trans rfl) | (go_at_call 26; (with_reducible refine (lay26_any HW.out HX.out.e.2 LN.out.2.2.2.1 L4.out).mono ?_); rintro e w31 ⟨rfl, hh, hf⟩; rw [← E5.out] at hh; have n1_ := Aside0.mk (Fr.cells hf BP.out (by decide)); clear HW BP hf; have HW := Aside0.mk hh; have BP := n1_; clear n1_ hh; have hcp5 : w31.cell? ⟨g1, 5, none⟩ = some (.slice A5 p.f.length c5) := (blk_cell BP.out 5).trans rfl) | (go_at_call 26; (with_reducible refine (lay26_any HW.out HX.out.f.2 LN.out.2.2.2.2.1 L5.out).mono ?_); rintro e w35 ⟨rfl, hh, hf⟩; rw [← E6.out] at hh; have n1_ := Aside0.mk (Fr.cells hf BP.out (by decide)); clear HW BP hf; have HW := Aside0.mk hh; have BP := n1_; clear n1_ hh; have hcp6 : w35.cell? ⟨g1, 6, none⟩ = some (.slice A6 p.g.length c6) := (blk_cell BP.out 6).trans rfl) | (go_at_call 28; (with_reducible refine (lay28_any HW.out HX.out.g.2 LN.out.2.2.2.2.2.1 LV.out L6.out).mono ?_); rintro e w39 ⟨rfl, hh, hf⟩; rw [← E7.out] at hh; have n1_ := Aside0.mk (Fr.cells hf BP.out (by decide)); clear HW BP hf; have HW := Aside0.mk hh; have BP := n1_; clear n1_ hh; have hcp7 : w39.cell? ⟨g1, 7, none⟩ = some (.slice A7 p.h.length c7) := (blk_cell BP.out 7).trans rfl) | (go_at_call 30; (with_reducible refine (lay30_any HW.out HX.out.h.2 LN.out.2.2.2.2.2.2 L7.out).mono ?_); rintro e w43 ⟨rfl, hh, hf⟩; rw [← E8.out] at hh; have n1_ := Aside0.mk (Fr.cells hf BP.out (by decide)); clear HW BP hf; have HW := Aside0.mk hh; have BP := n1_; clear n1_ hh; have hcp8 : w43.cell? ⟨g1, 8, none⟩ = some (.int .i64 p.i) := (blk_cell BP.out 8).trans rfl) | ((with_reducible refine gate_dst (N := 47) rfl ?_); refine Kd.R_lit (Kd.int .i64) _ 3 ?hg (N := 47) ?hd (xs := ([p.i] : List Int)) (inner := [.int .i64 p.i]) (ok := fun _ => True) (okp := fun _ => True) ?hr ?hp (fun _ hk => hk) trivial (Below.refl _ _) (Nat.le_refl _) (by simp) ?_; (case hd => rfl); (case hg => rfl); (case hr => first | (go_simp; done) | (go_simp; rfl)); (case hp => exact (by refine ⟨rfl, fun j p hj => ?_⟩; match j, hj with | 0, hj => (cases hj; rfl) | n + 1, hj => exact absurd hj (by simp))); intro v47 w47 ho hb hg_ hnew_; clear hg_ hnew_; obtain ⟨A47, c47, rfl⟩ := Kd.R_slice ho; have HI : Aside0 (IL w w47 A47 1 c47 [p.i]) := ⟨⟨rfl, .inr (Kd.R_lower ho (below_size HW.out.at))⟩⟩; clear ho; have n0_ := Aside0.mk (HW.out.below hb); have n1_ := Aside0.mk (blk_below BP.out hb); clear HW BP hb; have HW := n0_; have BP := n1_; clear n0_ n1_) | (go_at_call 25; (with_reducible refine (nums_any HW.out HI.out LI.out).mono ?_); rintro e w48 ⟨rfl, hh, hf⟩; rw [show nums8 [p.i] = num8 p.i from by simp [nums8], ← E9.out, EE.out] at hh; clear HW BP HI hf; obtain ⟨v9, hb9, ho9, _, hB9⟩ := hh; obtain ⟨A9, c9, rfl⟩ := Kd.R_slice ho9; have HO := Aside0.mk ho9; have HB := Aside0.mk hB9; have hcw : w48.cell? ⟨g10, 0, none⟩ = some (.slice A9 (encB p).length c9) := (blk_cell hb9 0).trans rfl; clear hb9 ho9 hB9))
  go_ret2
  exact ⟨⟨_, _, rfl, HO.out⟩, HB.out⟩

end Go.Proofs.Ytdgaklldijkoaaa.PCode
