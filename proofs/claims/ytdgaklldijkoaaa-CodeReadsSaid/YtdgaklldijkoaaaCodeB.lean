import Derived.Test.YtdgaklldijkoaaaPCodex0
import Derived.Test.YtdgaklldijkoaaaCodeA
import Derived.BigQuiet
import Derived.IntWalk
import Derived.WalkMore
import Derived.Laws.EntriesVeiled
import Derived.StillTailTactics
namespace Go.Proofs.Ytdgaklldijkoaaa.PCode
open Go.RowKit Go.Proofs.YtdgaklldijkoaaaW.PrintWords Go.Proofs.YtdgaklldijkoaaaW.PrintLast Go.Proofs.YtdgaklldijkoaaaW.PrintMore
attribute [local go_sem] max2_int min2_int max_two min_two max_three min_three max_four min_four
set_option linter.unusedVariables false
set_option linter.unusedSimpArgs false
/-- Two bytes of how many rows there are, and the rows. -/
def rowsB (l : List (List Int)) : List Int := l.flatMap nums8
def layB (l : List (List Int)) : List Int := le 2 (l.length : Int) ++ rowsB l
theorem rowsB_snoc (l : List (List Int)) (x : List Int) : rowsB (l ++ [x]) = rowsB l ++ nums8 x := by simp [rowsB]
theorem rowsB_len (m : Nat) : ∀ l : List (List Int), (∀ x ∈ l, x.length ≤ m) → (rowsB l).length ≤ 8 * m * l.length
  | [], _ => by simp [rowsB]
  | x :: l, h => by
    have e : rowsB (x :: l) = nums8 x ++ rowsB l := rfl
    have h1 := h x (by simp)
    have h2 := rowsB_len m l (fun y hy => h y (by simp [hy]))
    have h3 : 8 * m * (x :: l).length = 8 * m * l.length + 8 * m := by rw [List.length_cons, Nat.mul_succ]
    rw [e, List.length_append, nums8_len, h3]
    have h4 : 8 * x.length ≤ 8 * m := Nat.mul_le_mul_left _ h1
    omega
theorem map_take {α β : Type} (f : α → β) (l : List α) {i : Nat} (h : i < l.length) (d : α) : (l.take (i + 1)).map f = (l.take i).map f ++ [f (l.getD i d)] := by
  rw [List.take_add_one, List.getElem?_eq_getElem h, List.map_append, List.getD_eq_getElem?_getD, List.getElem?_eq_getElem h]; rfl

def toL44 (x : S44) : List Int := [x.f0, x.f1, x.f2]
set_option maxHeartbeats 2000000 in
set_option maxRecDepth 100000 in
theorem enc20 (x : S44) (w : World) : Calls Try.prog 20 #[.agg #[.int .i64 x.f0, .int .i64 x.f1, .int .i64 x.f2]] w fun e w' => (∃ A c, e = .returned (.slice A 3 c) ∧ Kd.R (Kd.int .i64) 3 w' w.heap.size (fun _ => True) (.slice A 3 c) (toL44 x)) ∧ Below w.heap.size w w' := by
  obtain ⟨a0, a1, a2⟩ := x
  have HB := Aside0.mk (Below.refl w.heap.size w)
  go_enter Try.func20, Try.ntmps20
  go_wp2_with (first | ((with_reducible refine gate_dst (N := 1) rfl ?_); refine box_event ?hg (N := 1) ?hd (cs := #[.int .i64 a0, .int .i64 a1, .int .i64 a2]) (t := 44) ?hr ?_; (case hd => rfl); (case hg => rfl); (case hr => first | (go_simp; done) | (go_simp; rfl)); intro g1 hg w1 hbox hb; have n0_ := Aside0.mk (below_step HB.out hb); clear HB; have HB := n0_; clear n0_; have hcz0 : w1.cell? ⟨g1, 0, none⟩ = some (.int .i64 a0) := (blk_cell hbox 0).trans rfl; have hcz1 : w1.cell? ⟨g1, 1, none⟩ = some (.int .i64 a1) := (blk_cell hbox 1).trans rfl; have hcz2 : w1.cell? ⟨g1, 2, none⟩ = some (.int .i64 a2) := (blk_cell hbox 2).trans rfl; clear hg hbox hb) | ((with_reducible refine gate_dst (N := 9) rfl ?_); refine Kd.R_lit (Kd.int .i64) _ 3 ?hg (N := 9) ?hd (xs := ([a0, a1, a2] : List Int)) (inner := [.int .i64 a0, .int .i64 a1, .int .i64 a2]) (ok := fun _ => True) (okp := fun _ => True) ?hr ?hp (fun _ hk => hk) trivial (Below.refl _ _) (Nat.le_refl _) (by simp) ?_; (case hd => rfl); (case hg => rfl); (case hr => first | (go_simp; done) | (go_simp; rfl)); (case hp => exact (by refine ⟨rfl, fun j p hj => ?_⟩; match j, hj with | 0, hj => (cases hj; rfl) | 1, hj => (cases hj; rfl) | 2, hj => (cases hj; rfl) | n + 3, hj => exact absurd hj (by simp))); intro v9 w9 ho hb hg_ hnew_; clear hg_ hnew_; obtain ⟨A9, c9, rfl⟩ := Kd.R_slice ho; have n0_ := Aside0.mk (Kd.R_lower ho (below_size HB.out)); have n1_ := Aside0.mk (below_step HB.out hb); clear HB ho hb; have HO := n0_; have HB := n1_; clear n0_ n1_))
  go_ret
  exact ⟨⟨_, _, rfl, HO.out⟩, HB.out⟩

def toL46 (x : S46) : List Int := [x.f0, x.f1, x.f2]
set_option maxHeartbeats 2000000 in
set_option maxRecDepth 100000 in
theorem enc22 (x : S46) (w : World) : Calls Try.prog 22 #[.agg #[.int .i64 x.f0, .int .i64 x.f1, .int .i64 x.f2]] w fun e w' => (∃ A c, e = .returned (.slice A 3 c) ∧ Kd.R (Kd.int .i64) 3 w' w.heap.size (fun _ => True) (.slice A 3 c) (toL46 x)) ∧ Below w.heap.size w w' := by
  obtain ⟨a0, a1, a2⟩ := x
  have HB := Aside0.mk (Below.refl w.heap.size w)
  go_enter Try.func22, Try.ntmps22
  go_wp2_with (first | ((with_reducible refine gate_dst (N := 1) rfl ?_); refine box_event ?hg (N := 1) ?hd (cs := #[.int .i64 a0, .int .i64 a1, .int .i64 a2]) (t := 46) ?hr ?_; (case hd => rfl); (case hg => rfl); (case hr => first | (go_simp; done) | (go_simp; rfl)); intro g1 hg w1 hbox hb; have n0_ := Aside0.mk (below_step HB.out hb); clear HB; have HB := n0_; clear n0_; have hcz0 : w1.cell? ⟨g1, 0, none⟩ = some (.int .i64 a0) := (blk_cell hbox 0).trans rfl; have hcz1 : w1.cell? ⟨g1, 1, none⟩ = some (.int .i64 a1) := (blk_cell hbox 1).trans rfl; have hcz2 : w1.cell? ⟨g1, 2, none⟩ = some (.int .i64 a2) := (blk_cell hbox 2).trans rfl; clear hg hbox hb) | ((with_reducible refine gate_dst (N := 9) rfl ?_); refine Kd.R_lit (Kd.int .i64) _ 3 ?hg (N := 9) ?hd (xs := ([a0, a1, a2] : List Int)) (inner := [.int .i64 a0, .int .i64 a1, .int .i64 a2]) (ok := fun _ => True) (okp := fun _ => True) ?hr ?hp (fun _ hk => hk) trivial (Below.refl _ _) (Nat.le_refl _) (by simp) ?_; (case hd => rfl); (case hg => rfl); (case hr => first | (go_simp; done) | (go_simp; rfl)); (case hp => exact (by refine ⟨rfl, fun j p hj => ?_⟩; match j, hj with | 0, hj => (cases hj; rfl) | 1, hj => (cases hj; rfl) | 2, hj => (cases hj; rfl) | n + 3, hj => exact absurd hj (by simp))); intro v9 w9 ho hb hg_ hnew_; clear hg_ hnew_; obtain ⟨A9, c9, rfl⟩ := Kd.R_slice ho; have n0_ := Aside0.mk (Kd.R_lower ho (below_size HB.out)); have n1_ := Aside0.mk (below_step HB.out hb); clear HB ho hb; have HO := n0_; have HB := n1_; clear n0_ n1_))
  go_ret
  exact ⟨⟨_, _, rfl, HO.out⟩, HB.out⟩

def toL56 (x : S56) : List Int := [x.f0, x.f1]
set_option maxHeartbeats 2000000 in
set_option maxRecDepth 100000 in
theorem enc24 (x : S56) (w : World) : Calls Try.prog 24 #[.agg #[.int .i64 x.f0, .int .i64 x.f1]] w fun e w' => (∃ A c, e = .returned (.slice A 2 c) ∧ Kd.R (Kd.int .i64) 3 w' w.heap.size (fun _ => True) (.slice A 2 c) (toL56 x)) ∧ Below w.heap.size w w' := by
  obtain ⟨a0, a1⟩ := x
  have HB := Aside0.mk (Below.refl w.heap.size w)
  go_enter Try.func24, Try.ntmps24
  go_wp2_with (first | ((with_reducible refine gate_dst (N := 1) rfl ?_); refine box_event ?hg (N := 1) ?hd (cs := #[.int .i64 a0, .int .i64 a1]) (t := 56) ?hr ?_; (case hd => rfl); (case hg => rfl); (case hr => first | (go_simp; done) | (go_simp; rfl)); intro g1 hg w1 hbox hb; have n0_ := Aside0.mk (below_step HB.out hb); clear HB; have HB := n0_; clear n0_; have hcz0 : w1.cell? ⟨g1, 0, none⟩ = some (.int .i64 a0) := (blk_cell hbox 0).trans rfl; have hcz1 : w1.cell? ⟨g1, 1, none⟩ = some (.int .i64 a1) := (blk_cell hbox 1).trans rfl; clear hg hbox hb) | ((with_reducible refine gate_dst (N := 7) rfl ?_); refine Kd.R_lit (Kd.int .i64) _ 3 ?hg (N := 7) ?hd (xs := ([a0, a1] : List Int)) (inner := [.int .i64 a0, .int .i64 a1]) (ok := fun _ => True) (okp := fun _ => True) ?hr ?hp (fun _ hk => hk) trivial (Below.refl _ _) (Nat.le_refl _) (by simp) ?_; (case hd => rfl); (case hg => rfl); (case hr => first | (go_simp; done) | (go_simp; rfl)); (case hp => exact (by refine ⟨rfl, fun j p hj => ?_⟩; match j, hj with | 0, hj => (cases hj; rfl) | 1, hj => (cases hj; rfl) | n + 2, hj => exact absurd hj (by simp))); intro v7 w7 ho hb hg_ hnew_; clear hg_ hnew_; obtain ⟨A7, c7, rfl⟩ := Kd.R_slice ho; have n0_ := Aside0.mk (Kd.R_lower ho (below_size HB.out)); have n1_ := Aside0.mk (below_step HB.out hb); clear HB ho hb; have HO := n0_; have HB := n1_; clear n0_ n1_))
  go_ret
  exact ⟨⟨_, _, rfl, HO.out⟩, HB.out⟩

def toL65 (x : S65) : List Int := [x.f0, x.f1]
set_option maxHeartbeats 2000000 in
set_option maxRecDepth 100000 in
theorem enc31 (x : S65) (w : World) : Calls Try.prog 31 #[.agg #[.int .i64 x.f0, .int .i64 x.f1]] w fun e w' => (∃ A c, e = .returned (.slice A 2 c) ∧ Kd.R (Kd.int .i64) 3 w' w.heap.size (fun _ => True) (.slice A 2 c) (toL65 x)) ∧ Below w.heap.size w w' := by
  obtain ⟨a0, a1⟩ := x
  have HB := Aside0.mk (Below.refl w.heap.size w)
  go_enter Try.func31, Try.ntmps31
  go_wp2_with (first | ((with_reducible refine gate_dst (N := 1) rfl ?_); refine box_event ?hg (N := 1) ?hd (cs := #[.int .i64 a0, .int .i64 a1]) (t := 65) ?hr ?_; (case hd => rfl); (case hg => rfl); (case hr => first | (go_simp; done) | (go_simp; rfl)); intro g1 hg w1 hbox hb; have n0_ := Aside0.mk (below_step HB.out hb); clear HB; have HB := n0_; clear n0_; have hcz0 : w1.cell? ⟨g1, 0, none⟩ = some (.int .i64 a0) := (blk_cell hbox 0).trans rfl; have hcz1 : w1.cell? ⟨g1, 1, none⟩ = some (.int .i64 a1) := (blk_cell hbox 1).trans rfl; clear hg hbox hb) | ((with_reducible refine gate_dst (N := 7) rfl ?_); refine Kd.R_lit (Kd.int .i64) _ 3 ?hg (N := 7) ?hd (xs := ([a0, a1] : List Int)) (inner := [.int .i64 a0, .int .i64 a1]) (ok := fun _ => True) (okp := fun _ => True) ?hr ?hp (fun _ hk => hk) trivial (Below.refl _ _) (Nat.le_refl _) (by simp) ?_; (case hd => rfl); (case hg => rfl); (case hr => first | (go_simp; done) | (go_simp; rfl)); (case hp => exact (by refine ⟨rfl, fun j p hj => ?_⟩; match j, hj with | 0, hj => (cases hj; rfl) | 1, hj => (cases hj; rfl) | n + 2, hj => exact absurd hj (by simp))); intro v7 w7 ho hb hg_ hnew_; clear hg_ hnew_; obtain ⟨A7, c7, rfl⟩ := Kd.R_slice ho; have n0_ := Aside0.mk (Kd.R_lower ho (below_size HB.out)); have n1_ := Aside0.mk (below_step HB.out hb); clear HB ho hb; have HO := n0_; have HB := n1_; clear n0_ n1_))
  go_ret
  exact ⟨⟨_, _, rfl, HO.out⟩, HB.out⟩

set_option maxHeartbeats 2000000 in
theorem enc27 (x : Int) (w : World) : Calls Try.prog 27 #[.int .i64 x] w fun e w' => (∃ A c, e = .returned (.slice A 1 c) ∧ Kd.R (Kd.int .i64) 3 w' w.heap.size (fun _ => True) (.slice A 1 c) [x]) ∧ Below w.heap.size w w' := by
  have HB := Aside0.mk (Below.refl w.heap.size w)
  go_enter Try.func27, Try.ntmps27
  go_wp2_with (first | ((with_reducible refine gate_dst (N := 4) rfl ?_); refine Kd.R_lit (Kd.int .i64) _ 3 ?hg (N := 4) ?hd (xs := ([x] : List Int)) (inner := [.int .i64 x]) (ok := fun _ => True) (okp := fun _ => True) ?hr ?hp (fun _ hk => hk) trivial (Below.refl _ _) (Nat.le_refl _) (by simp) ?_; (case hd => rfl); (case hg => rfl); (case hr => first | (go_simp; done) | (go_simp; rfl)); (case hp => exact (by refine ⟨rfl, fun j p hj => ?_⟩; match j, hj with | 0, hj => (cases hj; rfl) | n + 1, hj => exact absurd hj (by simp))); intro v4 w4 ho hb hg_ hnew_; clear hg_ hnew_; obtain ⟨A4, c4, rfl⟩ := Kd.R_slice ho; have n0_ := Aside0.mk (Kd.R_lower ho (below_size HB.out)); have n1_ := Aside0.mk (below_step HB.out hb); clear HB ho hb; have HO := n0_; have HB := n1_; clear n0_ n1_))
  go_ret
  exact ⟨⟨_, _, rfl, HO.out⟩, HB.out⟩
theorem enc29 (v : Value) (w : World) : Calls Try.prog 29 #[v] w fun e w' => e = .returned v ∧ w = w' := by
  go_enter Try.func29, Try.ntmps29
  go_wp2
  go_ret
  exact ⟨rfl, rfl⟩

set_option maxHeartbeats 8000000 in
set_option maxRecDepth 100000 in
theorem lay19_any {w0 w : World} {g : Nat} {bs : List Int} {A : Option Addr} {c : Nat} {l : List S44} (h : WB w0 w g bs) (hl : Kd.C (k44) w0 A l.length l) (hn : l.length ≤ 60000) (hb : bs.length ≤ 500000000) :
    Calls Try.prog 19 #[.pointer (some ⟨g, 0, none⟩), .slice A l.length c, .func (.func 20) #[] #[]] w fun e w' => e = .returned (.tuple #[]) ∧ WB w0 w' g (bs ++ layB (l.map toL44)) ∧ Fr [49, 5] w w' := by
  have HW := Aside0.mk h
  have HC := Aside0.mk hl
  have HF := Aside0.mk (Fr.of_below (Below.refl w.heap.size w) [49, 5])
  have HL := Aside0.mk hb
  have HM : Aside0 (∀ x ∈ l.map toL44, x.length ≤ 3) := ⟨fun x hx => by obtain ⟨y, _, rfl⟩ := List.mem_map.1 hx; exact Nat.le_refl _⟩
  have HLen : Aside0 ((l.map toL44).length = l.length) := ⟨by simp⟩
  have hn9 : (l.length : Int) ≤ 60000 := by omega
  have HU : Aside0 (0 ≤ (l.length : Int) ∧ (l.length : Int) < 18446744073709551616) := ⟨by omega⟩
  have HL1 : Aside0 (bs.length ≤ 1000000000) := ⟨by omega⟩
  clear h hl hn hb
  go_enter Try.func19, Try.ntmps19
  go_upto_region 1 with (first | (go_at_call 59; (with_reducible refine (low2 (l.length : Int) HW.out HU.out HL1.out).mono ?_); rintro e w59 ⟨rfl, hh, hf⟩; have n0_ := Aside0.mk hh; have n2_ := Aside0.mk (HF.out.then_ hf); clear HW HF hh hf; have HW := n0_; have HF := n2_; clear n0_ n2_))
  generalize eb : bs ++ le 2 (l.length : Int) = b0 at HW
  have EB := Aside0.mk eb
  have HL2 : Aside0 (b0.length ≤ 500000002) := ⟨by rw [← eb, List.length_append, le_len]; have := HL.out; omega⟩
  clear eb HL1 HU
  go_wp2_with (fail)
  go_loopw [15] (fun v15 wx => ∃ i : Nat, v15 = .int .i64 (i : Int) ∧ i ≤ l.length ∧ Aside0 (WB w0 wx g (b0 ++ rowsB ((l.take i).map toL44))) ∧ Aside0 (Fr [49, 5] w wx)) (fun v15 _ => l.length - (intOf v15).toNat)
  case atStart => exact ⟨0, rfl, Nat.zero_le _, ⟨by rw [List.take_zero]; show WB _ _ _ (b0 ++ []); rw [List.append_nil]; exact HW.out⟩, HF⟩
  case round =>
    clear HW HF
    obtain ⟨i, rfl, hin, HW, HF⟩ := hrel
    by_cases hlt : i < l.length
    · have hltb : decide (i < l.length) = true := decide_eq_true hlt
      have HI9 := Aside0.mk hlt
      have hi0 : (0 : Int) ≤ (i : Int) := by omega
      have hi1 : (i : Int) < (l.length : Int) := by omega
      have HT : Aside0 (b0 ++ rowsB ((l.take (i + 1)).map toL44) = b0 ++ rowsB ((l.take i).map toL44) ++ nums8 (toL44 (l.getD i z44))) := ⟨by rw [map_take (toL44) l hlt z44, rowsB_snoc, List.append_assoc]⟩
      have HLE : Aside0 ((b0 ++ rowsB ((l.take i).map toL44)).length + 8 * (toL44 (l.getD i z44)).length ≤ 1000000000) := ⟨by
        have h1 := rowsB_len 3 ((l.take i).map toL44) (fun y hy => HM.out y (by obtain ⟨z, hz, rfl⟩ := List.mem_map.1 hy; exact List.mem_map.2 ⟨z, List.mem_of_mem_take hz, rfl⟩))
        have h2 := HL2.out
        have h3 : (toL44 (l.getD i z44)).length ≤ 3 := Nat.le_refl _
        have h4 : ((l.take i).map toL44).length ≤ l.length := by simp; omega
        have h5 : 8 * 3 * ((l.take i).map toL44).length ≤ 8 * 3 * 60000 := Nat.mul_le_mul_left _ (by omega)
        rw [List.length_append]; omega⟩
      obtain ⟨ad, e, x0, x1, x2⟩ := at_T44 (Kd.C_below HC.out HW.out.at) (i : Int) hi0 hi1
      subst e
      rw [Int.toNat_natCast] at x0 x1 x2
      have er : rd_T44 l (i : Int) = l.getD i z44 := by unfold rd_T44; rw [Int.toNat_natCast]
      rw [er] at x0 x1 x2
      generalize l.getD i z44 = x at x0 x1 x2 HT HLE
      have HB := Aside0.mk (Below.refl wr.heap.size wr)
      clear er hin hlt
      go_upto_region 4 with (first | ((with_reducible refine gate_dst (N := 7) rfl ?_); refine box_event ?hg (N := 7) ?hd (cs := #[.int .i64 0, .int .i64 0, .int .i64 0]) (t := 44) ?hr ?_; (case hd => rfl); (case hg => rfl); (case hr => first | (go_simp; done) | (go_simp; rfl)); intro g7 hg w7 hbox hb; have n0_ := Aside0.mk (below_step HB.out hb); have n1_ := Aside0.mk (hbox); have n2_ := Aside0.mk ((by rw [hg]; exact below_size HB.out : wr.heap.size ≤ g7)); clear HB; have HB := n0_; have BK := n1_; have GE := n2_; clear n0_ n1_ n2_; have hcz0 : w7.cell? ⟨g7, 0, none⟩ = some (.int .i64 0) := (blk_cell hbox 0).trans rfl; have hfz0 : w7.frozen? ⟨g7, 0, none⟩ = false := blk_frozen hbox 0; have hcz1 : w7.cell? ⟨g7, 1, none⟩ = some (.int .i64 0) := (blk_cell hbox 1).trans rfl; have hfz1 : w7.frozen? ⟨g7, 1, none⟩ = false := blk_frozen hbox 1; have hcz2 : w7.cell? ⟨g7, 2, none⟩ = some (.int .i64 0) := (blk_cell hbox 2).trans rfl; have hfz2 : w7.frozen? ⟨g7, 2, none⟩ = false := blk_frozen hbox 2; clear hg hbox hb))
      have b0_ := blk_put (cs' := #[.int .i64 x.f0, .int .i64 0, .int .i64 0]) BK.out 0 (.int .i64 x.f0) rfl
      have b1_ := blk_put (cs' := #[.int .i64 x.f0, .int .i64 x.f1, .int .i64 0]) b0_ 1 (.int .i64 x.f1) rfl
      have b2_ := blk_put (cs' := #[.int .i64 x.f0, .int .i64 x.f1, .int .i64 x.f2]) b1_ 2 (.int .i64 x.f2) rfl
      have HG := Aside0.mk b2_
      have n0_ := Aside0.mk (HW.out.below (below_set (j := 2) (v := .int .i64 x.f2) (below_set (j := 1) (v := .int .i64 x.f1) (below_set (j := 0) (v := .int .i64 x.f0) HB.out GE.out) GE.out) GE.out))
      have n1_ := Aside0.mk (HF.out.then_ (Fr.of_below (below_set (j := 2) (v := .int .i64 x.f2) (below_set (j := 1) (v := .int .i64 x.f1) (below_set (j := 0) (v := .int .i64 x.f0) HB.out GE.out) GE.out) GE.out) _))
      clear b0_ b1_ b2_ HW HF BK HB GE hcz0 hfz0 hcz1 hfz1 hcz2 hfz2 x0 x1 x2
      have HW := n0_
      have HF := n1_
      clear n0_ n1_
      generalize (((w7.setCell { block := g7, off := 0 } (Value.int IntKind.i64 x.f0)).setCell { block := g7, off := 1 } (Value.int IntKind.i64 x.f1)).setCell { block := g7, off := 2 } (Value.int IntKind.i64 x.f2)) = W1 at HG HW HF ⊢
      have hg0 : W1.cell? ⟨g7, 0, none⟩ = some (.int .i64 x.f0) := (blk_cell HG.out 0).trans rfl
      have hg1 : W1.cell? ⟨g7, 1, none⟩ = some (.int .i64 x.f1) := (blk_cell HG.out 1).trans rfl
      have hg2 : W1.cell? ⟨g7, 2, none⟩ = some (.int .i64 x.f2) := (blk_cell HG.out 2).trans rfl
      go_wp2_with (first
        | (go_at_call 20; (with_reducible refine (enc20 x _).mono ?_); rintro e w22 ⟨⟨A5, c5, rfl, hu⟩, hb⟩; have n0_ := Aside0.mk (HW.out.below hb); have n1_ := Aside0.mk (HF.out.then_ (Fr.of_below hb _)); have HI : Aside0 (IL w0 w22 A5 3 c5 (toL44 x)) := ⟨⟨rfl, .inr (Kd.R_lower hu (below_size HW.out.at))⟩⟩; clear HW HF hu hb; have HW := n0_; have HF := n1_; clear n0_ n1_)
        | (go_at_call 25; (with_reducible refine (nums_any HW.out HI.out HLE.out).mono ?_); rintro e w25 ⟨rfl, hh, hf⟩; have n0_ := Aside0.mk hh; have n2_ := Aside0.mk (HF.out.then_ hf); clear HW HF hh hf; have HW := n0_; have HF := n2_; clear n0_ n2_))
      go_roundw
      case rel => exact ⟨i + 1, by go_num, HI9.out, ⟨by rw [HT.out]; exact HW.out⟩, HF⟩
      case measure => have := HI9.out; simp [intOf]; omega
    · have hltb : decide (i < l.length) = false := decide_eq_false hlt
      obtain rfl : i = l.length := by omega
      go_wp2_with (fail)
      go_end0
      refine ⟨rfl, ?_, HF.out⟩
      have e := HW.out
      rw [List.take_of_length_le (Nat.le_refl _), ← EB.out, List.append_assoc] at e
      unfold layB
      rw [HLen.out]
      exact e

set_option maxHeartbeats 8000000 in
set_option maxRecDepth 100000 in
theorem lay21_any {w0 w : World} {g : Nat} {bs : List Int} {A : Option Addr} {c : Nat} {l : List S46} (h : WB w0 w g bs) (hl : Kd.C (k46) w0 A l.length l) (hn : l.length ≤ 60000) (hb : bs.length ≤ 500000000) :
    Calls Try.prog 21 #[.pointer (some ⟨g, 0, none⟩), .slice A l.length c, .func (.func 22) #[] #[]] w fun e w' => e = .returned (.tuple #[]) ∧ WB w0 w' g (bs ++ layB (l.map toL46)) ∧ Fr [49, 5] w w' := by
  have HW := Aside0.mk h
  have HC := Aside0.mk hl
  have HF := Aside0.mk (Fr.of_below (Below.refl w.heap.size w) [49, 5])
  have HL := Aside0.mk hb
  have HM : Aside0 (∀ x ∈ l.map toL46, x.length ≤ 3) := ⟨fun x hx => by obtain ⟨y, _, rfl⟩ := List.mem_map.1 hx; exact Nat.le_refl _⟩
  have HLen : Aside0 ((l.map toL46).length = l.length) := ⟨by simp⟩
  have hn9 : (l.length : Int) ≤ 60000 := by omega
  have HU : Aside0 (0 ≤ (l.length : Int) ∧ (l.length : Int) < 18446744073709551616) := ⟨by omega⟩
  have HL1 : Aside0 (bs.length ≤ 1000000000) := ⟨by omega⟩
  clear h hl hn hb
  go_enter Try.func21, Try.ntmps21
  go_upto_region 1 with (first | (go_at_call 59; (with_reducible refine (low2 (l.length : Int) HW.out HU.out HL1.out).mono ?_); rintro e w59 ⟨rfl, hh, hf⟩; have n0_ := Aside0.mk hh; have n2_ := Aside0.mk (HF.out.then_ hf); clear HW HF hh hf; have HW := n0_; have HF := n2_; clear n0_ n2_))
  generalize eb : bs ++ le 2 (l.length : Int) = b0 at HW
  have EB := Aside0.mk eb
  have HL2 : Aside0 (b0.length ≤ 500000002) := ⟨by rw [← eb, List.length_append, le_len]; have := HL.out; omega⟩
  clear eb HL1 HU
  go_wp2_with (fail)
  go_loopw [15] (fun v15 wx => ∃ i : Nat, v15 = .int .i64 (i : Int) ∧ i ≤ l.length ∧ Aside0 (WB w0 wx g (b0 ++ rowsB ((l.take i).map toL46))) ∧ Aside0 (Fr [49, 5] w wx)) (fun v15 _ => l.length - (intOf v15).toNat)
  case atStart => exact ⟨0, rfl, Nat.zero_le _, ⟨by rw [List.take_zero]; show WB _ _ _ (b0 ++ []); rw [List.append_nil]; exact HW.out⟩, HF⟩
  case round =>
    clear HW HF
    obtain ⟨i, rfl, hin, HW, HF⟩ := hrel
    by_cases hlt : i < l.length
    · have hltb : decide (i < l.length) = true := decide_eq_true hlt
      have HI9 := Aside0.mk hlt
      have hi0 : (0 : Int) ≤ (i : Int) := by omega
      have hi1 : (i : Int) < (l.length : Int) := by omega
      have HT : Aside0 (b0 ++ rowsB ((l.take (i + 1)).map toL46) = b0 ++ rowsB ((l.take i).map toL46) ++ nums8 (toL46 (l.getD i z46))) := ⟨by rw [map_take (toL46) l hlt z46, rowsB_snoc, List.append_assoc]⟩
      have HLE : Aside0 ((b0 ++ rowsB ((l.take i).map toL46)).length + 8 * (toL46 (l.getD i z46)).length ≤ 1000000000) := ⟨by
        have h1 := rowsB_len 3 ((l.take i).map toL46) (fun y hy => HM.out y (by obtain ⟨z, hz, rfl⟩ := List.mem_map.1 hy; exact List.mem_map.2 ⟨z, List.mem_of_mem_take hz, rfl⟩))
        have h2 := HL2.out
        have h3 : (toL46 (l.getD i z46)).length ≤ 3 := Nat.le_refl _
        have h4 : ((l.take i).map toL46).length ≤ l.length := by simp; omega
        have h5 : 8 * 3 * ((l.take i).map toL46).length ≤ 8 * 3 * 60000 := Nat.mul_le_mul_left _ (by omega)
        rw [List.length_append]; omega⟩
      obtain ⟨ad, e, x0, x1, x2⟩ := at_T46 (Kd.C_below HC.out HW.out.at) (i : Int) hi0 hi1
      subst e
      rw [Int.toNat_natCast] at x0 x1 x2
      have er : rd_T46 l (i : Int) = l.getD i z46 := by unfold rd_T46; rw [Int.toNat_natCast]
      rw [er] at x0 x1 x2
      generalize l.getD i z46 = x at x0 x1 x2 HT HLE
      have HB := Aside0.mk (Below.refl wr.heap.size wr)
      clear er hin hlt
      go_upto_region 4 with (first | ((with_reducible refine gate_dst (N := 7) rfl ?_); refine box_event ?hg (N := 7) ?hd (cs := #[.int .i64 0, .int .i64 0, .int .i64 0]) (t := 46) ?hr ?_; (case hd => rfl); (case hg => rfl); (case hr => first | (go_simp; done) | (go_simp; rfl)); intro g7 hg w7 hbox hb; have n0_ := Aside0.mk (below_step HB.out hb); have n1_ := Aside0.mk (hbox); have n2_ := Aside0.mk ((by rw [hg]; exact below_size HB.out : wr.heap.size ≤ g7)); clear HB; have HB := n0_; have BK := n1_; have GE := n2_; clear n0_ n1_ n2_; have hcz0 : w7.cell? ⟨g7, 0, none⟩ = some (.int .i64 0) := (blk_cell hbox 0).trans rfl; have hfz0 : w7.frozen? ⟨g7, 0, none⟩ = false := blk_frozen hbox 0; have hcz1 : w7.cell? ⟨g7, 1, none⟩ = some (.int .i64 0) := (blk_cell hbox 1).trans rfl; have hfz1 : w7.frozen? ⟨g7, 1, none⟩ = false := blk_frozen hbox 1; have hcz2 : w7.cell? ⟨g7, 2, none⟩ = some (.int .i64 0) := (blk_cell hbox 2).trans rfl; have hfz2 : w7.frozen? ⟨g7, 2, none⟩ = false := blk_frozen hbox 2; clear hg hbox hb))
      have b0_ := blk_put (cs' := #[.int .i64 x.f0, .int .i64 0, .int .i64 0]) BK.out 0 (.int .i64 x.f0) rfl
      have b1_ := blk_put (cs' := #[.int .i64 x.f0, .int .i64 x.f1, .int .i64 0]) b0_ 1 (.int .i64 x.f1) rfl
      have b2_ := blk_put (cs' := #[.int .i64 x.f0, .int .i64 x.f1, .int .i64 x.f2]) b1_ 2 (.int .i64 x.f2) rfl
      have HG := Aside0.mk b2_
      have n0_ := Aside0.mk (HW.out.below (below_set (j := 2) (v := .int .i64 x.f2) (below_set (j := 1) (v := .int .i64 x.f1) (below_set (j := 0) (v := .int .i64 x.f0) HB.out GE.out) GE.out) GE.out))
      have n1_ := Aside0.mk (HF.out.then_ (Fr.of_below (below_set (j := 2) (v := .int .i64 x.f2) (below_set (j := 1) (v := .int .i64 x.f1) (below_set (j := 0) (v := .int .i64 x.f0) HB.out GE.out) GE.out) GE.out) _))
      clear b0_ b1_ b2_ HW HF BK HB GE hcz0 hfz0 hcz1 hfz1 hcz2 hfz2 x0 x1 x2
      have HW := n0_
      have HF := n1_
      clear n0_ n1_
      generalize (((w7.setCell { block := g7, off := 0 } (Value.int IntKind.i64 x.f0)).setCell { block := g7, off := 1 } (Value.int IntKind.i64 x.f1)).setCell { block := g7, off := 2 } (Value.int IntKind.i64 x.f2)) = W1 at HG HW HF ⊢
      have hg0 : W1.cell? ⟨g7, 0, none⟩ = some (.int .i64 x.f0) := (blk_cell HG.out 0).trans rfl
      have hg1 : W1.cell? ⟨g7, 1, none⟩ = some (.int .i64 x.f1) := (blk_cell HG.out 1).trans rfl
      have hg2 : W1.cell? ⟨g7, 2, none⟩ = some (.int .i64 x.f2) := (blk_cell HG.out 2).trans rfl
      go_wp2_with (first
        | (go_at_call 22; (with_reducible refine (enc22 x _).mono ?_); rintro e w22 ⟨⟨A5, c5, rfl, hu⟩, hb⟩; have n0_ := Aside0.mk (HW.out.below hb); have n1_ := Aside0.mk (HF.out.then_ (Fr.of_below hb _)); have HI : Aside0 (IL w0 w22 A5 3 c5 (toL46 x)) := ⟨⟨rfl, .inr (Kd.R_lower hu (below_size HW.out.at))⟩⟩; clear HW HF hu hb; have HW := n0_; have HF := n1_; clear n0_ n1_)
        | (go_at_call 25; (with_reducible refine (nums_any HW.out HI.out HLE.out).mono ?_); rintro e w25 ⟨rfl, hh, hf⟩; have n0_ := Aside0.mk hh; have n2_ := Aside0.mk (HF.out.then_ hf); clear HW HF hh hf; have HW := n0_; have HF := n2_; clear n0_ n2_))
      go_roundw
      case rel => exact ⟨i + 1, by go_num, HI9.out, ⟨by rw [HT.out]; exact HW.out⟩, HF⟩
      case measure => have := HI9.out; simp [intOf]; omega
    · have hltb : decide (i < l.length) = false := decide_eq_false hlt
      obtain rfl : i = l.length := by omega
      go_wp2_with (fail)
      go_end0
      refine ⟨rfl, ?_, HF.out⟩
      have e := HW.out
      rw [List.take_of_length_le (Nat.le_refl _), ← EB.out, List.append_assoc] at e
      unfold layB
      rw [HLen.out]
      exact e

set_option maxHeartbeats 8000000 in
set_option maxRecDepth 100000 in
theorem lay23_any {w0 w : World} {g : Nat} {bs : List Int} {A : Option Addr} {c : Nat} {l : List S56} (h : WB w0 w g bs) (hl : Kd.C (k56) w0 A l.length l) (hn : l.length ≤ 60000) (hb : bs.length ≤ 500000000) :
    Calls Try.prog 23 #[.pointer (some ⟨g, 0, none⟩), .slice A l.length c, .func (.func 24) #[] #[]] w fun e w' => e = .returned (.tuple #[]) ∧ WB w0 w' g (bs ++ layB (l.map toL56)) ∧ Fr [49, 5] w w' := by
  have HW := Aside0.mk h
  have HC := Aside0.mk hl
  have HF := Aside0.mk (Fr.of_below (Below.refl w.heap.size w) [49, 5])
  have HL := Aside0.mk hb
  have HM : Aside0 (∀ x ∈ l.map toL56, x.length ≤ 2) := ⟨fun x hx => by obtain ⟨y, _, rfl⟩ := List.mem_map.1 hx; exact Nat.le_refl _⟩
  have HLen : Aside0 ((l.map toL56).length = l.length) := ⟨by simp⟩
  have hn9 : (l.length : Int) ≤ 60000 := by omega
  have HU : Aside0 (0 ≤ (l.length : Int) ∧ (l.length : Int) < 18446744073709551616) := ⟨by omega⟩
  have HL1 : Aside0 (bs.length ≤ 1000000000) := ⟨by omega⟩
  clear h hl hn hb
  go_enter Try.func23, Try.ntmps23
  go_upto_region 1 with (first | (go_at_call 59; (with_reducible refine (low2 (l.length : Int) HW.out HU.out HL1.out).mono ?_); rintro e w59 ⟨rfl, hh, hf⟩; have n0_ := Aside0.mk hh; have n2_ := Aside0.mk (HF.out.then_ hf); clear HW HF hh hf; have HW := n0_; have HF := n2_; clear n0_ n2_))
  generalize eb : bs ++ le 2 (l.length : Int) = b0 at HW
  have EB := Aside0.mk eb
  have HL2 : Aside0 (b0.length ≤ 500000002) := ⟨by rw [← eb, List.length_append, le_len]; have := HL.out; omega⟩
  clear eb HL1 HU
  go_wp2_with (fail)
  go_loopw [15] (fun v15 wx => ∃ i : Nat, v15 = .int .i64 (i : Int) ∧ i ≤ l.length ∧ Aside0 (WB w0 wx g (b0 ++ rowsB ((l.take i).map toL56))) ∧ Aside0 (Fr [49, 5] w wx)) (fun v15 _ => l.length - (intOf v15).toNat)
  case atStart => exact ⟨0, rfl, Nat.zero_le _, ⟨by rw [List.take_zero]; show WB _ _ _ (b0 ++ []); rw [List.append_nil]; exact HW.out⟩, HF⟩
  case round =>
    clear HW HF
    obtain ⟨i, rfl, hin, HW, HF⟩ := hrel
    by_cases hlt : i < l.length
    · have hltb : decide (i < l.length) = true := decide_eq_true hlt
      have HI9 := Aside0.mk hlt
      have hi0 : (0 : Int) ≤ (i : Int) := by omega
      have hi1 : (i : Int) < (l.length : Int) := by omega
      have HT : Aside0 (b0 ++ rowsB ((l.take (i + 1)).map toL56) = b0 ++ rowsB ((l.take i).map toL56) ++ nums8 (toL56 (l.getD i z56))) := ⟨by rw [map_take (toL56) l hlt z56, rowsB_snoc, List.append_assoc]⟩
      have HLE : Aside0 ((b0 ++ rowsB ((l.take i).map toL56)).length + 8 * (toL56 (l.getD i z56)).length ≤ 1000000000) := ⟨by
        have h1 := rowsB_len 2 ((l.take i).map toL56) (fun y hy => HM.out y (by obtain ⟨z, hz, rfl⟩ := List.mem_map.1 hy; exact List.mem_map.2 ⟨z, List.mem_of_mem_take hz, rfl⟩))
        have h2 := HL2.out
        have h3 : (toL56 (l.getD i z56)).length ≤ 2 := Nat.le_refl _
        have h4 : ((l.take i).map toL56).length ≤ l.length := by simp; omega
        have h5 : 8 * 2 * ((l.take i).map toL56).length ≤ 8 * 2 * 60000 := Nat.mul_le_mul_left _ (by omega)
        rw [List.length_append]; omega⟩
      obtain ⟨ad, e, x0, x1⟩ := at_T56 (Kd.C_below HC.out HW.out.at) (i : Int) hi0 hi1
      subst e
      rw [Int.toNat_natCast] at x0 x1
      have er : rd_T56 l (i : Int) = l.getD i z56 := by unfold rd_T56; rw [Int.toNat_natCast]
      rw [er] at x0 x1
      generalize l.getD i z56 = x at x0 x1 HT HLE
      have HB := Aside0.mk (Below.refl wr.heap.size wr)
      clear er hin hlt
      go_upto_region 4 with (first | ((with_reducible refine gate_dst (N := 7) rfl ?_); refine box_event ?hg (N := 7) ?hd (cs := #[.int .i64 0, .int .i64 0]) (t := 56) ?hr ?_; (case hd => rfl); (case hg => rfl); (case hr => first | (go_simp; done) | (go_simp; rfl)); intro g7 hg w7 hbox hb; have n0_ := Aside0.mk (below_step HB.out hb); have n1_ := Aside0.mk (hbox); have n2_ := Aside0.mk ((by rw [hg]; exact below_size HB.out : wr.heap.size ≤ g7)); clear HB; have HB := n0_; have BK := n1_; have GE := n2_; clear n0_ n1_ n2_; have hcz0 : w7.cell? ⟨g7, 0, none⟩ = some (.int .i64 0) := (blk_cell hbox 0).trans rfl; have hfz0 : w7.frozen? ⟨g7, 0, none⟩ = false := blk_frozen hbox 0; have hcz1 : w7.cell? ⟨g7, 1, none⟩ = some (.int .i64 0) := (blk_cell hbox 1).trans rfl; have hfz1 : w7.frozen? ⟨g7, 1, none⟩ = false := blk_frozen hbox 1; clear hg hbox hb))
      have b0_ := blk_put (cs' := #[.int .i64 x.f0, .int .i64 0]) BK.out 0 (.int .i64 x.f0) rfl
      have b1_ := blk_put (cs' := #[.int .i64 x.f0, .int .i64 x.f1]) b0_ 1 (.int .i64 x.f1) rfl
      have HG := Aside0.mk b1_
      have n0_ := Aside0.mk (HW.out.below (below_set (j := 1) (v := .int .i64 x.f1) (below_set (j := 0) (v := .int .i64 x.f0) HB.out GE.out) GE.out))
      have n1_ := Aside0.mk (HF.out.then_ (Fr.of_below (below_set (j := 1) (v := .int .i64 x.f1) (below_set (j := 0) (v := .int .i64 x.f0) HB.out GE.out) GE.out) _))
      clear b0_ b1_ HW HF BK HB GE hcz0 hfz0 hcz1 hfz1 x0 x1
      have HW := n0_
      have HF := n1_
      clear n0_ n1_
      generalize ((w7.setCell { block := g7, off := 0 } (Value.int IntKind.i64 x.f0)).setCell { block := g7, off := 1 } (Value.int IntKind.i64 x.f1)) = W1 at HG HW HF ⊢
      have hg0 : W1.cell? ⟨g7, 0, none⟩ = some (.int .i64 x.f0) := (blk_cell HG.out 0).trans rfl
      have hg1 : W1.cell? ⟨g7, 1, none⟩ = some (.int .i64 x.f1) := (blk_cell HG.out 1).trans rfl
      go_wp2_with (first
        | (go_at_call 24; (with_reducible refine (enc24 x _).mono ?_); rintro e w22 ⟨⟨A5, c5, rfl, hu⟩, hb⟩; have n0_ := Aside0.mk (HW.out.below hb); have n1_ := Aside0.mk (HF.out.then_ (Fr.of_below hb _)); have HI : Aside0 (IL w0 w22 A5 2 c5 (toL56 x)) := ⟨⟨rfl, .inr (Kd.R_lower hu (below_size HW.out.at))⟩⟩; clear HW HF hu hb; have HW := n0_; have HF := n1_; clear n0_ n1_)
        | (go_at_call 25; (with_reducible refine (nums_any HW.out HI.out HLE.out).mono ?_); rintro e w25 ⟨rfl, hh, hf⟩; have n0_ := Aside0.mk hh; have n2_ := Aside0.mk (HF.out.then_ hf); clear HW HF hh hf; have HW := n0_; have HF := n2_; clear n0_ n2_))
      go_roundw
      case rel => exact ⟨i + 1, by go_num, HI9.out, ⟨by rw [HT.out]; exact HW.out⟩, HF⟩
      case measure => have := HI9.out; simp [intOf]; omega
    · have hltb : decide (i < l.length) = false := decide_eq_false hlt
      obtain rfl : i = l.length := by omega
      go_wp2_with (fail)
      go_end0
      refine ⟨rfl, ?_, HF.out⟩
      have e := HW.out
      rw [List.take_of_length_le (Nat.le_refl _), ← EB.out, List.append_assoc] at e
      unfold layB
      rw [HLen.out]
      exact e

set_option maxHeartbeats 8000000 in
set_option maxRecDepth 100000 in
theorem lay30_any {w0 w : World} {g : Nat} {bs : List Int} {A : Option Addr} {c : Nat} {l : List S65} (h : WB w0 w g bs) (hl : Kd.C (k65) w0 A l.length l) (hn : l.length ≤ 60000) (hb : bs.length ≤ 500000000) :
    Calls Try.prog 30 #[.pointer (some ⟨g, 0, none⟩), .slice A l.length c, .func (.func 31) #[] #[]] w fun e w' => e = .returned (.tuple #[]) ∧ WB w0 w' g (bs ++ layB (l.map toL65)) ∧ Fr [49, 5] w w' := by
  have HW := Aside0.mk h
  have HC := Aside0.mk hl
  have HF := Aside0.mk (Fr.of_below (Below.refl w.heap.size w) [49, 5])
  have HL := Aside0.mk hb
  have HM : Aside0 (∀ x ∈ l.map toL65, x.length ≤ 2) := ⟨fun x hx => by obtain ⟨y, _, rfl⟩ := List.mem_map.1 hx; exact Nat.le_refl _⟩
  have HLen : Aside0 ((l.map toL65).length = l.length) := ⟨by simp⟩
  have hn9 : (l.length : Int) ≤ 60000 := by omega
  have HU : Aside0 (0 ≤ (l.length : Int) ∧ (l.length : Int) < 18446744073709551616) := ⟨by omega⟩
  have HL1 : Aside0 (bs.length ≤ 1000000000) := ⟨by omega⟩
  clear h hl hn hb
  go_enter Try.func30, Try.ntmps30
  go_upto_region 1 with (first | (go_at_call 59; (with_reducible refine (low2 (l.length : Int) HW.out HU.out HL1.out).mono ?_); rintro e w59 ⟨rfl, hh, hf⟩; have n0_ := Aside0.mk hh; have n2_ := Aside0.mk (HF.out.then_ hf); clear HW HF hh hf; have HW := n0_; have HF := n2_; clear n0_ n2_))
  generalize eb : bs ++ le 2 (l.length : Int) = b0 at HW
  have EB := Aside0.mk eb
  have HL2 : Aside0 (b0.length ≤ 500000002) := ⟨by rw [← eb, List.length_append, le_len]; have := HL.out; omega⟩
  clear eb HL1 HU
  go_wp2_with (fail)
  go_loopw [15] (fun v15 wx => ∃ i : Nat, v15 = .int .i64 (i : Int) ∧ i ≤ l.length ∧ Aside0 (WB w0 wx g (b0 ++ rowsB ((l.take i).map toL65))) ∧ Aside0 (Fr [49, 5] w wx)) (fun v15 _ => l.length - (intOf v15).toNat)
  case atStart => exact ⟨0, rfl, Nat.zero_le _, ⟨by rw [List.take_zero]; show WB _ _ _ (b0 ++ []); rw [List.append_nil]; exact HW.out⟩, HF⟩
  case round =>
    clear HW HF
    obtain ⟨i, rfl, hin, HW, HF⟩ := hrel
    by_cases hlt : i < l.length
    · have hltb : decide (i < l.length) = true := decide_eq_true hlt
      have HI9 := Aside0.mk hlt
      have hi0 : (0 : Int) ≤ (i : Int) := by omega
      have hi1 : (i : Int) < (l.length : Int) := by omega
      have HT : Aside0 (b0 ++ rowsB ((l.take (i + 1)).map toL65) = b0 ++ rowsB ((l.take i).map toL65) ++ nums8 (toL65 (l.getD i z65))) := ⟨by rw [map_take (toL65) l hlt z65, rowsB_snoc, List.append_assoc]⟩
      have HLE : Aside0 ((b0 ++ rowsB ((l.take i).map toL65)).length + 8 * (toL65 (l.getD i z65)).length ≤ 1000000000) := ⟨by
        have h1 := rowsB_len 2 ((l.take i).map toL65) (fun y hy => HM.out y (by obtain ⟨z, hz, rfl⟩ := List.mem_map.1 hy; exact List.mem_map.2 ⟨z, List.mem_of_mem_take hz, rfl⟩))
        have h2 := HL2.out
        have h3 : (toL65 (l.getD i z65)).length ≤ 2 := Nat.le_refl _
        have h4 : ((l.take i).map toL65).length ≤ l.length := by simp; omega
        have h5 : 8 * 2 * ((l.take i).map toL65).length ≤ 8 * 2 * 60000 := Nat.mul_le_mul_left _ (by omega)
        rw [List.length_append]; omega⟩
      obtain ⟨ad, e, x0, x1⟩ := at_T65 (Kd.C_below HC.out HW.out.at) (i : Int) hi0 hi1
      subst e
      rw [Int.toNat_natCast] at x0 x1
      have er : rd_T65 l (i : Int) = l.getD i z65 := by unfold rd_T65; rw [Int.toNat_natCast]
      rw [er] at x0 x1
      generalize l.getD i z65 = x at x0 x1 HT HLE
      have HB := Aside0.mk (Below.refl wr.heap.size wr)
      clear er hin hlt
      go_upto_region 4 with (first | ((with_reducible refine gate_dst (N := 7) rfl ?_); refine box_event ?hg (N := 7) ?hd (cs := #[.int .i64 0, .int .i64 0]) (t := 65) ?hr ?_; (case hd => rfl); (case hg => rfl); (case hr => first | (go_simp; done) | (go_simp; rfl)); intro g7 hg w7 hbox hb; have n0_ := Aside0.mk (below_step HB.out hb); have n1_ := Aside0.mk (hbox); have n2_ := Aside0.mk ((by rw [hg]; exact below_size HB.out : wr.heap.size ≤ g7)); clear HB; have HB := n0_; have BK := n1_; have GE := n2_; clear n0_ n1_ n2_; have hcz0 : w7.cell? ⟨g7, 0, none⟩ = some (.int .i64 0) := (blk_cell hbox 0).trans rfl; have hfz0 : w7.frozen? ⟨g7, 0, none⟩ = false := blk_frozen hbox 0; have hcz1 : w7.cell? ⟨g7, 1, none⟩ = some (.int .i64 0) := (blk_cell hbox 1).trans rfl; have hfz1 : w7.frozen? ⟨g7, 1, none⟩ = false := blk_frozen hbox 1; clear hg hbox hb))
      have b0_ := blk_put (cs' := #[.int .i64 x.f0, .int .i64 0]) BK.out 0 (.int .i64 x.f0) rfl
      have b1_ := blk_put (cs' := #[.int .i64 x.f0, .int .i64 x.f1]) b0_ 1 (.int .i64 x.f1) rfl
      have HG := Aside0.mk b1_
      have n0_ := Aside0.mk (HW.out.below (below_set (j := 1) (v := .int .i64 x.f1) (below_set (j := 0) (v := .int .i64 x.f0) HB.out GE.out) GE.out))
      have n1_ := Aside0.mk (HF.out.then_ (Fr.of_below (below_set (j := 1) (v := .int .i64 x.f1) (below_set (j := 0) (v := .int .i64 x.f0) HB.out GE.out) GE.out) _))
      clear b0_ b1_ HW HF BK HB GE hcz0 hfz0 hcz1 hfz1 x0 x1
      have HW := n0_
      have HF := n1_
      clear n0_ n1_
      generalize ((w7.setCell { block := g7, off := 0 } (Value.int IntKind.i64 x.f0)).setCell { block := g7, off := 1 } (Value.int IntKind.i64 x.f1)) = W1 at HG HW HF ⊢
      have hg0 : W1.cell? ⟨g7, 0, none⟩ = some (.int .i64 x.f0) := (blk_cell HG.out 0).trans rfl
      have hg1 : W1.cell? ⟨g7, 1, none⟩ = some (.int .i64 x.f1) := (blk_cell HG.out 1).trans rfl
      go_wp2_with (first
        | (go_at_call 31; (with_reducible refine (enc31 x _).mono ?_); rintro e w22 ⟨⟨A5, c5, rfl, hu⟩, hb⟩; have n0_ := Aside0.mk (HW.out.below hb); have n1_ := Aside0.mk (HF.out.then_ (Fr.of_below hb _)); have HI : Aside0 (IL w0 w22 A5 2 c5 (toL65 x)) := ⟨⟨rfl, .inr (Kd.R_lower hu (below_size HW.out.at))⟩⟩; clear HW HF hu hb; have HW := n0_; have HF := n1_; clear n0_ n1_)
        | (go_at_call 25; (with_reducible refine (nums_any HW.out HI.out HLE.out).mono ?_); rintro e w25 ⟨rfl, hh, hf⟩; have n0_ := Aside0.mk hh; have n2_ := Aside0.mk (HF.out.then_ hf); clear HW HF hh hf; have HW := n0_; have HF := n2_; clear n0_ n2_))
      go_roundw
      case rel => exact ⟨i + 1, by go_num, HI9.out, ⟨by rw [HT.out]; exact HW.out⟩, HF⟩
      case measure => have := HI9.out; simp [intOf]; omega
    · have hltb : decide (i < l.length) = false := decide_eq_false hlt
      obtain rfl : i = l.length := by omega
      go_wp2_with (fail)
      go_end0
      refine ⟨rfl, ?_, HF.out⟩
      have e := HW.out
      rw [List.take_of_length_le (Nat.le_refl _), ← EB.out, List.append_assoc] at e
      unfold layB
      rw [HLen.out]
      exact e

set_option maxHeartbeats 8000000 in
set_option maxRecDepth 100000 in
theorem lay26_any {w0 w : World} {g : Nat} {bs : List Int} {A : Option Addr} {c : Nat} {l : List Int} (h : WB w0 w g bs) (hl : Kd.C (Kd.int .i64) w0 A l.length l) (hn : l.length ≤ 60000) (hb : bs.length ≤ 500000000) :
    Calls Try.prog 26 #[.pointer (some ⟨g, 0, none⟩), .slice A l.length c, .func (.func 27) #[] #[]] w fun e w' => e = .returned (.tuple #[]) ∧ WB w0 w' g (bs ++ layB (l.map (fun x => [x]))) ∧ Fr [49, 5] w w' := by
  have HW := Aside0.mk h
  have HC := Aside0.mk hl
  have HF := Aside0.mk (Fr.of_below (Below.refl w.heap.size w) [49, 5])
  have HL := Aside0.mk hb
  have HM : Aside0 (∀ x ∈ l.map (fun x => [x]), x.length ≤ 1) := ⟨fun x hx => by obtain ⟨y, _, rfl⟩ := List.mem_map.1 hx; exact Nat.le_refl _⟩
  have HLen : Aside0 ((l.map (fun x => [x])).length = l.length) := ⟨by simp⟩
  have hn9 : (l.length : Int) ≤ 60000 := by omega
  have HU : Aside0 (0 ≤ (l.length : Int) ∧ (l.length : Int) < 18446744073709551616) := ⟨by omega⟩
  have HL1 : Aside0 (bs.length ≤ 1000000000) := ⟨by omega⟩
  clear h hl hn hb
  go_enter Try.func26, Try.ntmps26
  go_upto_region 1 with (first | (go_at_call 59; (with_reducible refine (low2 (l.length : Int) HW.out HU.out HL1.out).mono ?_); rintro e w59 ⟨rfl, hh, hf⟩; have n0_ := Aside0.mk hh; have n2_ := Aside0.mk (HF.out.then_ hf); clear HW HF hh hf; have HW := n0_; have HF := n2_; clear n0_ n2_))
  generalize eb : bs ++ le 2 (l.length : Int) = b0 at HW
  have EB := Aside0.mk eb
  have HL2 : Aside0 (b0.length ≤ 500000002) := ⟨by rw [← eb, List.length_append, le_len]; have := HL.out; omega⟩
  clear eb HL1 HU
  go_wp2_with (fail)
  go_loopw [15] (fun v15 wx => ∃ i : Nat, v15 = .int .i64 (i : Int) ∧ i ≤ l.length ∧ Aside0 (WB w0 wx g (b0 ++ rowsB ((l.take i).map (fun x => [x])))) ∧ Aside0 (Fr [49, 5] w wx)) (fun v15 _ => l.length - (intOf v15).toNat)
  case atStart => exact ⟨0, rfl, Nat.zero_le _, ⟨by rw [List.take_zero]; show WB _ _ _ (b0 ++ []); rw [List.append_nil]; exact HW.out⟩, HF⟩
  case round =>
    clear HW HF
    obtain ⟨i, rfl, hin, HW, HF⟩ := hrel
    by_cases hlt : i < l.length
    · have hltb : decide (i < l.length) = true := decide_eq_true hlt
      have HI9 := Aside0.mk hlt
      have hi0 : (0 : Int) ≤ (i : Int) := by omega
      have hi1 : (i : Int) < (l.length : Int) := by omega
      have HT : Aside0 (b0 ++ rowsB ((l.take (i + 1)).map (fun x => [x])) = b0 ++ rowsB ((l.take i).map (fun x => [x])) ++ nums8 ([l.getD i 0])) := ⟨by rw [map_take (fun x => [x]) l hlt 0, rowsB_snoc, List.append_assoc]⟩
      have HLE : Aside0 ((b0 ++ rowsB ((l.take i).map (fun x => [x]))).length + 8 * ([l.getD i 0]).length ≤ 1000000000) := ⟨by
        have h1 := rowsB_len 1 ((l.take i).map (fun x => [x])) (fun y hy => HM.out y (by obtain ⟨z, hz, rfl⟩ := List.mem_map.1 hy; exact List.mem_map.2 ⟨z, List.mem_of_mem_take hz, rfl⟩))
        have h2 := HL2.out
        have h3 : ([l.getD i 0]).length ≤ 1 := Nat.le_refl _
        have h4 : ((l.take i).map (fun x => [x])).length ≤ l.length := by simp; omega
        have h5 : 8 * 1 * ((l.take i).map (fun x => [x])).length ≤ 8 * 1 * 60000 := Nat.mul_le_mul_left _ (by omega)
        rw [List.length_append]; omega⟩
      obtain ⟨ad, e, x0⟩ := Kd.at_int (Kd.C_below HC.out HW.out.at) (i : Int) hi0 hi1
      subst e
      rw [Int.toNat_natCast] at x0
      have er : rd l (i : Int) = l.getD i 0 := by unfold rd; rw [Int.toNat_natCast]
      rw [er] at x0
      generalize l.getD i 0 = x at x0 HT HLE
      clear er hin hlt
      go_wp2_with (first
        | (go_at_call 27; (with_reducible refine (enc27 x _).mono ?_); rintro e w22 ⟨⟨A5, c5, rfl, hu⟩, hb⟩; have n0_ := Aside0.mk (HW.out.below hb); have n1_ := Aside0.mk (HF.out.then_ (Fr.of_below hb _)); have HI : Aside0 (IL w0 w22 A5 1 c5 [x]) := ⟨⟨rfl, .inr (Kd.R_lower hu (below_size HW.out.at))⟩⟩; clear HW HF hu hb; have HW := n0_; have HF := n1_; clear n0_ n1_)
        | (go_at_call 25; (with_reducible refine (nums_any HW.out HI.out HLE.out).mono ?_); rintro e w25 ⟨rfl, hh, hf⟩; have n0_ := Aside0.mk hh; have n2_ := Aside0.mk (HF.out.then_ hf); clear HW HF hh hf; have HW := n0_; have HF := n2_; clear n0_ n2_))
      go_roundw
      case rel => exact ⟨i + 1, by go_num, HI9.out, ⟨by rw [HT.out]; exact HW.out⟩, HF⟩
      case measure => have := HI9.out; simp [intOf]; omega
    · have hltb : decide (i < l.length) = false := decide_eq_false hlt
      obtain rfl : i = l.length := by omega
      go_wp2_with (fail)
      go_end0
      refine ⟨rfl, ?_, HF.out⟩
      have e := HW.out
      rw [List.take_of_length_le (Nat.le_refl _), ← EB.out, List.append_assoc] at e
      unfold layB
      rw [HLen.out]
      exact e

set_option maxHeartbeats 8000000 in
set_option maxRecDepth 100000 in
theorem lay28_any {w0 w : World} {g : Nat} {bs : List Int} {A : Option Addr} {c : Nat} {l : List (List Int)} (h : WB w0 w g bs) (hl : Kd.C (Kd.slice 3 (Kd.int .i64)) w0 A l.length l) (hn : l.length ≤ 60000) (hm : ∀ x ∈ l, x.length ≤ 6) (hb : bs.length ≤ 500000000) :
    Calls Try.prog 28 #[.pointer (some ⟨g, 0, none⟩), .slice A l.length c, .func (.func 29) #[] #[]] w fun e w' => e = .returned (.tuple #[]) ∧ WB w0 w' g (bs ++ layB (l)) ∧ Fr [49, 5] w w' := by
  have HW := Aside0.mk h
  have HC := Aside0.mk hl
  have HF := Aside0.mk (Fr.of_below (Below.refl w.heap.size w) [49, 5])
  have HL := Aside0.mk hb
  have HM : Aside0 (∀ x ∈ l, x.length ≤ 6) := ⟨hm⟩
  have HLen : Aside0 ((l).length = l.length) := ⟨by simp⟩
  have hn9 : (l.length : Int) ≤ 60000 := by omega
  have HU : Aside0 (0 ≤ (l.length : Int) ∧ (l.length : Int) < 18446744073709551616) := ⟨by omega⟩
  have HL1 : Aside0 (bs.length ≤ 1000000000) := ⟨by omega⟩
  clear h hl hn hb hm
  go_enter Try.func28, Try.ntmps28
  go_upto_region 1 with (first | (go_at_call 59; (with_reducible refine (low2 (l.length : Int) HW.out HU.out HL1.out).mono ?_); rintro e w59 ⟨rfl, hh, hf⟩; have n0_ := Aside0.mk hh; have n2_ := Aside0.mk (HF.out.then_ hf); clear HW HF hh hf; have HW := n0_; have HF := n2_; clear n0_ n2_))
  generalize eb : bs ++ le 2 (l.length : Int) = b0 at HW
  have EB := Aside0.mk eb
  have HL2 : Aside0 (b0.length ≤ 500000002) := ⟨by rw [← eb, List.length_append, le_len]; have := HL.out; omega⟩
  clear eb HL1 HU
  go_wp2_with (fail)
  go_loopw [15] (fun v15 wx => ∃ i : Nat, v15 = .int .i64 (i : Int) ∧ i ≤ l.length ∧ Aside0 (WB w0 wx g (b0 ++ rowsB ((l.take i)))) ∧ Aside0 (Fr [49, 5] w wx)) (fun v15 _ => l.length - (intOf v15).toNat)
  case atStart => exact ⟨0, rfl, Nat.zero_le _, ⟨by rw [List.take_zero]; show WB _ _ _ (b0 ++ []); rw [List.append_nil]; exact HW.out⟩, HF⟩
  case round =>
    clear HW HF
    obtain ⟨i, rfl, hin, HW, HF⟩ := hrel
    by_cases hlt : i < l.length
    · have hltb : decide (i < l.length) = true := decide_eq_true hlt
      have HI9 := Aside0.mk hlt
      have hi0 : (0 : Int) ≤ (i : Int) := by omega
      have hi1 : (i : Int) < (l.length : Int) := by omega
      have HT : Aside0 (b0 ++ rowsB (l.take (i + 1)) = b0 ++ rowsB (l.take i) ++ nums8 (l.getD i [])) := ⟨by rw [show l.take (i + 1) = l.take i ++ [l.getD i []] by have := map_take (fun x => x) l hlt []; simpa using this, rowsB_snoc, List.append_assoc]⟩
      have HLE : Aside0 ((b0 ++ rowsB (l.take i)).length + 8 * (l.getD i []).length ≤ 1000000000) := ⟨by
        have h1 := rowsB_len 6 (l.take i) (fun y hy => HM.out y (List.mem_of_mem_take hy))
        have h2 := HL2.out
        have h3 : (l.getD i []).length ≤ 6 := HM.out _ (by rw [List.getD_eq_getElem?_getD, List.getElem?_eq_getElem hlt]; exact List.getElem_mem hlt)
        have h4 : (l.take i).length ≤ l.length := by simp; omega
        have h5 : 8 * 6 * (l.take i).length ≤ 8 * 6 * 60000 := Nat.mul_le_mul_left _ (by omega)
        rw [List.length_append]; omega⟩
      obtain ⟨ad, A0, c0, e, x0, _, hx1⟩ := at_L1 (Kd.C_below HC.out HW.out.at) (i : Int) hi0 hi1
      obtain ⟨ad', A0', c0', e', x0', _, hx1'⟩ := at_L1 HC.out (i : Int) hi0 hi1
      rw [e'] at e
      obtain rfl := Option.some.inj e
      have hy := (pw_cell_below HW.out.at x0').symm.trans x0
      obtain ⟨rfl, rfl⟩ : A0' = A0 ∧ c0' = c0 := by simpa using hy
      subst e'
      rw [Int.toNat_natCast] at x0
      have er : rd_L1 l (i : Int) = l.getD i [] := by unfold rd_L1; rw [Int.toNat_natCast]
      rw [er] at x0 hx1'
      have HI : Aside0 (IL w0 wr A0' (l.getD i []).length c0' (l.getD i [])) := ⟨⟨rfl, .inl hx1'⟩⟩
      generalize l.getD i [] = x at x0 HT HLE HI
      clear er hin hlt hx1 hx1' hy x0'
      go_wp2_with (first
        | (go_at_call 29; (with_reducible refine (enc29 _ _).mono ?_); rintro e w22 ⟨rfl, rfl⟩)
        | (go_at_call 25; (with_reducible refine (nums_any HW.out HI.out HLE.out).mono ?_); rintro e w25 ⟨rfl, hh, hf⟩; have n0_ := Aside0.mk hh; have n2_ := Aside0.mk (HF.out.then_ hf); clear HW HF hh hf; have HW := n0_; have HF := n2_; clear n0_ n2_))
      go_roundw
      case rel => exact ⟨i + 1, by go_num, HI9.out, ⟨by rw [HT.out]; exact HW.out⟩, HF⟩
      case measure => have := HI9.out; simp [intOf]; omega
    · have hltb : decide (i < l.length) = false := decide_eq_false hlt
      obtain rfl : i = l.length := by omega
      go_wp2_with (fail)
      go_end0
      refine ⟨rfl, ?_, HF.out⟩
      have e := HW.out
      rw [List.take_of_length_le (Nat.le_refl _), ← EB.out, List.append_assoc] at e
      unfold layB
      exact e
/-! A program, in memory. -/
structure Pg where
  a : List S44
  b : List S46
  c : List S56
  d : Int
  e : List Int
  f : List Int
  g : List (List Int)
  h : List S65
  i : Int
/-- Its lists, read. -/
structure PX (w : World) (A0 : Option Addr) (c0 : Nat) (A1 : Option Addr) (c1 : Nat) (A2 : Option Addr) (c2 : Nat) (A4 : Option Addr) (c4 : Nat) (A5 : Option Addr) (c5 : Nat) (A6 : Option Addr) (c6 : Nat) (A7 : Option Addr) (c7 : Nat) (p : Pg) : Prop where
  a : p.a.length ≤ c0 ∧ Kd.C k44 w A0 p.a.length p.a
  b : p.b.length ≤ c1 ∧ Kd.C k46 w A1 p.b.length p.b
  c : p.c.length ≤ c2 ∧ Kd.C k56 w A2 p.c.length p.c
  e : p.e.length ≤ c4 ∧ Kd.C (Kd.int .i64) w A4 p.e.length p.e
  f : p.f.length ≤ c5 ∧ Kd.C (Kd.int .i64) w A5 p.f.length p.f
  g : p.g.length ≤ c6 ∧ Kd.C (Kd.slice 3 (Kd.int .i64)) w A6 p.g.length p.g
  h : p.h.length ≤ c7 ∧ Kd.C k65 w A7 p.h.length p.h
abbrev pv (A0 : Option Addr) (c0 : Nat) (A1 : Option Addr) (c1 : Nat) (A2 : Option Addr) (c2 : Nat) (A4 : Option Addr) (c4 : Nat) (A5 : Option Addr) (c5 : Nat) (A6 : Option Addr) (c6 : Nat) (A7 : Option Addr) (c7 : Nat) (p : Pg) : Array Value :=
  #[.slice A0 p.a.length c0, .slice A1 p.b.length c1, .slice A2 p.c.length c2, .int .i64 p.d, .slice A4 p.e.length c4, .slice A5 p.f.length c5, .slice A6 p.g.length c6, .slice A7 p.h.length c7, .int .i64 p.i]
def PR (w : World) (v : Value) (p : Pg) : Prop := ∃ A0 c0 A1 c1 A2 c2 A4 c4 A5 c5 A6 c6 A7 c7, v = .agg (pv A0 c0 A1 c1 A2 c2 A4 c4 A5 c5 A6 c6 A7 c7 p) ∧ PX w A0 c0 A1 c1 A2 c2 A4 c4 A5 c5 A6 c6 A7 c7 p
theorem PX.below {w w' : World} {A0 A1 A2 A4 A5 A6 A7 : Option Addr} {c0 c1 c2 c4 c5 c6 c7 : Nat} {p : Pg} (h : PX w A0 c0 A1 c1 A2 c2 A4 c4 A5 c5 A6 c6 A7 c7 p) (hb : Below w.heap.size w w') : PX w' A0 c0 A1 c1 A2 c2 A4 c4 A5 c5 A6 c6 A7 c7 p :=
  ⟨⟨h.a.1, Kd.C_below h.a.2 hb⟩, ⟨h.b.1, Kd.C_below h.b.2 hb⟩, ⟨h.c.1, Kd.C_below h.c.2 hb⟩, ⟨h.e.1, Kd.C_below h.e.2 hb⟩, ⟨h.f.1, Kd.C_below h.f.2 hb⟩, ⟨h.g.1, Kd.C_below h.g.2 hb⟩, ⟨h.h.1, Kd.C_below h.h.2 hb⟩⟩
theorem PR.below {w w' : World} {v : Value} {p : Pg} (h : PR w v p) (hb : Below w.heap.size w w') : PR w' v p := by
  obtain ⟨A0, c0, A1, c1, A2, c2, A4, c4, A5, c5, A6, c6, A7, c7, e, x⟩ := h
  exact ⟨A0, c0, A1, c1, A2, c2, A4, c4, A5, c5, A6, c6, A7, c7, e, x.below hb⟩
/-- May the lists be so long? -/
def oddB (m : Nat) (g : List (List Int)) : Bool := g.any (fun x => decide (x.length ≠ m))
def Pg.may (p : Pg) : Bool := decide (p.a.length ≤ 5000) && decide (1 ≤ p.b.length) && decide (p.b.length ≤ 13) && decide (p.c.length ≤ 16) && decide (p.e.length ≤ 8) && decide (p.f.length ≤ 6) && decide (p.g.length ≤ 1000) && decide (p.h.length ≤ 1000) && !oddB p.f.length p.g
set_option maxHeartbeats 2000000 in
theorem odd_any {w : World} {b n m c c5 : Nat} {A A5 : Option Addr} {t : Bool} (ht : decide (n ≠ m) = t) (hc : w.cell? ⟨b, 5, none⟩ = some (.slice A5 m c5)) : Calls Try.prog 35 #[.slice A n c, .pointer (some ⟨b, 0, none⟩)] w fun e w' => e = .returned (.bool t) ∧ w = w' := by
  subst ht
  go_enter Try.func35, Try.ntmps35
  by_cases q : n = m
  · subst q
    have q1 : (((n : Nat) : Int) == (n : Int)) = true := beq_self_eq_true _
    go_wp2_with (fail)
    go_ret
    exact ⟨by simp, rfl⟩
  · have q1 : (((n : Nat) : Int) == (m : Int)) = false := beq_eq_false_iff_ne.mpr (by omega)
    have q2 : (n == m) = false := beq_eq_false_iff_ne.mpr q
    have q3 : decide (n = m) = false := decide_eq_false q
    go_wp2_with (fail)
    go_ret
    exact ⟨by simp [q]; omega, rfl⟩
set_option maxHeartbeats 4000000 in
set_option maxRecDepth 100000 in
theorem index_any {w : World} {b m c c5 : Nat} {A A5 : Option Addr} {g : List (List Int)} (hc : w.cell? ⟨b, 5, none⟩ = some (.slice A5 m c5)) (hg : Kd.C (Kd.slice 3 (Kd.int .i64)) w A g.length g) (hn : g.length ≤ 1000) :
    Calls Try.prog 60 #[.slice A g.length c, .func (.func 35) #[] #[.pointer (some ⟨b, 0, none⟩)]] w fun e w' => (∃ r : Int, e = .returned (.int .i64 r) ∧ (decide (0 ≤ r) = oddB m g)) ∧ w = w' := by
  have HC := Aside0.mk hc
  have HG := Aside0.mk hg
  have hn9 : (g.length : Int) ≤ 1000 := by omega
  clear hc hg hn
  go_enter Try.func60, Try.ntmps60
  go_wp2_with (fail)
  go_loopw [8] (fun v8 wx => ∃ i : Nat, v8 = .int .i64 (i : Int) ∧ i ≤ g.length ∧ Aside0 (oddB m (g.take i) = false) ∧ w = wx) (fun v8 _ => g.length - (intOf v8).toNat)
  case atStart => exact ⟨0, rfl, Nat.zero_le _, ⟨rfl⟩, rfl⟩
  case round =>
    obtain ⟨i, rfl, hin, HT, rfl⟩ := hrel
    by_cases hlt : i < g.length
    · have hltb : decide (i < g.length) = true := decide_eq_true hlt
      have HI9 := Aside0.mk hlt
      have hi0 : (0 : Int) ≤ (i : Int) := by omega
      have hi1 : (i : Int) < (g.length : Int) := by omega
      obtain ⟨ad, A0, c0, e, x0, _, _⟩ := at_L1 HG.out (i : Int) hi0 hi1
      subst e
      rw [Int.toNat_natCast] at x0
      have er : rd_L1 g (i : Int) = g[i] := by unfold rd_L1; rw [Int.toNat_natCast, List.getD_eq_getElem?_getD, List.getElem?_eq_getElem hlt]; rfl
      rw [er] at x0
      have hS : Aside0 (oddB m (g.take (i + 1)) = decide (g[i].length ≠ m)) := ⟨by rw [List.take_add_one, List.getElem?_eq_getElem hlt]; unfold oddB; rw [List.any_append]; have h := HT.out; unfold oddB at h; rw [h]; simp⟩
      have hM : Aside0 (g[i].length ≠ m → oddB m g = true) := ⟨fun q => List.any_eq_true.2 ⟨g[i], List.getElem_mem hlt, decide_eq_true q⟩⟩
      generalize g[i].length = n at x0 hS hM
      clear er hin hlt
      by_cases q : n = m
      · have HD : Aside0 (decide (n ≠ m) = false) := ⟨decide_eq_false (fun h => h q)⟩
        clear q
        go_wp2_with (first
          | (go_at_call 35; (with_reducible refine (odd_any (n := n) HD.out HC.out).mono ?_); rintro e w16 ⟨rfl, rfl⟩))
        go_roundw
        case rel => exact ⟨i + 1, by go_num, HI9.out, ⟨by rw [hS.out]; exact HD.out⟩, by first | rfl | trivial⟩
        case measure => have := HI9.out; simp [intOf]; omega
      · have HQ := Aside0.mk q
        have HD : Aside0 (decide (n ≠ m) = true) := ⟨decide_eq_true q⟩
        go_wp2_with (first
          | (go_at_call 35; (with_reducible refine (odd_any (n := n) HD.out HC.out).mono ?_); rintro e w16 ⟨rfl, rfl⟩))
        go_ret
        exact ⟨⟨_, rfl, by rw [hM.out HQ.out]; exact decide_eq_true (by omega)⟩, rfl⟩
    · have hltb : decide (i < g.length) = false := decide_eq_false hlt
      obtain rfl : i = g.length := by omega
      go_wp2_with (fail)
      go_ret
      refine ⟨⟨_, rfl, ?_⟩, rfl⟩
      have e := HT.out
      rw [List.take_length] at e
      rw [e]; rfl
set_option maxHeartbeats 2000000 in
theorem contains_any {w : World} {b m c c5 : Nat} {A A5 : Option Addr} {g : List (List Int)} (hc : w.cell? ⟨b, 5, none⟩ = some (.slice A5 m c5)) (hg : Kd.C (Kd.slice 3 (Kd.int .i64)) w A g.length g) (hn : g.length ≤ 1000) :
    Calls Try.prog 34 #[.slice A g.length c, .func (.func 35) #[] #[.pointer (some ⟨b, 0, none⟩)]] w fun e w' => e = .returned (.bool (oddB m g)) ∧ w = w' := by
  have H := Aside0.mk (index_any (c := c) hc hg hn)
  clear hc hg hn
  go_enter Try.func34, Try.ntmps34
  go_wp2_with (first | (go_at_call 60; (with_reducible refine H.out.mono ?_); rintro e w' ⟨⟨r, rfl, hr⟩, rfl⟩; have HR := Aside0.mk hr; clear hr))
  go_ret
  exact ⟨by rw [← HR.out]; rfl, rfl⟩

end Go.Proofs.Ytdgaklldijkoaaa.PCode
