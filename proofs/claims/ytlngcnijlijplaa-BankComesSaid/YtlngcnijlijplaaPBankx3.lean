-- Written by a program of this session (over the kit's printer): not typed by hand.
import Derived.Test.YtlngcnijlijplaaPBankx0
import Derived.Test.YtlngcnijlijplaaPBankx2
import Derived.RangeFuncNested
import Derived.RangeFuncBound
import Derived.RangeFuncCalls
import Derived.RangeFuncLeaves
import Derived.RangeFuncFrom
import Derived.RangeFuncBox
import Derived.Shelf.Abstract
import Derived.Shelf.RegionOpen
import Derived.OwnWalkIn
import Derived.TacticsInMore
import Derived.LoopNIn
import Derived.LoopIn
namespace Go.Proofs.Ytlngcnijlijplaa.PBank
open Go.RowKit Go.Proofs.YtlngcnijlijplaaW.PrintWords Go.Proofs.YtlngcnijlijplaaW.PrintLast Go.Proofs.YtlngcnijlijplaaW.PrintMore
attribute [local go_sem] max2_int min2_int max_two min_two max_three min_three max_four min_four   -- for this text's walks alone
set_option linter.unusedVariables false
set_option linter.unusedSimpArgs false

/-! ### units_Fits: function 27 -/
section
open Go.Shelf
attribute [local go_sem] Oper.semAt_some
/-- Each of the pairs so far is in order. -/
def units_Fits.Good (pre : List (Int × Int)) : Prop := pre.all (fun y => decide (y.1 ≤ y.2)) = true
theorem units_Fits.Good.snoc {pre : List (Int × Int)} {x : Int × Int} (h : units_Fits.Good pre) (hx : x.1 ≤ x.2) : units_Fits.Good (pre ++ [x]) := by
  unfold units_Fits.Good at *
  rw [List.all_append, h]; simpa using hx
/-- Whether each is at most the other one. -/
def units_Fits.f (l0 : List Int) (l1 : List Int) : Option (Bool) := some ((l0.zip l1).all (fun x => decide (x.1 ≤ x.2)) && decide (l0.length = l1.length))
set_option maxRecDepth 100000 in
set_option maxHeartbeats 4000000 in
theorem units_Fits.calls (A0 : Option Addr) (k0 : Nat) (l0 : List Int) (A1 : Option Addr) (k1 : Nat) (l1 : List Int) (r : Bool) (w : World) (hr0 : Kd.C (Kd.int .i64) w A0 l0.length l0) (hc0 : l0.length ≤ k0) (hr1 : Kd.C (Kd.int .i64) w A1 l1.length l1) (hc1 : l1.length ≤ k1) (h : units_Fits.f l0 l1 = some r) :
    Calls Try.prog 27 #[.slice A0 l0.length k0, .slice A1 l1.length k1] w fun e w' => e = .returned (.bool r) ∧ Below w.heap.size w w' := by
  have HR0 := Aside0.mk hr0
  have HR1 := Aside0.mk hr1
  have H := Aside0.mk (Option.some.inj h)
  clear hr0 hr1 hc0 hc1 h
  refine (callsIn_wide (n := 3)).1 ?_
  refine callsIn_of_wp_marks Try.func27 rfl trivial ?_ rfl
  simp only [Try.ntmps27, List.size_toArray, List.length_cons, List.length_nil, Nat.reduceAdd, Nat.reduceSub, Array.replicate_succ, Array.replicate_zero, List.push_toArray, List.append_toArray, List.nil_append, List.cons_append]
  have hf1 : Fence.wide.fn 34 := trivial
  gi_wp2_with (gi_at_call 34; (with_reducible refine (units_pairs.make _ _ _ _ _ _ _ _).mono ?_); rintro e w' ⟨rfl, rfl⟩)
  have b0 := units_pairs.cell_new w (.bool false) 4
  have b1 := units_pairs.cell_new (w.alloc (.cells #[.bool false] 4)) (.slice A0 l0.length k0) 22
  have b2 := units_pairs.cell_new ((w.alloc (.cells #[.bool false] 4)).alloc (.cells #[.slice A0 l0.length k0] 22)) (.slice A1 l1.length k1) 22
  simp only [World.size_alloc] at b1 b2
  have hB0 : Below w.heap.size w (((w.alloc (.cells #[.bool false] 4)).alloc (.cells #[.slice A0 l0.length k0] 22)).alloc (.cells #[.slice A1 l1.length k1] 22)) := (((Below.refl _ w).alloc (Nat.le_refl _) _).alloc (by simp) _).alloc (by simp; omega) _
  have d0 := units_pairs.cell_old (.cells #[.slice A1 l1.length k1] 22) (units_pairs.cell_old (.cells #[.slice A0 l0.length k0] 22) b0.1)
  have f0 := units_pairs.frozen_old (.cells #[.slice A1 l1.length k1] 22) (units_pairs.cell_old (.cells #[.slice A0 l0.length k0] 22) b0.1) (units_pairs.frozen_old (.cells #[.slice A0 l0.length k0] 22) b0.1 b0.2)
  have d1 := units_pairs.cell_old (.cells #[.slice A1 l1.length k1] 22) b1.1
  have d2 := b2.1
  generalize hW : (((w.alloc (.cells #[.bool false] 4)).alloc (.cells #[.slice A0 l0.length k0] 22)).alloc (.cells #[.slice A1 l1.length k1] 22)) = W0 at hB0 d0 f0 d1 d2 ⊢
  have hsz : W0.heap.size = w.heap.size + 3 := by rw [← hW]; simp
  clear hW b0 b1 b2
  refine wpIn_rangeFunc_ownF rfl (by omega) (gf := 36) (lb := #[.pointer (some ⟨w.heap.size + 1, 0, none⟩), .pointer (some ⟨w.heap.size + 1 + 1, 0, none⟩)]) rfl trivial (enters_of Try.func36 (by kernel_rfl) rfl)
    (units_pairs.iter 2 (w.heap.size + 1) (w.heap.size + 1 + 1) w A0 k0 l0 A1 k1 l1 HR0.out HR1.out W0 hB0 (by omega) (by omega) d1 d2) (fun h k => h.trans k)
    (fun W l o o' hl ho hc hw => units_pairs.Kp_put W o' (by omega) (by omega) (by omega) ho hc hw) (Below.refl _ _) (fun _ => rfl)
    (fun pre W => (units_Fits.Good pre ∧ W.cell? ⟨w.heap.size, 0, none⟩ = some (.bool false) ∧ W.frozen? ⟨w.heap.size, 0, none⟩ = false) ∧ Below w.heap.size w W)
    (fun c pre W => (c = .ret ∧ Aside0 (∃ y ∈ pre, y.2 < y.1) ∧ W.cell? ⟨w.heap.size, 0, none⟩ = some (.bool false)) ∧ Below w.heap.size w W)
    (OwnFrom.and (Own.from (fun s A B row hs hg hr => ⟨hs.1, Go.cell_kept hs.2.1 hg hr, (Go.frozen_kept hs.2.1 hg hr).trans hs.2.2⟩) _) (ownFrom_below (Nat.le_refl _) (by omega)))
    (fun c => OwnFrom.and (Own.from (fun s A B row hs hg hr => ⟨hs.1, hs.2.1, Go.cell_kept hs.2.2 hg hr⟩) _) (ownFrom_below (Nat.le_refl _) (by omega)))
    ⟨⟨rfl, d0, f0⟩, hB0⟩
    (fun x => { tmps := #[.slice A0 l0.length k0, .slice A1 l1.length k1, undef, undef, .pointer (some ⟨w.heap.size, 0, none⟩), .int .i64 x.1, .int .i64 x.2, .slice A0 l0.length k0, .slice A1 l1.length k1,
          .func (.func 36) #[] #[.pointer (some ⟨w.heap.size + 1, 0, none⟩), .pointer (some ⟨w.heap.size + 1 + 1, 0, none⟩)], .int .i64 x.1, .int .i64 x.2, undef, undef, undef, undef, undef, undef, undef, undef], defers := [] }) ?assign ?body ?done ?stop
  case assign =>
    intro l x W K hK
    gi_wp2
    exact hK
  case body =>
    rintro l pre x W ⟨⟨hp, hcr, hfr⟩, hB⟩ _
    by_cases hx : x.2 < x.1
    · have HX := Aside0.mk hx
      gi_wp2
      exact ⟨KeepsOthers.setCell _ _ _, ⟨rfl, ⟨⟨x, List.mem_append.2 (.inr (by simp)), HX.out⟩⟩, World.cell?_setCell_same' _ _ _ (by rw [hcr]; rfl)⟩, hB.setCell (p := ⟨w.heap.size, 0, none⟩) (by simp) _⟩
    · have HX : Aside0 (x.1 ≤ x.2) := ⟨by omega⟩
      gi_wp2
      exact ⟨KeepsOthers.refl _, units_pairs.Kp.refl _, ⟨hp.snoc HX.out, hcr, hfr⟩, hB⟩
  case done =>
    rintro D ys W hD rfl ⟨⟨hall, hcr, hfr⟩, hB⟩ hK
    gi_wp2
    have hK' := (KeepsOthers.setCell W ⟨w.heap.size, 0, none⟩ (.bool (((l0.length : Int)) == (l1.length : Int)))).same D _ hK rfl
    refine ⟨by simp, .inl ⟨_, _, rfl, run_takeDeferred hK', ?_⟩⟩
    have hc5 := Go.cell_kept (World.cell?_setCell_same' W ⟨w.heap.size, 0, none⟩ (.bool (((l0.length : Int)) == (l1.length : Int))) (by rw [hcr]; rfl)) (grownBy_putObj' _ D (.deferred none)) (fun r e => by cases e; exact ⟨_, hK', rfl⟩)
    refine ⟨.bool (((l0.length : Int)) == (l1.length : Int)), ?_, ?_, (hB.setCell (p := ⟨w.heap.size, 0, none⟩) (by simp) _).trans (belowK_b (w := w) (Nat.le_refl _) _ D _ _ (by omega) hK' rfl rfl)⟩
    · simp [results, Try.f27, go_sem, hc5]
    · rw [← H.out, show (l0.zip l1).all (fun y => decide (y.1 ≤ y.2)) = true from hall, Bool.true_and]
      congr 2
      rw [Bool.eq_iff_iff]; simp; omega
  case stop =>
    rintro D c pre W hD hpre ⟨⟨rfl, hex, hcr⟩, hB⟩ hK
    gi_wp2
    refine ⟨by simp, .inl ⟨_, _, rfl, run_takeDeferred hK, ?_⟩⟩
    have hc5 := Go.cell_kept hcr (grownBy_putObj' _ D (.deferred none)) (fun r e => by cases e; exact ⟨_, hK, rfl⟩)
    refine ⟨.bool false, ?_, ?_, hB.trans (belowK_b (w := w) (Nat.le_refl _) W D _ _ (by omega) hK rfl rfl)⟩
    · simp [results, Try.f27, go_sem, hc5]
    · obtain ⟨y, hy, hlt⟩ := hex.out
      have : (l0.zip l1).all (fun x => decide (x.1 ≤ x.2)) = false := by
        rw [List.all_eq_false]
        exact ⟨y, hpre.subset hy, by simpa using hlt⟩
      rw [← H.out, this, Bool.false_and]
end

end Go.Proofs.Ytlngcnijlijplaa.PBank
