-- Written by a program of this session (over the kit's printer): not typed by hand.
import Derived.Test.YtdbcmmckjlbffaaPHoltOx0
import Derived.Test.YtdbcmmckjlbffaaPHoltOx1
import Derived.Test.YtdbcmmckjlbffaaPHoltOx2
import Derived.Maps.OwnSet
import Derived.WalkMore
import Derived.Lib.SliceRun
import Derived.StillTailTactics
import Derived.Laws.EntriesVeiled
import Derived.RangeFuncNested
import Derived.RangeFuncBound
import Derived.RangeFuncCalls
import Derived.RangeFuncLeaves
import Derived.RangeFuncFrom
import Derived.RangeFuncBox
import Derived.Shelf.Abstract
import Derived.Shelf.RegionOpen
import Derived.OwnWalkIn
import Derived.TacticsInMore
import Derived.LoopNIn
import Derived.LoopIn
import Derived.StillTailTactics
import Derived.RangeFuncNested
import Derived.RangeFuncBound
import Derived.RangeFuncCalls
import Derived.RangeFuncLeaves
import Derived.RangeFuncFrom
import Derived.RangeFuncBox
import Derived.Shelf.Abstract
import Derived.Shelf.RegionOpen
import Derived.OwnWalkIn
import Derived.TacticsInMore
import Derived.LoopNIn
import Derived.LoopIn
namespace Go.Proofs.Ytdbcmmckjlbffaa.PHoltO
open Go.RowKit Go.Proofs.YtdbcmmckjlbffaaW.PrintWords Go.Proofs.YtdbcmmckjlbffaaW.PrintLast Go.Proofs.YtdbcmmckjlbffaaW.PrintMore
attribute [local go_sem] max2_int min2_int max_two min_two max_three min_three max_four min_four   -- for this text's walks alone
set_option linter.unusedVariables false
set_option linter.unusedSimpArgs false

/-! ### holt_Stuck: function 13 -/
/-! ### hadd: function 25 -/
def hadd.l0 : Nat → List Int → List Int → Int → Int → Option (List Int)
  | 0, _, _, _, _ => none
  | k + 1, x0, x6, x7, x8 => if x8 < x7 then (if 0 ≤ x8 then (if x8 < (x6.length : Int) then (if x8 < (x0.length : Int) then (hadd.l0 k (x0.set (x8 : Int).toNat (wrap64 ((rd x0 x8) + (rd x6 x8)))) x6 x7 (wrap64 (x8 + 1))) else (none)) else (none)) else (none)) else (some x0)
def hadd.f (k : Nat) (l0 : List Int) (l1 : List Int) : Option (List Int) := hadd.l0 k l0 l1 (l1.length : Int) 0
theorem hadd.mono_l : ∀ k, (∀ y0 y1 y2 y3, LeO (hadd.l0 k y0 y1 y2 y3) (hadd.l0 (k + 1) y0 y1 y2 y3))
  | 0 => fun _ _ _ _ r h => by simp [hadd.l0] at h
  | k + 1 => by
    have ih0 := hadd.mono_l k
    · intro y0 y1 y2 y3
      unfold hadd.l0
      repeat' first
      | (with_reducible exact ih0 _ _ _ _)
      | (with_reducible exact LeO.refl _)
      | (with_reducible exact LeO.none _)
      | (with_reducible refine LeO.ite ?_ ?_)
      | (with_reducible refine LeO.bind ?_ (fun _ => ?_))
      | exact ih0 _ _ _ _
      | exact LeO.none _
      | refine LeO.ite ?_ ?_
      | refine LeO.bind ?_ (fun _ => ?_)
theorem hadd.mono : ∀ a0 a1 k, LeO (hadd.f k a0 a1) (hadd.f (k + 1) a0 a1) := by
  intro a0 a1 k
  have ih0 := hadd.mono_l k
  unfold hadd.f
  repeat' first
      | (with_reducible exact ih0 _ _ _ _)
      | (with_reducible exact LeO.refl _)
      | (with_reducible exact LeO.none _)
      | (with_reducible refine LeO.ite ?_ ?_)
      | (with_reducible refine LeO.bind ?_ (fun _ => ?_))
      | exact ih0 _ _ _ _
      | exact LeO.none _
      | refine LeO.ite ?_ ?_
      | refine LeO.bind ?_ (fun _ => ?_)
set_option maxHeartbeats 8000000 in
set_option maxRecDepth 100000 in
theorem hadd.calls (k : Nat) (P0_ : Nat → Prop) (u9000_ : Value) (l0 : List Int) (A1 : Option Addr) (c1 : Nat) (l1 : List Int) (r : List Int) (w0 w : World) (hB : Below w0.heap.size w0 w) (ho0 : Kd.R (Kd.int .i64) 3 w w0.heap.size P0_ u9000_ l0) (hr1 : ∀ W_, Kept w W_ (fun k_ => P0_ k_) → Kd.C (Kd.int .i64) W_ A1 l1.length l1) (hc1 : l1.length ≤ c1) (h : hadd.f k l0 l1 = some r) :
    Calls Try.prog 25 #[u9000_, .slice A1 l1.length c1] w fun e w' => e = .returned (.tuple #[]) ∧ Kd.R (Kd.int .i64) 3 w' w0.heap.size (fun k_ => (P0_ k_ ∨ w.heap.size ≤ k_)) u9000_ r ∧ Below w0.heap.size w0 w' ∧ Kept w w' (fun k_ => P0_ k_) := by
  have HO0 := Aside0.mk (show Kd.R (Kd.int .i64) 3 w w0.heap.size (fun k_ => (P0_ k_ ∨ w.heap.size ≤ k_)) u9000_ l0 from Kd.R_mono ho0 (fun k_ hk => (.inl hk)))
  have HR1 := Aside0.mk hr1
  have HC1 := Aside0.mk hc1
  clear hr1 hc1
  have HK := Aside0.mk (Kept.refl w (fun k_ => P0_ k_))
  have HW0 := Aside0.mk hB.size
  have HB := Aside0.mk hB
  clear hB
  have H : (hadd.l0 k l0 l1 (l1.length : Int) 0) = some r := h
  clear h
  have H' := Aside0.mk H
  clear H
  go_enter Try.func25, Try.ntmps25
  go_wp2
  go_loopg [8] k (fun kq v8 w' => ∃ (x0_1 : List Int) (x8_1 : Int), v8 = .int .i64 x8_1 ∧ Aside0 (hadd.l0 kq x0_1 l1 (l1.length : Int) x8_1 = some r) ∧ Aside0 (kq ≤ k) ∧ Aside0 (Kd.R (Kd.int .i64) 3 w' w0.heap.size (fun k_ => (P0_ k_ ∨ w.heap.size ≤ k_)) u9000_ x0_1) ∧ Aside0 (Kept w w' (fun k_ => P0_ k_)) ∧ Aside0 (Below w0.heap.size w0 w'))
  case atStart => exact ⟨(l0), (0), (by first | rfl | (simp; done) | (simp [*]; done)), H', ⟨Nat.le_refl _⟩, ⟨by (with_reducible repeat (first | apply Kd.R_alloc | apply Kd.R_drewN | apply Kd.R_drew)); exact HO0.out⟩, ⟨by repeat (first | (with_reducible first | exact HK.out | apply Kept.alloc | apply Kept.drewN | apply Kept.drew) | exact HK.out)⟩, ⟨by repeat (first | (with_reducible first | exact HB.out | apply below_alloc | apply pw_below_drewN | apply below_drew1) | exact HB.out)⟩⟩
  case round =>
    clear H'
    try clear c1
    try clear c2
    try clear p2
    obtain ⟨x0_1, x8_1, rfl, HA, HK1, HO_0, HK, HB⟩ := hrel
    cases gk with
    | zero => exact absurd HA.out (by simp [hadd.l0])
    | succ k1 =>
      have H := HA.out
      clear HA
      simp only [hadd.l0] at H
      by_cases c3 : x8_1 < (l1.length : Int)
      · rw [if_pos c3] at H
        have c3b0 : decide (x8_1 < (l1.length : Int)) = true := decide_eq_true c3
        clear c3
        by_cases c4 : 0 ≤ x8_1
        · rw [if_pos c4] at H
          have c4b0 : decide (0 ≤ x8_1) = true := decide_eq_true c4
          clear c4
          by_cases c5 : x8_1 < (l1.length : Int)
          · rw [if_pos c5] at H
            have c5b0 : decide (x8_1 < (l1.length : Int)) = true := decide_eq_true c5
            clear c5
            by_cases c6 : x8_1 < (x0_1.length : Int)
            · rw [if_pos c6] at H
              have c6b0 : decide (x8_1 < (x0_1.length : Int)) = true := decide_eq_true c6
              clear c6
              obtain ⟨y114, hy114⟩ : ∃ y_ : List Int, y_ = (x0_1.set (x8_1 : Int).toNat (wrap64 ((rd x0_1 x8_1) + (rd l1 x8_1)))) := ⟨_, rfl⟩
              replace H : (hadd.l0 k1 y114 l1 (l1.length : Int) (wrap64 (x8_1 + 1))) = some r := by first | (rw [hy114]; with_reducible exact H) | (have H2_ := (Option.bind_some _ _).symm.trans H; rw [hy114]; with_reducible exact H2_) | (have H2_ := (Option.bind_some _ _).symm.trans H; with_reducible exact H2_) | with_reducible exact H | (rw [hy114]; exact H) | exact H
              have Ny114 := Aside0.mk hy114
              clear hy114
              have H' := Aside0.mk H
              clear H
              have p112 : 0 ≤ (x8_1 : Int) := of_decide_eq_true (by first | (with_reducible assumption) | assumption)
              have q112 : x8_1 < (l1.length : Int) := of_decide_eq_true (by first | (with_reducible assumption) | assumption)
              obtain ⟨ad112, e112, hx112_0⟩ := Kd.at_int (Kd.C_kept_now HR1.out HK.out) x8_1 p112 q112
              cases e112
              replace p112 := eq_true p112
              replace q112 := eq_true q112
              obtain ⟨Ao8, co8, eo8⟩ := Kd.R_slice HO_0.out
              subst eo8
              have p113 : 0 ≤ (x8_1 : Int) := of_decide_eq_true (by first | (with_reducible assumption) | assumption)
              have q113 : x8_1 < (x0_1.length : Int) := of_decide_eq_true (by first | (with_reducible assumption) | assumption)
              obtain ⟨ad113, e113, hx113_0⟩ := Kd.at_int (Kd.R_reads' HO_0.out).2.2 x8_1 p113 q113
              cases e113
              replace p113 := eq_true p113
              replace q113 := eq_true q113
              have p7 : 0 ≤ (x8_1 : Int) := of_decide_eq_true (by first | (with_reducible assumption) | assumption)
              have q7 : (x8_1 : Int) < ((x0_1.length : Int) : Int) := of_decide_eq_true (by first | (with_reducible assumption) | assumption)
              obtain ⟨go7, co7, eo7, gb7, gl7, cl7, HG7⟩ := Kd.R_form HO_0.out (by omega)
              (first | cases eo7 | (injection eo7 with ea_ en_ ec_; (first | subst ea_ | (injection ea_ with ea_; subst ea_)); subst ec_; clear en_))
              have GB7 := Aside0.mk gb7
              have GG7 := Aside0.mk HG7
              clear gb7 gl7 HG7
              have HMgo7 := Aside0.mk (show (P0_ go7 ∨ w.heap.size ≤ go7) from (HO_0.out.1 _ rfl))
              (first | simp only [add_plain] at hx113_0 | skip)
              obtain ⟨hx7_0, hf7_0⟩ := Kd.R_celln 0 HO_0.out (x8_1 : Int) p7 q7
              replace p7 := eq_true p7
              replace q7 := eq_true q7
              have HP9 := Kd.R_putg HO_0.out (x8_1 : Int) (wrap64 ((rd x0_1 x8_1) + (rd l1 x8_1)))
              go_wp2_with (first | ((with_reducible refine gate_store (t := 3) (p := 19) rfl ?_); refine store_event (t := 3) (p := 19) (v := ?vo_w10) (w1 := (wr.setCell ⟨go7, (x8_1 : Int).toNat, none⟩ (.int .i64 (wrap64 ((rd x0_1 x8_1) + (rd l1 x8_1)))))) ?hg ?ho ?hn ?hr ?_; (case ho => rfl); (case hg => rfl); (case hn => rfl); (case hr => first | (go_simp; done) | (go_simp; rfl)); intro w10 hw; have hg : wr.grownBy w10 (some go7) := (by rw [hw]; exact HP9.2); have hp_ : Kd.R (Kd.int .i64) 3 w10 w0.heap.size (fun k_ => (P0_ k_ ∨ w.heap.size ≤ k_)) (.slice (some ⟨go7, 0, none⟩) x0_1.length co8) y114 := (by rw [hw, Ny114.out]; exact HP9.1); clear HP9; have n0_ := Aside0.mk (hp_); have n1_ := Aside0.mk ((by rw [hw]; exact below_set (HB.out) GB7.out : Below w0.heap.size w0 w10)); have n2_ := Aside0.mk (Kept.of_grown (S := (fun k_ => P0_ k_)) hg (by repeat (first | (with_reducible first | exact HK.out | apply Kept.alloc | apply Kept.drewN | apply Kept.drew) | exact HK.out)) (fun k_ e_ => (HO_0.out.1 k_ e_))); clear HO_0; clear HB; clear HK; have HO_0 := n0_; have HB := n1_; have HK := n2_; clear n0_ n1_ n2_; clear hg hw hp_))
              go_roundg k1
              case measure => have := HK1.out; omega
              case rel => exact ⟨(y114), (wrap64 (x8_1 + 1)), (by first | rfl | (simp; done) | (simp [*]; done)), H', ⟨by have := HK1.out; omega⟩, ⟨by (with_reducible repeat (first | apply Kd.R_alloc | apply Kd.R_drewN | apply Kd.R_drew)); exact HO_0.out⟩, ⟨by repeat (first | (with_reducible first | exact HK.out | apply Kept.alloc | apply Kept.drewN | apply Kept.drew) | exact HK.out)⟩, ⟨by repeat (first | (with_reducible first | exact HB.out | apply below_alloc | apply pw_below_drewN | apply below_drew1) | exact HB.out)⟩⟩
            · rw [if_neg c6] at H
              exact absurd H (by simp)
          · rw [if_neg c5] at H
            exact absurd H (by simp)
        · rw [if_neg c4] at H
          exact absurd H (by simp)
      · rw [if_neg c3] at H
        have c3b0 : decide (x8_1 < (l1.length : Int)) = false := decide_eq_false c3
        clear c3
        obtain rfl := Option.some.inj H
        go_wp2
        first | go_end0 | ((try simp only [Exit.inBlock, Exit.then]); refine bodyPost_ret (results_none rfl _ _ _) rfl ?_)
        exact ⟨by first | rfl | (simp [errW_none, errW_some] <;> rfl) | (simp [*, errW_none, errW_some] <;> rfl), by (with_reducible repeat (first | apply Kd.R_alloc | apply Kd.R_drewN | apply Kd.R_drew)); exact HO_0.out, by repeat (first | (with_reducible first | exact HB.out | apply below_alloc | apply pw_below_drewN | apply below_drew1) | exact HB.out), by repeat (first | (with_reducible first | exact HK.out | apply Kept.alloc | apply Kept.drewN | apply Kept.drew) | exact HK.out)⟩
section
open Go.Shelf
attribute [local go_sem] Oper.semAt_some
/-! A region that draws its order, at the wide fence: its head only reads, its tail stands in one forced order ('wp_region_still_tail', inside the fence). -/
theorem units_pairs.opIn {n : Nat} {P : Program} {ops : Array Oper} {w : World} {Q' : Exit → Act → World → Prop} {i : Nat} {a : Act} {K : Act → Prop} {K' : Act → World → Prop} (h : ∀ a, K a → K' a w) (hh : stOp P ops w i K a) :
    wpOpIn Fence.wide n P ops Q' i K' a w := by
  unfold stOp at hh
  unfold wpOpIn
  split
  · rename_i ho; simp only [ho] at hh; exact h _ hh
  · rename_i o ho
    simp only [ho] at hh
    split
    · rename_i hw
      simp only [hw, if_true] at hh
      refine ⟨fun _ _ => trivial, ?_⟩
      unfold Oper.still at hh
      show Oper.uponIn _ _ _ _ _ _ _ ((execOp a.eval o).run P w)
      generalize (execOp a.eval o).run P w = r at *
      cases r with
      | ok x w' =>
        cases x <;> simp only [Oper.stillUpon] at hh <;> simp only [Oper.uponIn]
        case enter f args =>
          obtain ⟨rfl, v, hc, hn⟩ := hh
          refine ⟨fun h => by simp [Fence.wide] at h, callsIn_wide.2 (hc.mono fun e w'' he => ?_)⟩
          obtain ⟨he, hw⟩ := he
          subst he; subst hw
          exact h _ hn
        all_goals (obtain ⟨rfl, h2⟩ := hh; exact h _ h2)
      | halt x w' => simp only [Oper.stillUpon] at hh
    · rename_i hw; simp only [hw] at hh; exact ⟨fun _ _ => trivial, h _ hh⟩
theorem units_pairs.headIn {m n g : Nat} {P : Program} {ops : Array Oper} {md : Region.Mode} {w : World} {L : Array Bool → Act → Prop} {Q' : Exit → Act → World → Prop} (hL : ∀ listed a, L listed a → wpAnyIn Fence.wide m P md ops Q' g listed a w) :
    ∀ (f : Nat) (listed : Array Bool) (a : Act), wpAnyL P md ops w n L f listed a → wpAnyIn Fence.wide m P md ops Q' (f + g) listed a w
  | 0, listed, a, h => by rw [Nat.zero_add]; exact hL _ _ h
  | f + 1, listed, a, h => by
    rw [show f + 1 + g = (f + g) + 1 by omega]
    exact ⟨fun h0 => absurd h0 h.1, fun i hi => units_pairs.opIn (fun a' h' => units_pairs.headIn hL f _ a' h') (h.2 i hi).2⟩
theorem units_pairs.seqIn {m : Nat} {P : Program} {ops : Array Oper} {md : Region.Mode} {Q' : Exit → Act → World → Prop} : ∀ (l : List Oper) (k : Nat) (listed : Array Bool) (a : Act) (w : World), (∀ j, l[j]? = ops[k + j]?) →
    Region.seqB md ops l.length k listed = true → wpListIn Fence.wide m P ops Q' l a w → wpAnyIn Fence.wide m P md ops Q' l.length listed a w
  | [], _, _, _, _, _, hB, h => ⟨by simpa [Region.seqB] using hB, h⟩
  | o :: l, k, listed, a, w, hl, hB, h => by
    have h0 : ops[k]? = some o := by simpa using (hl 0).symm
    simp only [List.length_cons, Region.seqB, Bool.and_eq_true, decide_eq_true_eq] at hB
    refine ⟨fun h1 => (by rw [hB.1] at h1; cases h1), fun i hi => ?_⟩
    rw [hB.1] at hi
    have hik : i = k := by simpa using hi
    subst hik
    have hw : wpOpIn Fence.wide m P ops Q' i (wpListIn Fence.wide m P ops Q' l) a w := by unfold wpOpIn; simp only [h0]; exact h
    exact wpOpIn_mono (fun a' w' h' => units_pairs.seqIn l (i + 1) _ a' w' (fun j => by have := hl (j + 1); simpa [Nat.add_assoc, Nat.add_comm 1 j] using this) hB.2 h') hw
theorem units_pairs.tailIn {m : Nat} {P : Program} {id : Nat} {Q : Exit → Act → World → Prop} {a : Act} {w : World} {l : List Oper} (n : Nat) (hm : P.follows .mixedOrders = true) (hB : Region.lexTailB .any l.toArray n = true)
    (h : wpStill P l.toArray w.drew (fun a' => wpListIn Fence.wide m P l.toArray Q (l.drop n) a' w.drew) (l.take n) a) : (Code.region id l.toArray true).wpIn Fence.wide m P Q a w := by
  simp only [Region.lexTailB, Bool.and_eq_true, decide_eq_true_eq] at hB
  obtain ⟨⟨⟨⟨hsel, hn⟩, hs⟩, hc⟩, hlex⟩ := hB
  have hn' : n < l.length := by simpa using hn
  have htl : (l.take n).length = n := by simp; omega
  have hdl : (l.drop n).length = l.toArray.size - n := by simp
  have inv0 : HeadInv .any l.toArray n (Array.replicate l.toArray.size false) :=
    ⟨by simp, fun j oj _ hl => (by rw [getD_replicate_false] at hl; cases hl), fun t _ ht => getD_in (by simpa using ht) (getD_replicate_false _ _)⟩
  have H := wpAnyL_lex (md := .any) (g := l.toArray.size - n) hsel hs hc hn (l.take n) 0 _ a (fun j hj => by
    have hj' : j < n := by rw [htl] at hj; exact hj
    simp [hj']) (by simpa using htl) inv0 (by rw [htl]; exact hlex) h
  refine wpIn_region_any hm ?_
  have := units_pairs.headIn (m := m) (Q' := Q) (g := l.toArray.size - n) (fun listed a' hL => by
    have := units_pairs.seqIn (m := m) (md := .any) (Q' := Q) (l.drop n) n listed a' w.drew (fun j => by simp [List.getElem?_drop]) (by rw [hdl]; exact hL.1) hL.2
    rwa [hdl] at this) _ _ _ H
  rw [htl] at this
  rwa [show n + (l.toArray.size - n) = l.toArray.size by omega] at this
theorem units_pairs.cell_new (W : World) (v : Value) (t : TypeId) : (W.alloc (.cells #[v] t)).cell? ⟨W.heap.size, 0, none⟩ = some v ∧ (W.alloc (.cells #[v] t)).frozen? ⟨W.heap.size, 0, none⟩ = false := by
  have h := World.alloc_heap_new W (.cells #[v] t)
  unfold World.cell? World.frozen?
  simp only [h]
  exact ⟨rfl, rfl⟩
theorem units_pairs.cell_old {W : World} {a : Addr} {v : Value} (o : Obj) (h : W.cell? a = some v) : (W.alloc o).cell? a = some v := Go.cell_kept h (World.grownBy_alloc W o none) (fun r e => by cases e)
theorem units_pairs.frozen_old {W : World} {a : Addr} {v : Value} (o : Obj) (h : W.cell? a = some v) (hf : W.frozen? a = false) : (W.alloc o).frozen? a = false := (Go.frozen_kept h (World.grownBy_alloc W o none) (fun r e => by cases e)).trans hf
/-- What a round that goes on keeps: all that lay below n0, and the two boxes. -/
def units_pairs.Kp (n0 B1 B2 : Nat) (W W' : World) : Prop := Below n0 W W' ∧ W'.cell? ⟨B1, 0, none⟩ = W.cell? ⟨B1, 0, none⟩ ∧ W'.cell? ⟨B2, 0, none⟩ = W.cell? ⟨B2, 0, none⟩
theorem units_pairs.Kp.refl {n0 B1 B2 : Nat} (W : World) : units_pairs.Kp n0 B1 B2 W W := ⟨Below.refl _ _, rfl, rfl⟩
theorem units_pairs.Kp.trans {n0 B1 B2 : Nat} {A B C : World} (h : units_pairs.Kp n0 B1 B2 A B) (k : units_pairs.Kp n0 B1 B2 B C) : units_pairs.Kp n0 B1 B2 A C :=
  ⟨h.1.trans k.1, k.2.1.trans h.2.1, k.2.2.trans h.2.2⟩
theorem units_pairs.cell_other {W : World} {l B : Nat} {o' : Obj} (h : B ≠ l) : (W.putObj l o').cell? ⟨B, 0, none⟩ = W.cell? ⟨B, 0, none⟩ := by
  have := World.putObj_heap_other (w := W) (o := o') h
  unfold World.cell? at *
  simp only at *
  rw [this]
theorem units_pairs.Kp_put {n0 B1 B2 l : Nat} (W : World) {o : Obj} (o' : Obj) (hn : n0 ≤ l) (h1 : B1 ≠ l) (h2 : B2 ≠ l) (ho : W.heap[l]? = some o) (hc : o.isCells = false) (hw : o.isWalk = false) : units_pairs.Kp n0 B1 B2 W (W.putObj l o') :=
  ⟨(Below.refl n0 W).grown (grownBy_putObj' W l o') (by have := (Array.getElem?_eq_some_iff.1 ho).1; omega) (fun k e => by cases e; exact hn), units_pairs.cell_other h1, units_pairs.cell_other h2⟩
/-- One yield, told by one Bool. -/
def units_pairs.Went (J Jx : List (Int × Int) → World → Prop) (Kp : World → World → Prop) (pre : List (Int × Int)) (x : Int × Int) (W : World) (e : Ending) (W' : World) : Prop :=
  ∃ b : Bool, e = .returned (.bool b) ∧ Aside0 ((b = true ∧ J (pre ++ [x]) W' ∧ Kp W W') ∨ (b = false ∧ Jx (pre ++ [x]) W'))
set_option maxRecDepth 100000 in
set_option maxHeartbeats 4000000 in
theorem units_pairs.iter1 (n : Nat) (l B1 B2 : Nat) (w0 : World) (A0 : Option Addr) (c0 : Nat) (l0 : List Int) (A1 : Option Addr) (c1 : Nat) (l1 : List Int)
    (hr0 : Kd.C (Kd.int .i64) w0 A0 l0.length l0) (hr1 : Kd.C (Kd.int .i64) w0 A1 l1.length l1) (J Jx : List (Int × Int) → World → Prop) (hJ : ∀ pre W, J pre W → J pre W.drew)
    (hY : ∀ pre x W, J pre W → pre.length < min l0.length l1.length → YieldAt Fence.wide (n - 1) Try.prog l #[.int .i64 x.1, .int .i64 x.2] W fun e W' =>
      (e = .returned (.bool true) ∧ J (pre ++ [x]) W' ∧ units_pairs.Kp w0.heap.size B1 B2 W W') ∨ (e = .returned (.bool false) ∧ Jx (pre ++ [x]) W'))
    (W : World) (hB : Below w0.heap.size w0 W) (hc1 : W.cell? ⟨B1, 0, none⟩ = some (.slice A0 l0.length c0)) (hc2 : W.cell? ⟨B2, 0, none⟩ = some (.slice A1 l1.length c1)) (h0 : J [] W) :
    CallsIn Fence.wide n Try.prog 36 #[.func (.yield l) #[] #[], .pointer (some ⟨B1, 0, none⟩), .pointer (some ⟨B2, 0, none⟩)] W fun e W' => (∃ v, e = .returned v) ∧
      ((∃ ys, ys = l0.zip l1 ∧ J ys W') ∨ (∃ pre, pre <+: l0.zip l1 ∧ Jx pre W')) := by
  have HR0 := Aside0.mk hr0
  have HR1 := Aside0.mk hr1
  have hl0 : l0.length ≤ 9223372036854775807 := hr0.2.1
  have hl1 : l1.length ≤ 9223372036854775807 := hr1.2.1
  have HB := Aside0.mk hB
  have HY := Aside0.mk hY
  have H0 := Aside0.mk h0
  have HJD := Aside0.mk hJ
  clear hr0 hr1 hB hY h0 hJ
  have hzip : (l0.zip l1).length = min l0.length l1.length := List.length_zip
  have hmin : (l1.length < l0.length ∧ min l0.length l1.length = l1.length) ∨ (¬ l1.length < l0.length ∧ min l0.length l1.length = l0.length) := by omega
  rcases hmin with ⟨hlt, hm⟩ | ⟨hlt, hm⟩
  all_goals
    rw [hm] at hzip HY
    have HZ := Aside0.mk hzip
    clear hzip hm
    refine callsIn_of_wp Try.func36 rfl trivial ?_ rfl
    simp only [Try.ntmps36, List.size_toArray, List.length_cons, List.length_nil, Nat.reduceAdd, Nat.reduceSub, Array.replicate_succ, Array.replicate_zero, List.push_toArray, List.append_toArray, List.nil_append, List.cons_append]
    gi_wp2
    gi_loopw [4, 10] (fun _ i wr => ∃ k : Nat, k ≤ (l0.zip l1).length ∧ i = .int .i64 k ∧ Aside0 (J ((l0.zip l1).take k) wr) ∧ Aside0 (units_pairs.Kp w0.heap.size B1 B2 W wr))
      (fun _ i _ => (l0.zip l1).length - (intOf i).toNat)
    case atStart => exact ⟨0, Nat.zero_le _, rfl, ⟨H0.out⟩, ⟨units_pairs.Kp.refl _⟩⟩
    case round =>
      obtain ⟨k, hk, rfl, HJ, HK⟩ := hrel
      rw [HZ.out] at hk
      have hb1 : wr.cell? ⟨B1, 0, none⟩ = some (.slice A0 l0.length c0) := HK.out.2.1.trans hc1
      have hb2 : wr.cell? ⟨B2, 0, none⟩ = some (.slice A1 l1.length c1) := HK.out.2.2.trans hc2
      have hbw : Below w0.heap.size w0 wr := HB.out.trans HK.out.1
      have HBW := Aside0.mk hbw
      clear hbw
      by_cases hk2 : k < (l0.zip l1).length
      · rw [HZ.out] at hk2
        obtain ⟨ad0, e0, hx0⟩ := Kd.at_int HR0.out (k : Int) (by omega) (by omega)
        obtain ⟨ad1, e1, hx1⟩ := Kd.at_int HR1.out (k : Int) (by omega) (by omega)
        rw [Int.toNat_natCast] at hx0 hx1
        replace hx0 := pw_cell_below HBW.out hx0
        replace hx1 := pw_cell_below HBW.out hx1
        obtain rfl := e0
        obtain rfl := e1
        obtain ⟨fn, tmps, assign, body, hy, hR⟩ := HY.out ((l0.zip l1).take k) (rd l0 k, rd l1 k) wr.drew (HJD.out _ _ HJ.out) (by rw [List.length_take, HZ.out]; omega)
        dsimp only at hy
        have HR := Aside0.mk (hR.mono (R' := units_pairs.Went J Jx (units_pairs.Kp w0.heap.size B1 B2) ((l0.zip l1).take k) (rd l0 k, rd l1 k) wr.drew) (fun e W' h => by
          rcases h with ⟨rfl, h1, h2⟩ | ⟨rfl, h1⟩
          · exact ⟨true, rfl, ⟨.inl ⟨rfl, h1, h2⟩⟩⟩
          · exact ⟨false, rfl, ⟨.inr ⟨rfl, h1⟩⟩⟩))
        clear hR
        gi_wp2
        have hkl0 : k < l0.length := by omega
        have hkl1 : k < l1.length := by omega
        refine units_pairs.tailIn 9 (by kernel_rfl) (by kernel_rfl) ?_
        simp only [List.take_succ_cons, List.take_zero, List.drop_succ_cons, List.drop_zero]
        repeat still_step
        refine wpStill_nil ?_
        gi_wp2
        refine ⟨fun h => absurd h (by simp [Fence.wide]), ?_⟩
        refine HR.out.mono ?_
        rintro e W3 ⟨b, rfl, hcase⟩
        rcases hcase.out with ⟨rfl, hJ3, hK3⟩ | ⟨rfl, hJ3⟩
        · have HJ3 := Aside0.mk hJ3
          have HK3 := Aside0.mk hK3
          clear hJ3 hK3 hcase HR hy
          gi_wp2
          go_roundw
          case rel => exact ⟨k + 1, by rw [HZ.out]; omega, by go_num, ⟨by
              have e : (l0.zip l1).take (k + 1) = (l0.zip l1).take k ++ [(rd l0 k, rd l1 k)] := by
                rw [List.take_succ_eq_append_getElem (by rw [HZ.out]; omega)]
                simp [rd, hkl0, hkl1]
              rw [e]; exact HJ3.out⟩, ⟨(HK.out.trans ⟨Below.drew (Below.refl _ _), rfl, rfl⟩).trans HK3.out⟩⟩
          case measure => rw [HZ.out]; simp [intOf]; omega
        · have HJ3 := Aside0.mk hJ3
          clear hJ3 hcase HR hy
          gi_wp2
          refine bodyPost_ret (results_none rfl _ _ _) rfl ?_
          refine ⟨⟨_, rfl⟩, .inr ⟨_, ?_, HJ3.out⟩⟩
          have e : (l0.zip l1).take (k + 1) = (l0.zip l1).take k ++ [(rd l0 k, rd l1 k)] := by
            rw [List.take_succ_eq_append_getElem (by rw [HZ.out]; omega)]
            simp [rd, hkl0, hkl1]
          rw [← e]
          exact List.take_prefix _ _
      · rw [HZ.out] at hk2
        gi_wp2
        go_end0
        refine ⟨⟨_, rfl⟩, .inl ⟨_, rfl, ?_⟩⟩
        have e := HJ.out
        rw [List.take_of_length_le (by rw [HZ.out]; omega)] at e
        exact e
theorem units_pairs.iter (n : Nat) (B1 B2 : Nat) (w0 : World) (A0 : Option Addr) (c0 : Nat) (l0 : List Int) (A1 : Option Addr) (c1 : Nat) (l1 : List Int)
    (hr0 : Kd.C (Kd.int .i64) w0 A0 l0.length l0) (hr1 : Kd.C (Kd.int .i64) w0 A1 l1.length l1) (w : World) (hB : Below w0.heap.size w0 w) (hb1 : B1 < w.heap.size) (hb2 : B2 < w.heap.size)
    (hc1 : w.cell? ⟨B1, 0, none⟩ = some (.slice A0 l0.length c0)) (hc2 : w.cell? ⟨B2, 0, none⟩ = some (.slice A1 l1.length c1)) :
    SeqStopsK Fence.wide n Try.prog 36 #[.pointer (some ⟨B1, 0, none⟩), .pointer (some ⟨B2, 0, none⟩)] (fun x : Int × Int => #[.int .i64 x.1, .int .i64 x.2]) (units_pairs.Kp w0.heap.size B1 B2)
      (fun ys => ys = l0.zip l1) (fun pre => pre <+: l0.zip l1) (min l0.length l1.length) w :=
  fun l J Jx W hW hJ _ hY h0 => units_pairs.iter1 n l B1 B2 w0 A0 c0 l0 A1 c1 l1 hr0 hr1 J Jx (fun pre W h => hJ pre W _ none h ⟨rfl, rfl, rfl, Nat.le_refl _, fun _ _ _ => rfl⟩ (fun r e => by cases e)) hY W
    (hB.trans (hW.mono hB.size)) ((hW.cell (p := ⟨B1, 0, none⟩) hb1).trans hc1) ((hW.cell (p := ⟨B2, 0, none⟩) hb2).trans hc2) h0
/-- units.pairs: the two slices are boxed; the function value has them. -/
theorem units_pairs.make (n : Nat) (a0 a1 : Option Addr) (m0 m1 k0 k1 : Nat) (w : World) :
    CallsIn Fence.wide n Try.prog 32 #[.slice a0 m0 k0, .slice a1 m1 k1] w fun e w' =>
      e = .returned (.func (.func 36) #[] #[.pointer (some ⟨w.heap.size, 0, none⟩), .pointer (some ⟨w.heap.size + 1, 0, none⟩)]) ∧ w' = (w.alloc (.cells #[.slice a0 m0 k0] 22)).alloc (.cells #[.slice a1 m1 k1] 22) := by
  refine callsIn_of_wp Try.func32 rfl trivial ?_ rfl
  simp only [Try.ntmps32, List.size_toArray, List.length_cons, List.length_nil, Nat.reduceAdd, Nat.reduceSub, Array.replicate_succ, Array.replicate_zero, List.push_toArray, List.append_toArray, List.nil_append, List.cons_append]
  gi_wp2
  go_ret
  exact ⟨rfl, rfl⟩
end
section
open Go.Shelf
attribute [local go_sem] Oper.semAt_some
/-- Each of the pairs so far is in order. -/
def units_Fits.Good (pre : List (Int × Int)) : Prop := pre.all (fun y => decide (y.1 ≤ y.2)) = true
theorem units_Fits.Good.snoc {pre : List (Int × Int)} {x : Int × Int} (h : units_Fits.Good pre) (hx : x.1 ≤ x.2) : units_Fits.Good (pre ++ [x]) := by
  unfold units_Fits.Good at *
  rw [List.all_append, h]; simpa using hx
/-- Whether each is at most the other one. -/
def units_Fits.f (l0 : List Int) (l1 : List Int) : Option (Bool) := some ((l0.zip l1).all (fun x => decide (x.1 ≤ x.2)) && decide (l0.length = l1.length))
set_option maxRecDepth 100000 in
set_option maxHeartbeats 4000000 in
theorem units_Fits.calls (A0 : Option Addr) (k0 : Nat) (l0 : List Int) (A1 : Option Addr) (k1 : Nat) (l1 : List Int) (r : Bool) (w : World) (hr0 : Kd.C (Kd.int .i64) w A0 l0.length l0) (hc0 : l0.length ≤ k0) (hr1 : Kd.C (Kd.int .i64) w A1 l1.length l1) (hc1 : l1.length ≤ k1) (h : units_Fits.f l0 l1 = some r) :
    Calls Try.prog 24 #[.slice A0 l0.length k0, .slice A1 l1.length k1] w fun e w' => e = .returned (.bool r) ∧ Below w.heap.size w w' := by
  have HR0 := Aside0.mk hr0
  have HR1 := Aside0.mk hr1
  have H := Aside0.mk (Option.some.inj h)
  clear hr0 hr1 hc0 hc1 h
  refine (callsIn_wide (n := 3)).1 ?_
  refine callsIn_of_wp_marks Try.func24 rfl trivial ?_ rfl
  simp only [Try.ntmps24, List.size_toArray, List.length_cons, List.length_nil, Nat.reduceAdd, Nat.reduceSub, Array.replicate_succ, Array.replicate_zero, List.push_toArray, List.append_toArray, List.nil_append, List.cons_append]
  have hf1 : Fence.wide.fn 32 := trivial
  gi_wp2_with (gi_at_call 32; (with_reducible refine (units_pairs.make _ _ _ _ _ _ _ _).mono ?_); rintro e w' ⟨rfl, rfl⟩)
  have b0 := units_pairs.cell_new w (.bool false) 4
  have b1 := units_pairs.cell_new (w.alloc (.cells #[.bool false] 4)) (.slice A0 l0.length k0) 22
  have b2 := units_pairs.cell_new ((w.alloc (.cells #[.bool false] 4)).alloc (.cells #[.slice A0 l0.length k0] 22)) (.slice A1 l1.length k1) 22
  simp only [World.size_alloc] at b1 b2
  have hB0 : Below w.heap.size w (((w.alloc (.cells #[.bool false] 4)).alloc (.cells #[.slice A0 l0.length k0] 22)).alloc (.cells #[.slice A1 l1.length k1] 22)) := (((Below.refl _ w).alloc (Nat.le_refl _) _).alloc (by simp) _).alloc (by simp; omega) _
  have d0 := units_pairs.cell_old (.cells #[.slice A1 l1.length k1] 22) (units_pairs.cell_old (.cells #[.slice A0 l0.length k0] 22) b0.1)
  have f0 := units_pairs.frozen_old (.cells #[.slice A1 l1.length k1] 22) (units_pairs.cell_old (.cells #[.slice A0 l0.length k0] 22) b0.1) (units_pairs.frozen_old (.cells #[.slice A0 l0.length k0] 22) b0.1 b0.2)
  have d1 := units_pairs.cell_old (.cells #[.slice A1 l1.length k1] 22) b1.1
  have d2 := b2.1
  generalize hW : (((w.alloc (.cells #[.bool false] 4)).alloc (.cells #[.slice A0 l0.length k0] 22)).alloc (.cells #[.slice A1 l1.length k1] 22)) = W0 at hB0 d0 f0 d1 d2 ⊢
  have hsz : W0.heap.size = w.heap.size + 3 := by rw [← hW]; simp
  clear hW b0 b1 b2
  refine wpIn_rangeFunc_ownF rfl (by omega) (gf := 36) (lb := #[.pointer (some ⟨w.heap.size + 1, 0, none⟩), .pointer (some ⟨w.heap.size + 1 + 1, 0, none⟩)]) rfl trivial (enters_of Try.func36 (by kernel_rfl) rfl)
    (units_pairs.iter 2 (w.heap.size + 1) (w.heap.size + 1 + 1) w A0 k0 l0 A1 k1 l1 HR0.out HR1.out W0 hB0 (by omega) (by omega) d1 d2) (fun h k => h.trans k)
    (fun W l o o' hl ho hc hw => units_pairs.Kp_put W o' (by omega) (by omega) (by omega) ho hc hw) (Below.refl _ _) (fun _ => rfl)
    (fun pre W => (units_Fits.Good pre ∧ W.cell? ⟨w.heap.size, 0, none⟩ = some (.bool false) ∧ W.frozen? ⟨w.heap.size, 0, none⟩ = false) ∧ Below w.heap.size w W)
    (fun c pre W => (c = .ret ∧ Aside0 (∃ y ∈ pre, y.2 < y.1) ∧ W.cell? ⟨w.heap.size, 0, none⟩ = some (.bool false)) ∧ Below w.heap.size w W)
    (OwnFrom.and (Own.from (fun s A B row hs hg hr => ⟨hs.1, Go.cell_kept hs.2.1 hg hr, (Go.frozen_kept hs.2.1 hg hr).trans hs.2.2⟩) _) (ownFrom_below (Nat.le_refl _) (by omega)))
    (fun c => OwnFrom.and (Own.from (fun s A B row hs hg hr => ⟨hs.1, hs.2.1, Go.cell_kept hs.2.2 hg hr⟩) _) (ownFrom_below (Nat.le_refl _) (by omega)))
    ⟨⟨rfl, d0, f0⟩, hB0⟩
    (fun x => { tmps := #[.slice A0 l0.length k0, .slice A1 l1.length k1, undef, undef, .pointer (some ⟨w.heap.size, 0, none⟩), .int .i64 x.1, .int .i64 x.2, .slice A0 l0.length k0, .slice A1 l1.length k1,
          .func (.func 36) #[] #[.pointer (some ⟨w.heap.size + 1, 0, none⟩), .pointer (some ⟨w.heap.size + 1 + 1, 0, none⟩)], .int .i64 x.1, .int .i64 x.2, undef, undef, undef, undef, undef, undef, undef, undef], defers := [] }) ?assign ?body ?done ?stop
  case assign =>
    intro l x W K hK
    gi_wp2
    exact hK
  case body =>
    rintro l pre x W ⟨⟨hp, hcr, hfr⟩, hB⟩ _
    by_cases hx : x.2 < x.1
    · have HX := Aside0.mk hx
      gi_wp2
      exact ⟨KeepsOthers.setCell _ _ _, ⟨rfl, ⟨⟨x, List.mem_append.2 (.inr (by simp)), HX.out⟩⟩, World.cell?_setCell_same' _ _ _ (by rw [hcr]; rfl)⟩, hB.setCell (p := ⟨w.heap.size, 0, none⟩) (by simp) _⟩
    · have HX : Aside0 (x.1 ≤ x.2) := ⟨by omega⟩
      gi_wp2
      exact ⟨KeepsOthers.refl _, units_pairs.Kp.refl _, ⟨hp.snoc HX.out, hcr, hfr⟩, hB⟩
  case done =>
    rintro D ys W hD rfl ⟨⟨hall, hcr, hfr⟩, hB⟩ hK
    gi_wp2
    have hK' := (KeepsOthers.setCell W ⟨w.heap.size, 0, none⟩ (.bool (((l0.length : Int)) == (l1.length : Int)))).same D _ hK rfl
    refine ⟨by simp, .inl ⟨_, _, rfl, run_takeDeferred hK', ?_⟩⟩
    have hc5 := Go.cell_kept (World.cell?_setCell_same' W ⟨w.heap.size, 0, none⟩ (.bool (((l0.length : Int)) == (l1.length : Int))) (by rw [hcr]; rfl)) (grownBy_putObj' _ D (.deferred none)) (fun r e => by cases e; exact ⟨_, hK', rfl⟩)
    refine ⟨.bool (((l0.length : Int)) == (l1.length : Int)), ?_, ?_, (hB.setCell (p := ⟨w.heap.size, 0, none⟩) (by simp) _).trans (belowK_b (w := w) (Nat.le_refl _) _ D _ _ (by omega) hK' rfl rfl)⟩
    · simp [results, Try.f24, go_sem, hc5]
    · rw [← H.out, show (l0.zip l1).all (fun y => decide (y.1 ≤ y.2)) = true from hall, Bool.true_and]
      congr 2
      rw [Bool.eq_iff_iff]; simp; omega
  case stop =>
    rintro D c pre W hD hpre ⟨⟨rfl, hex, hcr⟩, hB⟩ hK
    gi_wp2
    refine ⟨by simp, .inl ⟨_, _, rfl, run_takeDeferred hK, ?_⟩⟩
    have hc5 := Go.cell_kept hcr (grownBy_putObj' _ D (.deferred none)) (fun r e => by cases e; exact ⟨_, hK, rfl⟩)
    refine ⟨.bool false, ?_, ?_, hB.trans (belowK_b (w := w) (Nat.le_refl _) W D _ _ (by omega) hK rfl rfl)⟩
    · simp [results, Try.f24, go_sem, hc5]
    · obtain ⟨y, hy, hlt⟩ := hex.out
      have : (l0.zip l1).all (fun x => decide (x.1 ≤ x.2)) = false := by
        rw [List.all_eq_false]
        exact ⟨y, hpre.subset hy, by simpa using hlt⟩
      rw [← H.out, this, Bool.false_and]
end
/-! A map from whole numbers, made by the call: its entries are those of a list of keys, each born at its key's number. -/
section
open Go.ChangeMaps Go.MapKept
def ment (vs : Nat → Value) (i : Nat) : MapEntry := ⟨.int .i64 (i : Int), vs i, i⟩
def mapO (vs : Nat → Value) (L : List Nat) (clock : Nat) : Obj := .map (L.map (ment vs)).toArray clock
theorem mfind_none {vs : Nat → Value} {x : Int} : ∀ (L : List Nat) (j : Nat), (∀ i ∈ L, x ≠ (i : Int)) → Instr.findNow (.int .i64) (.int .i64 x) (L.map (ment vs)) j = some none
  | [], _, _ => rfl
  | i :: L, j, h => by
    have h1 : (x == (i : Int)) = false := by simpa using h i (by simp)
    simp only [List.map_cons, Instr.findNow, ment, Instr.sameNow, if_true, h1]
    exact mfind_none L (j + 1) (fun k hk => h k (by simp [hk]))
theorem mfind_some {vs : Nat → Value} {x : Nat} : ∀ (L : List Nat) (j : Nat), x ∈ L → Instr.findNow (.int .i64) (.int .i64 (x : Int)) (L.map (ment vs)) j = some (some (j + L.idxOf x, vs x))
  | [], _, h => by simp at h
  | i :: L, j, h => by
    by_cases e : x = i
    · subst e
      simp [Instr.findNow, ment, Instr.sameNow]
    · have h1 : ((x : Int) == (i : Int)) = false := by simp; omega
      have h2 : x ∈ L := by
        rcases List.mem_cons.1 h with q | q
        · exact absurd q e
        · exact q
      have h3 : (i == x) = false := by simpa using fun q => e (Eq.symm q)
      simp only [List.map_cons, Instr.findNow, ment, Instr.sameNow, if_true, h1]
      rw [mfind_some L (j + 1) h2, List.idxOf_cons, h3]
      simp; omega
section
variable {P : Program} {w : World} {t k e : TypeId} {b : Nat} {vs : Nat → Value} {L : List Nat} {clock : Nat}
theorem mkey (hk : P.underlying k = some (.int .i64)) (em : Bool) (x : Int) : (Instr.checkKey em 10000 k (.int .i64 x)).run P w = .ok () w := run_checkKey (d := .int .i64) (k := .int .i64 x) hk rfl em 9999
theorem mlook_in (ht : P.underlying t = some (.map k e)) (hk : P.underlying k = some (.int .i64)) (hb : w.heap[b]? = some (mapO vs L clock)) {x : Nat} (hx : x ∈ L) (c : Bool) :
    (Instr.lookup t (.map (some b)) (.int .i64 (x : Int)) c).run P w = .ok (if c then .tuple #[vs x, .bool true] else vs x) w := by
  unfold mapO at hb
  simp [Instr.lookup, run_underlying ht, Result.andThen, Go.MapKept.run_getObj_map hb, mkey hk, run_findKey hk (mfind_some L 0 hx)]
theorem mlook_out (ht : P.underlying t = some (.map k e)) (hk : P.underlying k = some (.int .i64)) {z : Value} (hz : (zeroValue e).run P w = .ok z w) (hb : w.heap[b]? = some (mapO vs L clock)) {x : Int} (hx : ∀ i ∈ L, x ≠ (i : Int)) (c : Bool) :
    (Instr.lookup t (.map (some b)) (.int .i64 x) c).run P w = .ok (if c then .tuple #[z, .bool false] else z) w := by
  unfold mapO at hb
  simp [Instr.lookup, run_underlying ht, Result.andThen, Go.MapKept.run_getObj_map hb, mkey hk, run_findKey hk (mfind_none L 0 hx), hz]
theorem mlen (ht : P.underlying t = some (.map k e)) (hb : w.heap[b]? = some (mapO vs L clock)) (ty : TypeId) : (Builtin.len_ #[t] ty #[.map (some b)]).run P w = .ok (.int .i64 (L.length : Int)) w := by
  unfold mapO at hb
  simp [Builtin.len_, run_underlying ht, Go.MapKept.run_getObj_map hb, goInt, Result.andThen]
theorem mdel (ht : P.underlying t = some (.map k e)) (hk : P.underlying k = some (.int .i64)) (hb : w.heap[b]? = some (mapO vs L clock)) {x : Nat} (hx : x ∈ L) (ty : TypeId) :
    (Builtin.delete_ #[t, k] ty #[.map (some b), .int .i64 (x : Int)]).run P w = .ok (.tuple #[]) (setBlock w b (mapO vs (L.erase x) clock)) := by
  have hb' := hb
  unfold mapO at hb'
  have hi : L.idxOf x < L.length := List.idxOf_lt_length_of_mem hx
  have he : (L.map (ment vs)).eraseIdx (L.idxOf x) = (L.erase x).map (ment vs) := by
    rw [← map_eraseIdx, List.erase_eq_eraseIdx_of_idxOf rfl]
  simp [Builtin.delete_, run_underlying ht, Go.MapKept.run_getObj_map hb', Result.andThen, mkey hk, run_findKey hk (mfind_some L 0 hx), run_setObj_map _ hb']
  unfold mapO setBlock
  rw [← he]
/-- 'm[n] = v', first half: the place of a key that is not there yet. -/
theorem mplace (ht : P.underlying t = some (.map k e)) (hk : P.underlying k = some (.int .i64)) {z : Value} (hz : (zeroValue e).run P w = .ok z w) {n : Nat} (hb : w.heap[b]? = some (mapO vs L n)) (hn : n ∉ L) :
    (Instr.mapEntry t (.map (some b)) (.int .i64 (n : Int))).run P w = .ok (.tuple #[z, .int .i64 (n : Int)]) (setBlock w b (mapO (fun i => if i = n then z else vs i) (L ++ [n]) (n + 1))) := by
  have hb' := hb
  unfold mapO at hb'
  have hx : ∀ i ∈ L, (n : Int) ≠ (i : Int) := fun i hi q => hn (by
    have e : n = i := by omega
    rw [e]; exact hi)
  have he : L.map (ment vs) ++ [{ key := .int .i64 (n : Int), val := z, born := n }] = (L ++ [n]).map (ment (fun i => if i = n then z else vs i)) := by
    simp only [List.map_append, List.map_cons, List.map_nil, ment, if_true]
    congr 1
    refine List.map_congr_left (fun i hi => ?_)
    have q : i ≠ n := fun q => hn (by rw [← q]; exact hi)
    simp [ment, q]
  simp [Instr.mapEntry, run_underlying ht, Result.andThen, Go.MapKept.run_getObj_map hb', mkey hk, run_findKey hk (mfind_none L 0 hx), hz, run_setObj_map _ hb', goInt]
  unfold mapO setBlock
  rw [he]
/-- .. second half: the value. -/
theorem mput {n : Nat} {v : Value} (hb : w.heap[b]? = some (mapO vs (L ++ [n]) clock)) (hn : n ∉ L) :
    (Instr.entryStore t (.map (some b)) (.int .i64 (n : Int)) v).run P w = .ok () (setBlock w b (mapO (fun i => if i = n then v else vs i) (L ++ [n]) clock)) := by
  have hb' := hb
  unfold mapO at hb'
  have hf : (((L ++ [n]).map (ment vs)).toArray.findIdx? (fun e => (e.born : Int) == (n : Int))) = some L.length := by
    rw [List.findIdx?_toArray, List.findIdx?_map]
    rw [List.findIdx?_append]
    have h0 : L.findIdx? ((fun e : MapEntry => (e.born : Int) == (n : Int)) ∘ ment vs) = none := by
      rw [List.findIdx?_eq_none_iff]
      intro i hi
      simp only [Function.comp, ment, beq_eq_false_iff_ne]
      intro q
      exact hn (by have : i = n := by omega
                   exact this ▸ hi)
    rw [h0]
    simp [Function.comp, ment]
  have he : (L.map (ment vs) ++ [ment vs n]).modify L.length (fun e => { key := e.key, val := v, born := e.born }) = (L ++ [n]).map (ment (fun i => if i = n then v else vs i)) := by
    apply List.ext_getElem?
    intro j
    rw [List.getElem?_modify]
    by_cases hj : L.length = j
    · subst hj
      simp [ment]
    · simp only [hj, if_false, id_map']
      rcases Nat.lt_or_ge j L.length with q | q
      · rw [List.map_append, List.getElem?_append_left (by simpa using q), List.getElem?_append_left (by simpa using q), List.getElem?_map, List.getElem?_map, List.getElem?_eq_getElem q]
        have : L[j] ≠ n := fun e => hn (e ▸ List.getElem_mem q)
        simp [ment, this]
      · rw [List.getElem?_eq_none_iff.2 (by simp; omega), List.getElem?_eq_none_iff.2 (by simp; omega)]
  have hf' : (L.findIdx? ((fun e : MapEntry => (e.born : Int) == (n : Int)) ∘ ment vs)).or (if ((ment vs n).born : Int) = (n : Int) then some L.length else none) = some L.length := by simpa using hf
  simp [Instr.entryStore, Go.MapKept.run_getObj_map hb', Result.andThen, asInt, asIntOf, hf', run_setObj_map _ hb']
  unfold mapO setBlock
  rw [he]
end
/-! ### at the operation -/
section
variable {P : Program} {o : Oper} {a : Act} {W W' : World}
theorem exec_lookup {t : TypeId} {m x : Operand} {mv xv v : Value} {c : Bool} (hop : o.op = .lookup t m x c) (hm : a.eval m = mv) (hx : a.eval x = xv) (h : (Instr.lookup t mv xv c).run P W = .ok v W') : (execOp a.eval o).run P W = .ok (.value v) W' := by
  simp [execOp, hop, hm, hx, h, Result.andThen]
theorem exec_place {t : TypeId} {m x : Operand} {mv xv v : Value} (hop : o.op = .mapEntry t m x) (hm : a.eval m = mv) (hx : a.eval x = xv) (h : (Instr.mapEntry t mv xv).run P W = .ok v W') : (execOp a.eval o).run P W = .ok (.value v) W' := by
  simp [execOp, hop, hm, hx, h, Result.andThen]
theorem exec_put {t : TypeId} {m s x : Operand} {mv sv xv : Value} (hop : o.op = .entryStore t m s x) (hm : a.eval m = mv) (hs : a.eval s = sv) (hx : a.eval x = xv) (h : (Instr.entryStore t mv sv xv).run P W = .ok () W') : (execOp a.eval o).run P W = .ok .skip W' := by
  simp [execOp, hop, hm, hs, hx, h, Result.andThen]
theorem exec_make {t : TypeId} {v : Value} (hop : o.op = .makeMap t none) (h : (Instr.makeMap t none).run P W = .ok v W') : (execOp a.eval o).run P W = .ok (.value v) W' := by
  simp [execOp, hop, h, Result.andThen]
theorem exec_len {t : TypeId} {m : Operand} {mv v : Value} (hop : o.op = .call { callee := .builtin .len, args := #[m], argTypes := #[t] }) (hm : a.eval m = mv) (h : (Builtin.len_ #[t] o.type #[mv]).run P W = .ok v W') : (execOp a.eval o).run P W = .ok (.value v) W' := by
  simp [execOp, hop, resolve, invoke, builtin, hm, h, Result.andThen]
theorem exec_del {t k : TypeId} {m x : Operand} {mv xv v : Value} (hop : o.op = .call { callee := .builtin .delete, args := #[m, x], argTypes := #[t, k] }) (hm : a.eval m = mv) (hx : a.eval x = xv) (h : (Builtin.delete_ #[t, k] o.type #[mv, xv]).run P W = .ok v W') : (execOp a.eval o).run P W = .ok (.value v) W' := by
  simp [execOp, hop, resolve, invoke, builtin, hm, hx, h, Result.andThen]
end
theorem map_event {P : Program} {ops : Array Oper} {rest : List Oper} {o : Oper} {a : Act} {Q : Exit → Act → World → Prop} {W : World} {t : TypeId} (hgd : o.guard = none) {N : Tmp} (_hd : o.dst = some N) (hop : o.op = .makeMap t none)
    (h : ∀ g, g = W.heap.size → ∀ w1, w1.heap[g]? = some (mapO (fun _ => undef) [] 0) → Below W.heap.size W w1 → wpList P ops Q rest (a.put o.dst (.map (some g))) w1) : wpList P ops Q (o :: rest) a W :=
  Kd.event_run hgd (exec_make hop (run_makeMap t W)) (h _ rfl _ (blk_new W _) (below_alloc (Below.refl _ _) _))
/-- What a block's change leaves. -/
theorem setBlock_same {w : World} {b : Nat} {o o' : Obj} (hb : w.heap[b]? = some o) : (setBlock w b o').heap[b]? = some o' := (heap_set hb).1
theorem setBlock_other {w : World} {b i : Nat} {o o' : Obj} (hb : w.heap[b]? = some o) (h : i ≠ b) : (setBlock w b o').heap[i]? = w.heap[i]? := (heap_set hb).2 i h
theorem mapO_congr {vs vs' : Nat → Value} {L : List Nat} {c : Nat} (h : ∀ i ∈ L, vs i = vs' i) : mapO vs L c = mapO vs' L c := by
  have e : L.map (ment vs) = L.map (ment vs') := List.map_congr_left (fun i hi => by simp [ment, h i hi])
  unfold mapO
  rw [e]
theorem below_block {w W : World} {b : Nat} {vs vs' : Nat → Value} {L L' : List Nat} {c c' : Nat} (h : Below w.heap.size w W) (hb : W.heap[b]? = some (mapO vs L c)) (hge : w.heap.size ≤ b) : Below w.heap.size w (setBlock W b (mapO vs' L' c')) :=
  h.grown (World.mapTurned.grown ⟨_, _, _, _, hb, rfl⟩) h.size (fun j hj => by cases hj; exact hge)
theorem grown_block {W : World} {b : Nat} {vs vs' : Nat → Value} {L L' : List Nat} {c c' : Nat} (hb : W.heap[b]? = some (mapO vs L c)) : W.grownBy (setBlock W b (mapO vs' L' c')) (some b) := World.mapTurned.grown ⟨_, _, _, _, hb, rfl⟩
theorem obj_far {w : World} {b : Nat} {o : Obj} (h : w.heap[b]? = some o) {p : Addr} (hp : b ≠ p.block) (u : Value) : (w.setCell p u).heap[b]? = some o := (Below.heap_setCell w p u b hp).trans h
theorem map_ne_cells {w : World} {b g : Nat} {vs : Nat → Value} {L : List Nat} {c t : Nat} {cs : Array Value} {z : Nat × Nat} (h : w.heap[b]? = some (mapO vs L c)) (k : w.heap[g]? = some (.cells cs t z)) : b ≠ g := by
  intro e
  rw [e, k] at h
  unfold mapO at h
  cases h
theorem own_ne_map {w : World} {b base e : Nat} {vs : Nat → Value} {L : List Nat} {c : Nat} {v : Value} {xs : List Int} {ok : Nat → Prop} (h : Kd.R (Kd.int .i64) e w base ok v xs) (k : w.heap[b]? = some (mapO vs L c)) : some b ≠ v.ownBlock := by
  intro q
  obtain ⟨_, h2⟩ := Kd.own_of_R h
  rcases h2 with ⟨rfl, _⟩ | ⟨g, cap, cur, rfl, _, hb, _⟩
  · cases q
  · have e : b = g := Option.some.inj q
    exact map_ne_cells k hb e
end
section
variable {P : Program} {w : World} {t k e : TypeId} {b : Nat} {vs : Nat → Value} {L : List Nat} {clock : Nat}
theorem mlook_t (ht : P.underlying t = some (.map k e)) (hk : P.underlying k = some (.int .i64)) (hb : w.heap[b]? = some (mapO vs L clock)) {x : Nat} (hx : x ∈ L) {v : Value} (hv : vs x = v) :
    (Instr.lookup t (.map (some b)) (.int .i64 (x : Int)) true).run P w = .ok (.tuple #[v, .bool true]) w := by rw [← hv]; exact mlook_in ht hk hb hx true
theorem mlook_f (ht : P.underlying t = some (.map k e)) (hk : P.underlying k = some (.int .i64)) (hb : w.heap[b]? = some (mapO vs L clock)) {x : Nat} (hx : x ∈ L) {v : Value} (hv : vs x = v) :
    (Instr.lookup t (.map (some b)) (.int .i64 (x : Int)) false).run P w = .ok v w := by rw [← hv]; exact mlook_in ht hk hb hx false
end
section
variable {P : Program} {w : World} {t k e : TypeId} {b : Nat} {vs : Nat → Value} {L : List Nat} {clock : Nat}
open Go.ChangeMaps Go.MapKept
/-- 'm[n] = v' at a key that is not there yet. -/
theorem mupd_new (ht : P.underlying t = some (.map k e)) (hk : P.underlying k = some (.int .i64)) {n : Nat} {v : Value} (hb : w.heap[b]? = some (mapO vs L n)) (hn : n ∉ L) :
    (Instr.mapUpdate t (.map (some b)) (.int .i64 (n : Int)) v).run P w = .ok () (setBlock w b (mapO (fun i => if i = n then v else vs i) (L ++ [n]) (n + 1))) := by
  have hb' := hb
  unfold mapO at hb'
  have hx : ∀ i ∈ L, (n : Int) ≠ (i : Int) := fun i hi q => hn (by
    have e : n = i := by omega
    rw [e]; exact hi)
  have he : L.map (ment vs) ++ [{ key := .int .i64 (n : Int), val := v, born := n }] = (L ++ [n]).map (ment (fun i => if i = n then v else vs i)) := by
    simp only [List.map_append, List.map_cons, List.map_nil, ment, if_true]
    congr 1
    refine List.map_congr_left (fun i hi => ?_)
    have q : i ≠ n := fun q => hn (by rw [← q]; exact hi)
    simp [ment, q]
  simp [Instr.mapUpdate, run_underlying ht, Result.andThen, Go.MapKept.run_getObj_map hb', mkey hk, run_findKey hk (mfind_none L 0 hx), run_setObj_map _ hb']
  unfold mapO setBlock
  rw [he]
/-- .. at one that is there. -/
theorem mupd_old (ht : P.underlying t = some (.map k e)) (hk : P.underlying k = some (.int .i64)) {x : Nat} {v : Value} (hb : w.heap[b]? = some (mapO vs L clock)) (hx : x ∈ L) (hnd : L.Nodup) :
    (Instr.mapUpdate t (.map (some b)) (.int .i64 (x : Int)) v).run P w = .ok () (setBlock w b (mapO (fun i => if i = x then v else vs i) L clock)) := by
  have hb' := hb
  unfold mapO at hb'
  have hi : L.idxOf x < L.length := List.idxOf_lt_length_of_mem hx
  have hg : L[L.idxOf x] = x := List.getElem_idxOf hi
  have he : (L.map (ment vs)).modify (L.idxOf x) (fun e => { e with key := .int .i64 (x : Int), val := v }) = L.map (ment (fun i => if i = x then v else vs i)) := by
    apply List.ext_getElem?
    intro j
    rw [List.getElem?_modify, List.getElem?_map, List.getElem?_map]
    rcases Nat.lt_or_ge j L.length with q | q
    · rw [List.getElem?_eq_getElem q]
      by_cases hj : L.idxOf x = j
      · subst hj
        simp [ment, hg]
      · have : L[j] ≠ x := by
          intro e
          apply hj
          have := hnd.idxOf_getElem j q
          rw [e] at this
          exact this
        simp [ment, hj, this]
    · rw [List.getElem?_eq_none q]; simp
  have hs : Instr.sameBits 10000 (.int .i64 (x : Int)) (.int .i64 (x : Int)) = true := by simp [Instr.sameBits]
  simp [Instr.mapUpdate, run_underlying ht, Result.andThen, Go.MapKept.run_getObj_map hb', mkey hk, run_findKey hk (mfind_some L 0 hx), run_setObj_map _ hb']
  have hk2 : (Option.map ((fun x => x.key) ∘ ment vs) L[L.idxOf x]?).getD (Value.int IntKind.i64 (x : Int)) = Value.int IntKind.i64 (x : Int) := by
    rw [List.getElem?_eq_getElem hi]
    simp [ment, hg]
  rw [hk2]
  have hs2 : (Instr.keyThatStays (Value.int IntKind.i64 (x : Int)) (Value.int IntKind.i64 (x : Int))).run P w = .ok (Value.int IntKind.i64 (x : Int)) w := by
    unfold Instr.keyThatStays
    rw [if_pos hs]
    rfl
  rw [hs2]
  simp only
  rw [run_setObj_map _ hb']
  unfold mapO setBlock
  rw [← he]
end
/-- The first k numbers added. -/
def addN (th hl : List Int) : Nat → List Int
  | 0 => th
  | k + 1 => (addN th hl k).set k (rd th (k : Int) + rd hl (k : Int))
theorem addN_len (th hl : List Int) : ∀ k, (addN th hl k).length = th.length
  | 0 => rfl
  | k + 1 => by rw [addN, List.length_set, addN_len th hl k]
theorem addN_at (th hl : List Int) : ∀ k j : Nat, rd (addN th hl k) (j : Int) = if j < k ∧ j < th.length then rd th (j : Int) + rd hl (j : Int) else rd th (j : Int)
  | 0, j => by simp [addN]
  | k + 1, j => by
    have ih := addN_at th hl k j
    have hl' := addN_len th hl k
    simp only [rd, Int.toNat_natCast, List.getD_eq_getElem?_getD] at ih ⊢
    rw [addN, List.getElem?_set]
    by_cases e : k = j
    · subst e
      by_cases h : k < th.length
      · rw [if_pos rfl, if_pos (by omega), if_pos ⟨by omega, h⟩]
        simp [rd]
      · rw [if_pos rfl, if_neg (by omega), if_neg (by omega)]
        rw [List.getElem?_eq_none (by omega)]
    · rw [if_neg e, ih]
      by_cases h : j < k ∧ j < th.length
      · rw [if_pos h, if_pos (by omega)]
      · rw [if_neg h, if_neg (by omega)]
/-! clear of a list that is one's own -/
theorem R_zeros {g n cap base : Nat} {ok : Nat → Prop} : ∀ (m o : Nat) (W : World) (xs : List Int), o + m ≤ xs.length → Kd.R (Kd.int .i64) 3 W base ok (.slice (some ⟨g, 0, none⟩) n cap) xs → ∃ ys : List Int, ys.length = xs.length ∧ Kd.R (Kd.int .i64) 3 (W.setCells g o (List.replicate m (.int .i64 0))) base ok (.slice (some ⟨g, 0, none⟩) n cap) ys
  | 0, o, W, xs, _, h => ⟨xs, rfl, h⟩
  | m + 1, o, W, xs, hm, h => by
    have q := Kd.R_putn h (o : Int) 0
    rw [Int.toNat_natCast] at q
    obtain ⟨ys, e, r⟩ := R_zeros m (o + 1) _ _ (by rw [List.length_set]; omega) q
    exact ⟨ys, by rw [e, List.length_set], r⟩
theorem below_zeros {w0 : World} {g : Nat} (hg : w0.heap.size ≤ g) : ∀ (m o : Nat) (W : World), Below w0.heap.size w0 W → Below w0.heap.size w0 (W.setCells g o (List.replicate m (.int .i64 0)))
  | 0, _, _, h => h
  | m + 1, o, W, h => below_zeros hg m (o + 1) _ (below_set h hg)
/-- clear(v): some list of the same length, in the same place; nothing else turns. -/
theorem clear_R {P : Program} {t : TypeId} (ht : P.underlying t = some (.slice 3)) (hz : ∀ w, (zeroValue 3).run P w = .ok (.int .i64 0) w) {w0 W : World} {ok : Nat → Prop} {v : Value} {xs : List Int} (h : Kd.R (Kd.int .i64) 3 W w0.heap.size ok v xs) (hB : Below w0.heap.size w0 W) :
    ∃ (W' : World) (ys : List Int), (∀ ty, (Builtin.clear_ #[t] ty #[v]).run P W = .ok (.tuple #[]) W') ∧ ys.length = xs.length ∧ Kd.R (Kd.int .i64) 3 W' w0.heap.size ok v ys ∧ (∀ b, some b ≠ v.ownBlock → W'.heap[b]? = W.heap[b]?) ∧ W'.heap.size = W.heap.size ∧ Below w0.heap.size w0 W' := by
  obtain ⟨_, q⟩ := Kd.own_of_R h
  rcases q with ⟨rfl, q2⟩ | ⟨g, cap, cur, rfl, hge, hb, _⟩
  · exact ⟨W, xs, fun ty => by simp [Builtin.clear_, run_underlying ht], rfl, h, fun _ _ => rfl, rfl, hB⟩
  · by_cases h0 : xs.length = 0
    · rw [h0] at h ⊢
      exact ⟨W, xs, fun ty => by simp [Builtin.clear_, run_underlying ht], h0, h, fun _ _ => rfl, rfl, hB⟩
    · obtain ⟨ys, e, r⟩ := R_zeros xs.length 0 W xs (by omega) h
      refine ⟨_, ys, fun ty => ?_, e, r, fun b hb => ?_, ?_, below_zeros hge _ _ _ hB⟩
      · refine Lib.run_clear_slice W t 3 ty (.int .i64 0) ht hz rfl rfl g 0 xs.length cap (by omega) (fun j hj => ?_) (fun j hj => ?_)
        · have c := Kd.R_celln 0 h (j : Int) (by omega) (by omega)
          rw [Int.toNat_natCast] at c
          rw [Nat.zero_add, c.1]; rfl
        · have c := Kd.R_celln 0 h (j : Int) (by omega) (by omega)
          rw [Int.toNat_natCast] at c
          rw [Nat.zero_add]; exact c.2
      · exact setCells_far _ _ _ (fun q => hb (congrArg some q))
      · exact (setCells_same g (List.replicate xs.length (.int .i64 0)) 0 W).2.2.2
/-! Deadlocked sets: one walk through the processes, and the walks until nobody turns. -/
/-- From i on, d processes: what there is, who is left, who was passed by, whether one could be reduced. -/
def hpass (H K : Nat → List Int) : Nat → Nat → List Int → List Nat → List Int → Bool → List Int × List Nat × List Int × Bool
  | 0, _, th, L, out, t => (th, L, out, t)
  | d + 1, i, th, L, out, t => if i ∈ L then (if (units_Fits.f (K i) th) = some true then hpass H K d (i + 1) (addN th (H i) (H i).length) (L.erase i) out true else hpass H K d (i + 1) th L (out ++ [(i : Int)]) t) else hpass H K d (i + 1) th L out t
/-- Walks, until nobody is reduced any more. -/
def hred (H K : Nat → List Int) (n : Nat) : Nat → List Int → List Nat → List Int
  | 0, _, _ => []
  | m + 1, th, L => if (hpass H K n 0 th L [] false).2.2.2 = true then hred H K n m (hpass H K n 0 th L [] false).1 (hpass H K n 0 th L [] false).2.1 else (hpass H K n 0 th L [] false).2.2.1
theorem hpass_less (H K : Nat → List Int) : ∀ (d i : Nat) (th : List Int) (L : List Nat) (out : List Int) (t : Bool), (hpass H K d i th L out t).2.1.length ≤ L.length ∧ ((hpass H K d i th L out t).2.2.2 = true → t = true ∨ (hpass H K d i th L out t).2.1.length < L.length)
  | 0, _, _, _, _, _ => ⟨Nat.le_refl _, fun h => .inl h⟩
  | d + 1, i, th, L, out, t => by
    unfold hpass
    split
    · rename_i hi
      split
      · have ih := hpass_less H K d (i + 1) (addN th (H i) (H i).length) (L.erase i) out true
        have e := List.length_erase_of_mem hi
        have p := List.length_pos_of_mem hi
        exact ⟨by omega, fun _ => .inr (by omega)⟩
      · exact hpass_less H K d (i + 1) th L (out ++ [(i : Int)]) t
    · exact hpass_less H K d (i + 1) th L out t
theorem zero3 (w : World) : (zeroValue 3).run Try.prog w = .ok (.int .i64 0) w := by kernel_rfl
/-- What the closure's boxes hold. -/
structure HBox (W : World) (bo bh ba bl bt br bm : Nat) (vo : Value) (A1 : Option Addr) (c1 : Nat) (A2 : Option Addr) (c2 : Nat) (At : Option Addr) (d ct n : Nat) (L : List Nat) : Prop where
  o : W.heap[bo]? = some (.cells #[vo] 22 (0, 0))
  h : W.heap[bh]? = some (.cells #[.slice A1 n c1] 23 (0, 0))
  a : W.heap[ba]? = some (.cells #[.slice A2 n c2] 23 (0, 0))
  l : W.heap[bl]? = some (.cells #[.map (some bm)] 38 (0, 0))
  t : W.heap[bt]? = some (.cells #[.slice At d ct] 22 (0, 0))
  r : W.heap[br]? = some (.cells #[.func (.func 23) #[] #[.pointer (some ⟨bo, 0, none⟩), .pointer (some ⟨bh, 0, none⟩), .pointer (some ⟨bl, 0, none⟩), .pointer (some ⟨ba, 0, none⟩), .pointer (some ⟨bt, 0, none⟩), .pointer (some ⟨br, 0, none⟩)]] 1 (0, 0))
  m : W.heap[bm]? = some (mapO (fun i => .bool (decide (i ∈ L))) (List.range n) n)
section
variable {W W' : World} {bo bh ba bl bt br bm : Nat} {vo : Value} {A1 : Option Addr} {c1 : Nat} {A2 : Option Addr} {c2 : Nat} {At : Option Addr} {d ct n : Nat} {L : List Nat}
theorem HBox.same (X : HBox W bo bh ba bl bt br bm vo A1 c1 A2 c2 At d ct n L) (h : ∀ b, b = bo ∨ b = bh ∨ b = ba ∨ b = bl ∨ b = bt ∨ b = br ∨ b = bm → W'.heap[b]? = W.heap[b]?) : HBox W' bo bh ba bl bt br bm vo A1 c1 A2 c2 At d ct n L :=
  ⟨(h _ (by simp)).trans X.o, (h _ (by simp)).trans X.h, (h _ (by simp)).trans X.a, (h _ (by simp)).trans X.l, (h _ (by simp)).trans X.t, (h _ (by simp)).trans X.r, (h _ (by simp)).trans X.m⟩
theorem cells_ne {b g t t' : Nat} {cs cs' : Array Value} {z z' : Nat × Nat} (h : W.heap[b]? = some (.cells cs t z)) (k : W.heap[g]? = some (.cells cs' t' z')) (hne : t ≠ t') : b ≠ g := by
  rintro rfl
  rw [h] at k
  injection k with k
  injection k with _ k
  exact hne k
/-- The variable 'out' is written. -/
theorem HBox.put (X : HBox W bo bh ba bl bt br bm vo A1 c1 A2 c2 At d ct n L) (hne : bt ≠ bo) (v : Value) : HBox (W.setCell ⟨bo, 0, none⟩ v) bo bh ba bl bt br bm v A1 c1 A2 c2 At d ct n L :=
  ⟨blk_put (cs' := #[v]) X.o 0 v rfl, blk_far X.h (p := ⟨bo, 0, none⟩) (cells_ne X.h X.o (by decide)) v, blk_far X.a (p := ⟨bo, 0, none⟩) (cells_ne X.a X.o (by decide)) v, blk_far X.l (p := ⟨bo, 0, none⟩) (cells_ne X.l X.o (by decide)) v, blk_far X.t (p := ⟨bo, 0, none⟩) hne v, blk_far X.r (p := ⟨bo, 0, none⟩) (cells_ne X.r X.o (by decide)) v, obj_far X.m (p := ⟨bo, 0, none⟩) (map_ne_cells X.m X.o) v⟩
/-- One is reduced. -/
theorem HBox.turn (X : HBox W bo bh ba bl bt br bm vo A1 c1 A2 c2 At d ct n L) {x : Nat} (hnd : L.Nodup) : HBox (ChangeMaps.setBlock W bm (mapO (fun i => if i = x then .bool false else .bool (decide (i ∈ L))) (List.range n) n)) bo bh ba bl bt br bm vo A1 c1 A2 c2 At d ct n (L.erase x) := by
  have far : ∀ {b t : Nat} {cs : Array Value} {z : Nat × Nat}, W.heap[b]? = some (.cells cs t z) → (ChangeMaps.setBlock W bm (mapO (fun i => if i = x then .bool false else .bool (decide (i ∈ L))) (List.range n) n)).heap[b]? = some (.cells cs t z) := fun h => (setBlock_other X.m (Ne.symm (map_ne_cells X.m h))).trans h
  refine ⟨far X.o, far X.h, far X.a, far X.l, far X.t, far X.r, ?_⟩
  rw [setBlock_same X.m]
  congr 1
  refine mapO_congr (fun i _ => ?_)
  have e3 : i ∈ L.erase x ↔ i ≠ x ∧ i ∈ L := hnd.mem_erase_iff
  by_cases e : i = x
  · rw [if_pos e, decide_eq_false (fun q => (e3.1 q).1 e)]
  · rw [if_neg e]
    by_cases q : i ∈ L
    · rw [decide_eq_true q, decide_eq_true (e3.2 ⟨e, q⟩)]
    · rw [decide_eq_false q, decide_eq_false (fun z => q (e3.1 z).2)]
end
theorem exec_clear {P : Program} {o : Oper} {a : Act} {W W' : World} {t : TypeId} {m : Operand} {mv v : Value} (hop : o.op = .call { callee := .builtin .clear, args := #[m], argTypes := #[t] }) (hm : a.eval m = mv) (h : (Builtin.clear_ #[t] o.type #[mv]).run P W = .ok v W') : (execOp a.eval o).run P W = .ok (.value v) W' := by
  simp [execOp, hop, resolve, invoke, builtin, hm, h, Result.andThen]
theorem exec_upd {P : Program} {o : Oper} {a : Act} {W W' : World} {t : TypeId} {m x y : Operand} {mv xv yv : Value} (hop : o.op = .mapUpdate t m x y) (hm : a.eval m = mv) (hx : a.eval x = xv) (hy : a.eval y = yv) (h : (Instr.mapUpdate t mv xv yv).run P W = .ok () W') : (execOp a.eval o).run P W = .ok .skip W' := by
  simp [execOp, hop, hm, hx, hy, h, Result.andThen]
theorem skip_run {P : Program} {ops : Array Oper} {rest : List Oper} {o : Oper} {a : Act} {Q : Exit → Act → World → Prop} {W w1 : World} (hgd : o.guard = none) (hN : o.dst = none) (hrun : (execOp a.eval o).run P W = .ok .skip w1) (h : wpList P ops Q rest a w1) : wpList P ops Q (o :: rest) a W := by
  refine wpList_plain hgd fun K hK => ?_
  unfold Oper.wp
  rw [hrun]
  show K (a.put o.dst undef) w1
  rw [hN]
  exact hK _ _ h
theorem skip_runE {P : Program} {ops : Array Oper} {rest : List Oper} {o : Oper} {a : Act} {Q : Exit → Act → World → Prop} {W w1 : World} (hgd : o.guard = none) (hN : o.dst = none) (hrun : (execOp a.eval o).run P W = .ok .skip w1) (h : ∀ w2, w2 = w1 → wpList P ops Q rest a w2) : wpList P ops Q (o :: rest) a W := skip_run hgd hN hrun (h _ rfl)
theorem at_drew {P : Program} {ops : Array Oper} {l : List Oper} {a : Act} {Q : Exit → Act → World → Prop} {W : World} (h : ∀ Wd : World, Below W.heap.size W Wd → wpList P ops Q l a Wd) : wpList P ops Q l a W.drew := h _ (below_drew (Below.refl _ _))
section
variable {W W' : World} {bo bh ba bl bt br bm : Nat} {vo : Value} {A1 : Option Addr} {c1 : Nat} {A2 : Option Addr} {c2 : Nat} {At : Option Addr} {d ct n : Nat} {L : List Nat}
theorem HBox.below (X : HBox W bo bh ba bl bt br bm vo A1 c1 A2 c2 At d ct n L) (hb : Below W.heap.size W W') : HBox W' bo bh ba bl bt br bm vo A1 c1 A2 c2 At d ct n L :=
  ⟨blk_below X.o hb, blk_below X.h hb, blk_below X.a hb, blk_below X.l hb, blk_below X.t hb, blk_below X.r hb, blk_below X.m hb⟩
/-- A row of the call's own is written. -/
theorem HBox.kept {v : Value} {xs : List Int} {base : Nat} {ok : Nat → Prop} (X : HBox W bo bh ba bl bt br bm vo A1 c1 A2 c2 At d ct n L) (hR : Kd.R (Kd.int .i64) 3 W base ok v xs) (hk : ∀ b, b < W.heap.size → some b ≠ v.ownBlock → W'.heap[b]? = W.heap[b]?) : HBox W' bo bh ba bl bt br bm vo A1 c1 A2 c2 At d ct n L :=
  HBox.same X (fun b hb => by
    rcases hb with rfl | rfl | rfl | rfl | rfl | rfl | rfl
    · exact hk _ (blk_lt X.o) (Kd.R_ne hR X.o (by decide))
    · exact hk _ (blk_lt X.h) (Kd.R_ne hR X.h (by decide))
    · exact hk _ (blk_lt X.a) (Kd.R_ne hR X.a (by decide))
    · exact hk _ (blk_lt X.l) (Kd.R_ne hR X.l (by decide))
    · exact hk _ (blk_lt X.t) (Kd.R_ne hR X.t (by decide))
    · exact hk _ (blk_lt X.r) (Kd.R_ne hR X.r (by decide))
    · exact hk _ (blk_lt X.m) (own_ne_map hR X.m))
end
theorem hadd_l0 (th h : List Int) (hl : h.length ≤ th.length) (h6 : h.length ≤ 6) (hb : ∀ q : Nat, q < h.length → 0 ≤ rd h q ∧ rd h q ≤ 1000 ∧ 0 ≤ rd th q ∧ rd th q ≤ 1000000) : ∀ (d i : Nat), i + d = h.length → hadd.l0 (d + 1) (addN th h i) h (h.length : Int) (i : Int) = some (addN th h h.length)
  | 0, i, e => by
    obtain rfl : i = h.length := by omega
    simp only [hadd.l0]
    rw [if_neg (by omega)]
  | d + 1, i, e => by
    have q := hb i (by omega)
    have e1 : rd (addN th h i) (i : Int) = rd th (i : Int) := by rw [addN_at, if_neg (by omega)]
    have e2 : wrap64 (rd th (i : Int) + rd h (i : Int)) = rd th (i : Int) + rd h (i : Int) := by unfold wrap64; omega
    have e3 : wrap64 ((i : Int) + 1) = ((i + 1 : Nat) : Int) := by unfold wrap64; omega
    have hl' := addN_len th h i
    rw [hadd.l0, if_pos (by omega), if_pos (by omega), if_pos (by omega), if_pos (by omega), e1, e2, e3, Int.toNat_natCast]
    exact hadd_l0 th h hl h6 hb d (i + 1) (by omega)
theorem hadd_is (th h : List Int) (hl : h.length ≤ th.length) (h6 : h.length ≤ 6) (hb : ∀ q : Nat, q < h.length → 0 ≤ rd h q ∧ rd h q ≤ 1000 ∧ 0 ≤ rd th q ∧ rd th q ≤ 1000000) : hadd.f (h.length + 1) th h = some (addN th h h.length) := hadd_l0 th h hl h6 hb h.length 0 (by omega)
/-- What the closure leaves. -/
def RedPost (w0 : World) (bo bh ba bl bt br bm : Nat) (A1 : Option Addr) (c1 : Nat) (A2 : Option Addr) (c2 : Nat) (At : Option Addr) (d ct n : Nat) (out : List Int) (e : Ending) (w' : World) : Prop :=
  e = .returned (.tuple #[]) ∧ ∃ vo L ok, HBox w' bo bh ba bl bt br bm vo A1 c1 A2 c2 At d ct n L ∧ Kd.R (Kd.int .i64) 3 w' w0.heap.size ok vo out ∧ Below w0.heap.size w0 w'
/-- What there is stays in bounds. -/
def ThOk (d : Nat) (th : List Int) (L : List Nat) : Prop := th.length = d ∧ ∀ j : Nat, j < d → 0 ≤ rd th j ∧ rd th j + 1000 * (L.length : Int) ≤ 33000
theorem ThOk.turn {d : Nat} {th h : List Int} {L : List Nat} {i : Nat} (H : ThOk d th L) (hi : i ∈ L) (hh : h.length = d ∧ ∀ j : Nat, j < d → 0 ≤ rd h j ∧ rd h j ≤ 1000) : ThOk d (addN th h h.length) (L.erase i) := by
  have e := List.length_erase_of_mem hi
  have p := List.length_pos_of_mem hi
  refine ⟨by rw [addN_len]; exact H.1, fun j hj => ?_⟩
  have q1 := H.2 j hj
  have q2 := hh.2 j hj
  rw [addN_at]
  split <;> omega
set_option maxHeartbeats 8000000 in
set_option maxRecDepth 100000 in
theorem holt_reduce.calls (w0 : World) (bo bh ba bl bt br bm : Nat) (A1 : Option Addr) (c1 : Nat) (A2 : Option Addr) (c2 : Nat) (At : Option Addr) (d ct : Nat) (l1 l2 : List (List Int))
    (hr1 : Kd.C (Kd.slice 3 (Kd.int .i64)) w0 A1 l1.length l1) (hr2 : Kd.C (Kd.slice 3 (Kd.int .i64)) w0 A2 l1.length l2) (hn : l1.length ≤ 32) (hd : d ≤ 6) (hh : ∀ i : Nat, i < l1.length → (rd_L1 l1 (i : Int)).length = d ∧ ∀ j : Nat, j < d → 0 ≤ rd (rd_L1 l1 (i : Int)) j ∧ rd (rd_L1 l1 (i : Int)) j ≤ 1000)
    (hot : bt ≠ bo) (hge : w0.heap.size ≤ bo ∧ w0.heap.size ≤ bm) :
    ∀ (m : Nat) (W : World) (vo : Value) (L : List Nat) (th xs : List Int), L.length < m → L.Nodup → ThOk d th L → HBox W bo bh ba bl bt br bm vo A1 c1 A2 c2 At d ct l1.length L →
      Kd.R (Kd.int .i64) 3 W w0.heap.size (fun q => some q ≠ (Value.slice At d ct).ownBlock) vo xs → Kd.R (Kd.int .i64) 3 W w0.heap.size (fun q => some q = (Value.slice At d ct).ownBlock) (.slice At d ct) th → Below w0.heap.size w0 W →
      Calls Try.prog 23 #[.pointer (some ⟨bo, 0, none⟩), .pointer (some ⟨bh, 0, none⟩), .pointer (some ⟨bl, 0, none⟩), .pointer (some ⟨ba, 0, none⟩), .pointer (some ⟨bt, 0, none⟩), .pointer (some ⟨br, 0, none⟩)] W
        (RedPost w0 bo bh ba bl bt br bm A1 c1 A2 c2 At d ct l1.length (hred (fun i => rd_L1 l1 (i : Int)) (fun i => rd_L1 l2 (i : Int)) l1.length m th L)) := by
  intro m
  induction m with
  | zero => intro W vo L th xs hm; omega
  | succ m ih => ?_
  intro W vo L th xs hm hnd hth X hR hT hB
  obtain ⟨Wc, ys, hclr, hlen, hR2, hkeep, hsz, hB2⟩ := clear_R (P := Try.prog) Try.underlying22 zero3 hR hB
  have hc0 : W.cell? ⟨bo, 0, none⟩ = some vo := (blk_cell X.o 0).trans rfl
  have XC := Aside0.mk (HBox.kept X hR (fun b _ hb => hkeep b hb))
  have TH := Aside0.mk (Kd.R_step hT (fun q hq _ => hkeep q (fun e => hR.1 q e.symm hq)))
  have HCL := Aside0.mk hclr
  have OUT := Aside0.mk hR2
  have HB := Aside0.mk hB2
  have HOT := Aside0.mk hot
  have GE := Aside0.mk hge
  have HR1 := Aside0.mk hr1
  have HR2 := Aside0.mk hr2
  have HH := Aside0.mk hh
  have IH := Aside0.mk ih
  have HM := Aside0.mk hm
  have ND0 := Aside0.mk hnd
  have TB0 := Aside0.mk hth
  clear X hR hT hB hclr hlen hR2 hkeep hsz hB2 hot hge hr1 hr2 hh ih hm hnd hth
  go_enter Try.func23, Try.ntmps23
  obtain ⟨Ao, co, rfl⟩ := Kd.R_slice OUT.out
  have hco : Wc.cell? ⟨bo, 0, none⟩ = some (.slice Ao ys.length co) := (blk_cell XC.out.o 0).trans rfl
  have hfo : Wc.frozen? ⟨bo, 0, none⟩ = false := blk_frozen XC.out.o 0
  go_upto_region 2 with (first | ((with_reducible refine gate_builtin (b := .clear) (xs := #[.tmp 8]) rfl ?_); refine Kd.event_run rfl (exec_clear rfl rfl (HCL.out _)) ?_))
  have n0_ := Aside0.mk (XC.out.put HOT.out (.slice Ao 0 co))
  have n1_ := Aside0.mk (Kd.R_far (Kd.R_types TH.out XC.out.o (by intro q hq; rcases List.mem_cons.1 hq with rfl | hq; exact (by decide); cases hq)) (p := ⟨bo, 0, none⟩) (fun k hk => hk.2) (.slice Ao 0 co))
  have n2_ := Aside0.mk (Kd.R_far (Kd.R_types (Kd.R_take OUT.out (Nat.zero_le _)) XC.out.o (by intro q hq; rcases List.mem_cons.1 hq with rfl | hq; exact (by decide); cases hq)) (p := ⟨bo, 0, none⟩) (fun k hk => hk.2) (.slice Ao 0 co))
  have n3_ := Aside0.mk (below_set (j := 0) (v := .slice Ao 0 co) HB.out GE.out.1)
  clear XC TH OUT HB hco hfo hc0 HCL
  generalize (Wc.setCell { block := bo, off := 0 } (Value.slice Ao 0 co)) = W1 at n0_ n1_ n2_ n3_ ⊢
  have X := n0_
  have TH := Aside0.mk (Kd.R_mono n1_.out (fun _ h => h.1))
  have OUT := Aside0.mk (Kd.R_mono n2_.out (fun _ h => h.1))
  have HB := n3_
  clear n0_ n1_ n2_ n3_
  have hch : W1.cell? ⟨bh, 0, none⟩ = some (.slice A1 l1.length c1) := (blk_cell X.out.h 0).trans rfl
  have e0 : List.take 0 ys = [] := List.take_zero
  rw [e0] at OUT
  clear e0
  go_wp2_with (fail)
  clear hch
  go_loopw [6, 13] (fun v6 v13 wx => ∃ (i : Nat) (tn : Bool) (vo : Value) (th1 : List Int) (L1 : List Nat) (out1 : List Int), i ≤ l1.length ∧ v13 = .int .i64 (i : Int) ∧ v6 = .bool tn ∧ Aside0 (hpass (fun i => rd_L1 l1 (i : Int)) (fun i => rd_L1 l2 (i : Int)) (l1.length - i) i th1 L1 out1 tn = hpass (fun i => rd_L1 l1 (i : Int)) (fun i => rd_L1 l2 (i : Int)) l1.length 0 th L [] false) ∧ Aside0 (HBox wx bo bh ba bl bt br bm vo A1 c1 A2 c2 At d ct l1.length L1) ∧
    Aside0 (Kd.R (Kd.int .i64) 3 wx w0.heap.size (fun q => some q = (Value.slice At d ct).ownBlock) (.slice At d ct) th1) ∧ Aside0 (Kd.R (Kd.int .i64) 3 wx w0.heap.size (fun q => some q ≠ (Value.slice At d ct).ownBlock) vo out1) ∧ Aside0 (L1.Nodup ∧ ThOk d th1 L1) ∧ Aside0 (out1.length ≤ i) ∧ Aside0 (Below w0.heap.size w0 wx)) (fun _ v13 _ => l1.length - (intOf v13).toNat)
  case atStart => exact ⟨0, false, _, th, L, [], Nat.zero_le _, rfl, rfl, ⟨rfl⟩, X, TH, OUT, ⟨ND0.out, TB0.out⟩, ⟨Nat.zero_le _⟩, HB⟩
  case round =>
    clear X TH OUT HB
    obtain ⟨i, tn, vo, th1, L1, out1, hi, rfl, rfl, HP, X, TH, OUT, ND, OL, HB⟩ := hrel
    by_cases hlt : i < l1.length
    · have hii : (i : Int) < (l1.length : Int) := by omega
      have HI := Aside0.mk hlt
      have HNN := Aside0.mk hn
      have hw3 : (i : Int) ≤ 9223372036854775806 := by omega
      have es : l1.length - i = (l1.length - (i + 1)) + 1 := by omega
      have hcl : wr.cell? ⟨bl, 0, none⟩ = some (.map (some bm)) := (blk_cell X.out.l 0).trans rfl
      by_cases hin : i ∈ L1
      · have HIN := Aside0.mk hin
        have hca : wr.cell? ⟨ba, 0, none⟩ = some (.slice A2 l1.length c2) := (blk_cell X.out.a 0).trans rfl
        have hct : wr.cell? ⟨bt, 0, none⟩ = some (.slice At d ct) := (blk_cell X.out.t 0).trans rfl
        obtain ⟨ad2, Aa, ca, e2, hcx, hla, hRa⟩ := at_L1 HR2.out (i : Int) (by omega) (by omega)
        rw [Int.toNat_natCast] at hcx
        subst e2
        have hcx2 : wr.cell? (ad2.add i) = some (.slice Aa (rd_L1 l2 (i : Int)).length ca) := pw_cell_below HB.out hcx
        have RA := Aside0.mk hRa
        have LA := Aside0.mk hla
        clear hcx hRa hla
        cases hf : units_Fits.f (rd_L1 l2 (i : Int)) th1 with
        | none => simp [units_Fits.f] at hf
        | some b =>
          have hp := HP.out
          rw [es, hpass, if_pos hin, hf] at hp
          have HF := Aside0.mk hf
          clear es hin hi hlt hn HP hf
          cases b with
          | false =>
            rw [if_neg (by simp)] at hp
            have HP1 := Aside0.mk hp
            clear hp
            go_wp2_with (first
              | ((with_reducible refine gate_dst (N := 23) rfl ?_); refine Kd.event_run rfl (exec_lookup rfl rfl rfl (mlook_f Try.underlying38 Try.underlying3 X.out.m (List.mem_range.2 HI.out) (show Value.bool (decide (i ∈ L1)) = .bool true by rw [decide_eq_true HIN.out]))) ?_))

            go_still_tail 5, (by kernel_rfl)
            refine at_drew (W := wr) ?_
            intro Wd hdb
            clear hcl hca hct hcx2
            have n0_ := Aside0.mk (X.out.below hdb)
            have n1_ := Aside0.mk (Kd.R_below TH.out hdb)
            have n2_ := Aside0.mk (Kd.R_below OUT.out hdb)
            have n3_ := Aside0.mk (below_step HB.out hdb)
            clear X TH OUT HB hdb
            have X := n0_
            have TH := n1_
            have OUT := n2_
            have HB := n3_
            clear n0_ n1_ n2_ n3_
            have FC : Calls Try.prog 24 #[.slice Aa (rd_L1 l2 (i : Int)).length ca, .slice At d ct] Wd fun e w' => e = .returned (.bool false) ∧ Below Wd.heap.size Wd w' := by
              obtain ⟨q1, q2, q3⟩ := Kd.R_reads' TH.out
              have q4 := units_Fits.calls Aa ca (rd_L1 l2 (i : Int)) At ct th1 false Wd (Kd.C_below RA.out HB.out) LA.out q3 (by omega) HF.out
              rw [← q1] at q4
              exact q4
            have FCA := Aside0.mk FC
            clear FC
            go_wp2_with (first
              | (go_at_call 24; (with_reducible refine FCA.out.mono ?_); rintro e w31 ⟨rfl, hb⟩; have n0_ := Aside0.mk (X.out.below hb); have n1_ := Aside0.mk (Kd.R_below TH.out hb); have n2_ := Aside0.mk (Kd.R_below OUT.out hb); have n3_ := Aside0.mk (below_step HB.out hb); clear X TH OUT HB hb; have X := n0_; have TH := n1_; have OUT := n2_; have HB := n3_; clear n0_ n1_ n2_ n3_; have hco : w31.cell? ⟨bo, 0, none⟩ = some vo := (blk_cell X.out.o 0).trans rfl)
              | ((with_reducible refine gate_builtin (b := .append) (xs := #[.tmp 16, .tmp 18]) rfl ?_); at_builtin; refine Kd.R_append (Kd.int .i64) (w0 := w0) w0.heap.size rfl (.tmp 16) (.tmp 18) 22 3 (.int .i64 0) 8 rfl Try.underlying22 info3 rfl (by decide) (by omega) vo out1 (i : Int) [.int .i64 (i : Int)] (fun q => some q ≠ (Value.slice At d ct).ownBlock) (fun _ => False) rfl rfl ?aP (fun _ hk => hk.elim) ?aF ?aO ?aB ?aS ?aL ?_; (case aP => exact rfl); (case aB => exact HB.out); (case aF => exact (fun q hq e => by have := Kd.R_lt TH.out q e.symm; omega)); (case aO => exact OUT.out); (case aS => exact (below_size HB.out)); (case aL => have := OL.out; have := HI.out; have := HNN.out; omega); intro v19 w19 ho hb hg hat; obtain ⟨Ap, cp, ep⟩ := Kd.R_slice ho; have ep2 : v19 = .slice Ap (out1.length + 1) cp := by { rw [ep, List.length_append]; rfl }; clear ep; subst ep2; have n0_ := Aside0.mk (X.out.kept OUT.out (fun b hb1 hb2 => hg.block b hb1 hb2)); have n1_ := Aside0.mk (Kd.R_grown2 TH.out rfl hg (fun q hq e => OUT.out.1 q hq e)); have n2_ := Aside0.mk ho; have n3_ := Aside0.mk hb; clear X TH OUT HB ho hb hg hat hco; have X := n0_; have TH := n1_; have OUT := n2_; have HB := n3_; clear n0_ n1_ n2_ n3_; have hco : w19.cell? ⟨bo, 0, none⟩ = some vo := (blk_cell X.out.o 0).trans rfl; have hfo : w19.frozen? ⟨bo, 0, none⟩ = false := blk_frozen X.out.o 0))
            have n0_ := Aside0.mk (X.out.put HOT.out (.slice Ap (out1.length + 1) cp))
            have n1_ := Aside0.mk (Kd.R_mono (Kd.R_far (Kd.R_types TH.out X.out.o (by intro q hq; rcases List.mem_cons.1 hq with rfl | hq; exact (by decide); cases hq)) (p := ⟨bo, 0, none⟩) (fun k hk => hk.2) (.slice Ap (out1.length + 1) cp)) (fun _ h => h.1))
            have n2_ := Aside0.mk (Kd.R_mono (Kd.R_far (Kd.R_types OUT.out X.out.o (by intro q hq; rcases List.mem_cons.1 hq with rfl | hq; exact (by decide); cases hq)) (p := ⟨bo, 0, none⟩) (fun k hk => hk.2) (.slice Ap (out1.length + 1) cp)) (fun _ h => h.1))
            have n3_ := Aside0.mk (below_set (j := 0) (v := .slice Ap (out1.length + 1) cp) HB.out GE.out.1)
            exact ⟨⟨i + 1, tn, _, th1, L1, out1 ++ [(i : Int)], HI.out, by go_num, rfl, HP1, n0_, n1_, n2_, ND, ⟨by have := OL.out; simp; omega⟩, n3_⟩, by have := HI.out; simp [intOf]; omega⟩
          | true =>
            rw [if_pos rfl] at hp
            have HP1 := Aside0.mk hp
            clear hp
            go_wp2_with (first
              | ((with_reducible refine gate_dst (N := 23) rfl ?_); refine Kd.event_run rfl (exec_lookup rfl rfl rfl (mlook_f Try.underlying38 Try.underlying3 X.out.m (List.mem_range.2 HI.out) (show Value.bool (decide (i ∈ L1)) = .bool true by rw [decide_eq_true HIN.out]))) ?_))
            go_still_tail 5, (by kernel_rfl)
            refine at_drew (W := wr) ?_
            intro Wd hdb
            clear hcl hca hct hcx2
            have n0_ := Aside0.mk (X.out.below hdb)
            have n1_ := Aside0.mk (Kd.R_below TH.out hdb)
            have n2_ := Aside0.mk (Kd.R_below OUT.out hdb)
            have n3_ := Aside0.mk (below_step HB.out hdb)
            clear X TH OUT HB hdb
            have X := n0_
            have TH := n1_
            have OUT := n2_
            have HB := n3_
            clear n0_ n1_ n2_ n3_
            have FC : Calls Try.prog 24 #[.slice Aa (rd_L1 l2 (i : Int)).length ca, .slice At d ct] Wd fun e w' => e = .returned (.bool true) ∧ Below Wd.heap.size Wd w' := by
              obtain ⟨q1, q2, q3⟩ := Kd.R_reads' TH.out
              have q4 := units_Fits.calls Aa ca (rd_L1 l2 (i : Int)) At ct th1 true Wd (Kd.C_below RA.out HB.out) LA.out q3 (by omega) HF.out
              rw [← q1] at q4
              exact q4
            have FCA := Aside0.mk FC
            clear FC
            obtain ⟨ad1, Ah, ch, e1, hcx, hlh, hRh⟩ := at_L1 HR1.out (i : Int) (by omega) (by have := HI.out; omega)
            rw [Int.toNat_natCast] at hcx
            subst e1
            go_wp2_with (first
              | (go_at_call 24; (with_reducible refine FCA.out.mono ?_); rintro e w31 ⟨rfl, hb⟩; have n0_ := Aside0.mk (X.out.below hb); have n1_ := Aside0.mk (Kd.R_below TH.out hb); have n2_ := Aside0.mk (Kd.R_below OUT.out hb); have n3_ := Aside0.mk (below_step HB.out hb); clear X TH OUT HB hb; have X := n0_; have TH := n1_; have OUT := n2_; have HB := n3_; clear n0_ n1_ n2_ n3_; have hct : w31.cell? ⟨bt, 0, none⟩ = some (.slice At d ct) := (blk_cell X.out.t 0).trans rfl; have hch : w31.cell? ⟨bh, 0, none⟩ = some (.slice (some ad1) l1.length c1) := (blk_cell X.out.h 0).trans rfl; have hcx1 : w31.cell? (ad1.add i) = some (.slice Ah (rd_L1 l1 (i : Int)).length ch) := pw_cell_below HB.out hcx))
            have RH := Aside0.mk hRh
            have LH := Aside0.mk hlh
            clear hRh hlh hcx
            go_still_tail 5, (by kernel_rfl)
            refine at_drew (W := w31) ?_
            intro We hdb
            clear hct hch hcx1
            have n0_ := Aside0.mk (X.out.below hdb)
            have n1_ := Aside0.mk (Kd.R_below TH.out hdb)
            have n2_ := Aside0.mk (Kd.R_below OUT.out hdb)
            have n3_ := Aside0.mk (below_step HB.out hdb)
            clear X TH OUT HB hdb
            have X := n0_
            have TH := n1_
            have OUT := n2_
            have HB := n3_
            clear n0_ n1_ n2_ n3_
            have HI2 := HH.out i HI.out
            have AC := hadd.calls ((rd_L1 l1 (i : Int)).length + 1) (fun q => some q = (Value.slice At d ct).ownBlock) (.slice At d ct) th1 Ah ch (rd_L1 l1 (i : Int)) (addN th1 (rd_L1 l1 (i : Int)) (rd_L1 l1 (i : Int)).length) w0 We HB.out TH.out (Kd.C_kept_came (Kd.heap_int .i64) RH.out HB.out (fun k hk => by rcases Kd.R_base2 TH.out with q | ⟨k', q, q2⟩; (rw [q] at hk; cases hk); (rw [q] at hk; cases hk; exact q2))) LH.out
              (hadd_is th1 (rd_L1 l1 (i : Int)) (by have := HI2.1; have := ND.out.2.1; omega) (by rw [HI2.1]; exact hd) (fun q hq => by
                have q1 := ND.out.2.2 q (by rw [HI2.1] at hq; exact hq)
                have q2 := HI2.2 q (by rw [HI2.1] at hq; exact hq)
                omega))
            have ACA := Aside0.mk AC
            have HI3 := Aside0.mk HI2
            clear AC HI2
            go_wp2_with (first
              | (go_at_call 25; (with_reducible refine ACA.out.mono ?_); rintro e w37 ⟨rfl, hr, hb, hk⟩; have n0_ := Aside0.mk (X.out.kept TH.out (fun b hb1 hb2 => hk.2 b hb1 hb2)); have n1_ := Aside0.mk (Kd.R_reok (ok := fun q => some q = (Value.slice At d ct).ownBlock) rfl hr (fun k hk => hk.symm)); have n2_ := Aside0.mk (Kd.R_kept OUT.out hk (fun k h1 h2 => h1 h2)); have n3_ := Aside0.mk hb; clear X TH OUT HB hb hr hk; have X := n0_; have TH := n1_; have OUT := n2_; have HB := n3_; clear n0_ n1_ n2_ n3_; have hcl2 : w37.cell? ⟨bl, 0, none⟩ = some (.map (some bm)) := (blk_cell X.out.l 0).trans rfl)
              | (refine skip_runE rfl rfl (exec_upd rfl rfl rfl rfl (mupd_old (v := .bool false) Try.underlying38 Try.underlying3 X.out.m (List.mem_range.2 HI.out) List.nodup_range)) ?_; intro w39 e39; have n0_ : Aside0 (HBox w39 bo bh ba bl bt br bm vo (some ad1) c1 (some ad2) c2 At d ct l1.length (L1.erase i)) := ⟨e39 ▸ X.out.turn ND.out.1⟩; have n1_ : Aside0 (Kd.R (Kd.int .i64) 3 w39 w0.heap.size (fun q => some q = (Value.slice At d ct).ownBlock) (.slice At d ct) (addN th1 (rd_L1 l1 (i : Int)) (rd_L1 l1 (i : Int)).length)) := ⟨e39 ▸ Kd.R_step TH.out (fun k hk _ => setBlock_other X.out.m (fun e => own_ne_map TH.out X.out.m (by rw [← e]; exact hk)))⟩; have n2_ : Aside0 (Kd.R (Kd.int .i64) 3 w39 w0.heap.size (fun q => some q ≠ (Value.slice At d ct).ownBlock) vo out1) := ⟨e39 ▸ Kd.R_mono (Kd.R_step (Kd.R_tight2 rfl OUT.out) (fun k hk _ => setBlock_other X.out.m (fun e => own_ne_map OUT.out X.out.m (by rw [← e]; exact hk.1)))) (fun _ h => h.2)⟩; have n3_ : Aside0 (Below w0.heap.size w0 w39) := ⟨e39 ▸ below_block HB.out X.out.m GE.out.2⟩; clear e39 X TH OUT HB; have X := n0_; have TH := n1_; have OUT := n2_; have HB := n3_; clear n0_ n1_ n2_ n3_))
            exact ⟨⟨i + 1, true, _, addN th1 (rd_L1 l1 (i : Int)) (rd_L1 l1 (i : Int)).length, L1.erase i, out1, HI.out, by go_num, rfl, HP1, X, TH, OUT, ⟨ND.out.1.erase i, ND.out.2.turn HIN.out HI3.out⟩, ⟨Nat.le_succ_of_le OL.out⟩, HB⟩, by have := HI.out; simp [intOf]; omega⟩
      · have HIN := Aside0.mk hin
        have hp := HP.out
        rw [es, hpass, if_neg hin] at hp
        have HP1 := Aside0.mk hp
        clear hp es hin hi hlt hn HP
        go_wp2_with (first
          | ((with_reducible refine gate_dst (N := 23) rfl ?_); refine Kd.event_run rfl (exec_lookup rfl rfl rfl (mlook_f Try.underlying38 Try.underlying3 X.out.m (List.mem_range.2 HI.out) (show Value.bool (decide (i ∈ L1)) = .bool false by rw [decide_eq_false HIN.out]))) ?_))
        exact ⟨⟨i + 1, tn, _, th1, L1, out1, HI.out, by go_num, rfl, HP1, X, TH, OUT, ND, ⟨Nat.le_succ_of_le OL.out⟩, HB⟩, by have := HI.out; simp [intOf]; omega⟩
    · obtain rfl : i = l1.length := by omega
      have hp := HP.out
      rw [Nat.sub_self, hpass] at hp
      have hre : hred (fun i => rd_L1 l1 (i : Int)) (fun i => rd_L1 l2 (i : Int)) l1.length (m + 1) th L = if tn = true then hred (fun i => rd_L1 l1 (i : Int)) (fun i => rd_L1 l2 (i : Int)) l1.length m th1 L1 else out1 := by rw [hred, ← hp]
      have hls := (hpass_less (fun i => rd_L1 l1 (i : Int)) (fun i => rd_L1 l2 (i : Int)) l1.length 0 th L [] false).2
      rw [← hp] at hls
      have HRE := Aside0.mk hre
      have HLS := Aside0.mk hls
      clear hre hls hp HP hi hlt
      cases tn with
      | false =>
        go_wp2_with (fail)
        go_end0
        exact ⟨rfl, vo, L1, _, X.out, (by rw [HRE.out, if_neg (by simp)]; exact OUT.out), HB.out⟩
      | true =>
        have hcr : wr.cell? ⟨br, 0, none⟩ = some (.func (.func 23) #[] #[.pointer (some ⟨bo, 0, none⟩), .pointer (some ⟨bh, 0, none⟩), .pointer (some ⟨bl, 0, none⟩), .pointer (some ⟨ba, 0, none⟩), .pointer (some ⟨bt, 0, none⟩), .pointer (some ⟨br, 0, none⟩)]) := (blk_cell X.out.r 0).trans rfl
        have IC := Aside0.mk (IH.out wr vo L1 th1 out1 (by rcases HLS.out rfl with q | q; (cases q); (have := HM.out; simp only at q; omega)) ND.out.1 ND.out.2 X.out OUT.out TH.out HB.out)
        go_wp2_with (first
          | (go_at_call 23; (with_reducible refine IC.out.mono ?_); intro e w43 HP3; obtain ⟨rfl, vo3, L3, ok3, x3, r3, b3⟩ := HP3; have X3 := Aside0.mk x3; have R3 := Aside0.mk r3; have B3 := Aside0.mk b3; clear x3 r3 b3))
        go_end0
        exact ⟨rfl, vo3, L3, ok3, X3.out, (by rw [HRE.out, if_pos (by simp)]; exact R3.out), B3.out⟩
/-! What May's yes says. -/
theorem units_may_neg {l : List Int} {n i : Int} (hi : i < 0) (hn : 0 ≤ n) : ∀ k : Nat, units_may.l0 k l n i = none
  | 0 => by simp [units_may.l0]
  | k + 1 => by
    simp only [units_may.l0]
    rw [if_pos (by omega), if_neg (by omega)]
theorem units_may_true {l : List Int} {B : Int} (hB : B = 9223372036854775808) : ∀ (k : Nat) (i : Nat), (i : Int) < B → units_may.l0 k l (l.length : Int) (i : Int) = some true → ∀ j : Nat, i ≤ j → j < l.length → 0 ≤ rd l j ∧ rd l j ≤ 1000
  | 0, _, _, h => by simp [units_may.l0] at h
  | k + 1, i, hi, h => by
    intro j hij hj
    simp only [units_may.l0] at h
    rw [if_pos (by omega), if_pos (by omega), if_pos (by omega)] at h
    by_cases h1 : rd l (i : Int) < 0
    · rw [if_pos h1] at h; cases h
    · rw [if_neg h1] at h
      by_cases h2 : rd l (i : Int) > 1000
      · rw [if_pos h2] at h; cases h
      · rw [if_neg h2] at h
        by_cases e : i = j
        · subst e; omega
        · by_cases hb2 : (i : Int) + 1 < B
          · have hw : wrap64 ((i : Int) + 1) = ((i + 1 : Nat) : Int) := by unfold wrap64; omega
            rw [hw] at h
            exact units_may_true hB k (i + 1) (by omega) h j (by omega) hj
          · have hw : wrap64 ((i : Int) + 1) < 0 := by unfold wrap64; omega
            rw [units_may_neg hw (by omega)] at h
            cases h
theorem units_Is_true {l : List Int} {n : Int} {k : Nat} (h : units_Is.f k l n = some true) : (l.length : Int) = n ∧ ∀ j : Nat, j < l.length → 0 ≤ rd l j ∧ rd l j ≤ 1000 := by
  unfold units_Is.f at h
  by_cases e : (l.length : Int) = n
  · rw [if_pos e] at h
    refine ⟨e, fun j hj => ?_⟩
    obtain ⟨b, hb, hs⟩ := Option.bind_eq_some_iff.mp h
    obtain rfl := Option.some.inj hs
    exact units_may_true rfl k 0 (by omega) hb j (by omega) hj
  · rw [if_neg e] at h; cases h
/-- A state that may be. -/
structure holt_Ok (l0 : List Int) (l1 l2 : List (List Int)) : Prop where
  n6 : l0.length ≤ 6
  av : ∀ j : Nat, j < l0.length → 0 ≤ rd l0 j ∧ rd l0 j ≤ 1000
  eq : l1.length = l2.length
  n32 : l1.length ≤ 32
  hl : ∀ i : Nat, i < l1.length → (rd_L1 l1 (i : Int)).length = l0.length ∧ ∀ j : Nat, j < l0.length → 0 ≤ rd (rd_L1 l1 (i : Int)) j ∧ rd (rd_L1 l1 (i : Int)) j ≤ 1000
  cl : ∀ i : Nat, i < l1.length → (rd_L1 l2 (i : Int)).length = l0.length ∧ ∀ j : Nat, j < l0.length → 0 ≤ rd (rd_L1 l2 (i : Int)) j ∧ rd (rd_L1 l2 (i : Int)) j ≤ 1000
theorem holt_rows_true {l1 l2 : List (List Int)} {n : Nat} (hl : l1.length ≤ 32) : ∀ (k i : Nat), holt_May.l0 k l1 l2 (n : Int) (l1.length : Int) (i : Int) = some true → ∀ j : Nat, i ≤ j → j < l1.length →
    ((rd_L1 l1 j).length = n ∧ ∀ q : Nat, q < n → 0 ≤ rd (rd_L1 l1 j) q ∧ rd (rd_L1 l1 j) q ≤ 1000) ∧ ((rd_L1 l2 j).length = n ∧ ∀ q : Nat, q < n → 0 ≤ rd (rd_L1 l2 j) q ∧ rd (rd_L1 l2 j) q ≤ 1000)
  | 0, _, h => by simp [holt_May.l0] at h
  | k + 1, i, h => by
    intro j hij hj
    simp only [holt_May.l0] at h
    rw [if_pos (by omega), if_pos (by omega), if_pos (by omega)] at h
    obtain ⟨b1, hb1, h⟩ := Option.bind_eq_some_iff.mp h
    cases b1 with
    | false => simp at h
    | true =>
      rw [if_pos rfl] at h
      by_cases h2 : (i : Int) < (l2.length : Int)
      · rw [if_pos h2] at h
        obtain ⟨b2, hb2, h⟩ := Option.bind_eq_some_iff.mp h
        cases b2 with
        | false => simp at h
        | true =>
          rw [if_pos rfl] at h
          by_cases e : i = j
          · subst e
            have u1 := units_Is_true hb1
            have u2 := units_Is_true hb2
            exact ⟨⟨by omega, fun q hq => u1.2 q (by omega)⟩, ⟨by omega, fun q hq => u2.2 q (by omega)⟩⟩
          · have hw : wrap64 ((i : Int) + 1) = ((i + 1 : Nat) : Int) := by unfold wrap64; omega
            rw [hw] at h
            exact holt_rows_true hl k (i + 1) h j (by omega) hj
      · rw [if_neg h2] at h; cases h
theorem holt_May_true {k : Nat} {l0 : List Int} {l1 l2 : List (List Int)} (h : holt_May.f k l0 l1 l2 = some true) : holt_Ok l0 l1 l2 := by
  have jt : ∀ k, holt_May.j0 k l1 l2 (l0.length : Int) true ≠ some true := by
    intro k q
    cases k with
    | zero => simp [holt_May.j0] at q
    | succ k => simp [holt_May.j0] at q
  unfold holt_May.f at h
  by_cases h6 : (l0.length : Int) > 6
  · rw [if_pos h6] at h; exact absurd h (jt k)
  · rw [if_neg h6] at h
    obtain ⟨b1, hb1, h⟩ := Option.bind_eq_some_iff.mp h
    cases b1 with
    | false => rw [if_neg (by simp)] at h; exact absurd h (jt k)
    | true =>
      rw [if_pos rfl] at h
      by_cases he : (l1.length : Int) = (l2.length : Int)
      · rw [if_pos he] at h
        by_cases h32 : (l1.length : Int) > 32
        · rw [decide_eq_true h32] at h; exact absurd h (jt k)
        · rw [decide_eq_false h32] at h
          cases k with
          | zero => simp [holt_May.j0] at h
          | succ k =>
            simp only [holt_May.j0] at h
            rw [if_neg (by simp)] at h
            have r := holt_rows_true (by omega) k 0 h
            have u := units_Is_true hb1
            exact ⟨by omega, u.2, by omega, by omega, fun i hi => (r i (by omega) hi).1, fun i hi => (r i (by omega) hi).2⟩
      · rw [if_neg he] at h; exact absurd h (jt k)
/-- What the closure's boxes hold ahead of it: k processes are told. -/
structure SBox (W : World) (bh ba bl bt bm : Nat) (A1 : Option Addr) (c1 : Nat) (A2 : Option Addr) (c2 : Nat) (At : Option Addr) (d ct n k : Nat) : Prop where
  h : W.heap[bh]? = some (.cells #[.slice A1 n c1] 23 (0, 0))
  a : W.heap[ba]? = some (.cells #[.slice A2 n c2] 23 (0, 0))
  l : W.heap[bl]? = some (.cells #[.map (some bm)] 38 (0, 0))
  t : W.heap[bt]? = some (.cells #[.slice At d ct] 22 (0, 0))
  m : W.heap[bm]? = some (mapO (fun _ => .bool true) (List.range k) k)
section
variable {W W' : World} {bh ba bl bt bm : Nat} {A1 : Option Addr} {c1 : Nat} {A2 : Option Addr} {c2 : Nat} {At : Option Addr} {d ct n k : Nat}
theorem SBox.below (X : SBox W bh ba bl bt bm A1 c1 A2 c2 At d ct n k) (hb : Below W.heap.size W W') : SBox W' bh ba bl bt bm A1 c1 A2 c2 At d ct n k :=
  ⟨blk_below X.h hb, blk_below X.a hb, blk_below X.l hb, blk_below X.t hb, blk_below X.m hb⟩
theorem SBox.more (X : SBox W bh ba bl bt bm A1 c1 A2 c2 At d ct n k) : SBox (ChangeMaps.setBlock W bm (mapO (fun i => if i = k then .bool true else .bool true) (List.range k ++ [k]) (k + 1))) bh ba bl bt bm A1 c1 A2 c2 At d ct n (k + 1) := by
  have far : ∀ {b t : Nat} {cs : Array Value} {z : Nat × Nat}, W.heap[b]? = some (.cells cs t z) → (ChangeMaps.setBlock W bm (mapO (fun i => if i = k then .bool true else .bool true) (List.range k ++ [k]) (k + 1))).heap[b]? = some (.cells cs t z) := fun h => (setBlock_other X.m (Ne.symm (map_ne_cells X.m h))).trans h
  refine ⟨far X.h, far X.a, far X.l, far X.t, ?_⟩
  rw [setBlock_same X.m, List.range_succ]
  congr 1
  exact mapO_congr (fun i _ => by split <;> rfl)
end
def holt_Stuck.f (k : Nat) (l0 : List Int) (l1 l2 : List (List Int)) : Option (List Int) :=
  (holt_May.f k l0 l1 l2).bind fun m => if m = true then some (hred (fun i => rd_L1 l1 (i : Int)) (fun i => rd_L1 l2 (i : Int)) l1.length (l1.length + 1) l0 (List.range l1.length)) else some []
theorem holt_Stuck.mono : ∀ a0 a1 a2 k, LeO (holt_Stuck.f k a0 a1 a2) (holt_Stuck.f (k + 1) a0 a1 a2) := by
  intro a0 a1 a2 k r h
  unfold holt_Stuck.f at h ⊢
  obtain ⟨m, hm, h⟩ := Option.bind_eq_some_iff.mp h
  rw [holt_May.mono a0 a1 a2 k m hm]
  exact h
set_option maxHeartbeats 8000000 in
set_option maxRecDepth 100000 in
theorem holt_Stuck.calls (k : Nat) (A0 : Option Addr) (c0 : Nat) (l0 : List Int) (A1 : Option Addr) (c1 : Nat) (l1 : List (List Int)) (A2 : Option Addr) (c2 : Nat) (l2 : List (List Int)) (r : List Int) (w : World) (hr0 : Kd.C (Kd.int .i64) w A0 l0.length l0) (hc0 : l0.length ≤ c0) (hr1 : Kd.C (Kd.slice 3 (Kd.int .i64)) w A1 l1.length l1) (hc1 : l1.length ≤ c1) (hr2 : Kd.C (Kd.slice 3 (Kd.int .i64)) w A2 l2.length l2) (hc2 : l2.length ≤ c2) (h : holt_Stuck.f k l0 l1 l2 = some r) :
    Calls Try.prog 13 #[.slice A0 l0.length c0, .slice A1 l1.length c1, .slice A2 l2.length c2] w fun e w' => ∃ v0_ : Value, e = .returned (v0_) ∧ Kd.R (Kd.int .i64) 3 w' w.heap.size (fun _ => True) v0_ r ∧ Below w.heap.size w w' := by
  unfold holt_Stuck.f at h
  obtain ⟨m, hm, hx⟩ := Option.bind_eq_some_iff.mp h
  clear h
  have h := hx
  clear hx
  have HR0 := Aside0.mk hr0
  have HC0 := Aside0.mk hc0
  have HR1 := Aside0.mk hr1
  have HC1 := Aside0.mk hc1
  have HR2 := Aside0.mk hr2
  have HC2 := Aside0.mk hc2
  have HB := Aside0.mk (Below.refl w.heap.size w)
  have HMAY := Aside0.mk hm
  cases m with
  | false =>
    rw [if_neg (by simp)] at h
    obtain rfl := Option.some.inj h
    clear hr0 hc0 hr1 hc1 hr2 hc2 hm h
    go_enter Try.func13, Try.ntmps13
    go_wp2_with (first
      | ((with_reducible refine gate_dst (N := 4) rfl ?_); refine box_event ?hg (N := 4) ?hd (cs := #[.slice A1 l1.length c1]) (t := 23) ?hr ?_; (case hd => rfl); (case hg => rfl); (case hr => first | (go_simp; done) | (go_simp; rfl)); intro g4 hg w4 hbox hb; have n0_ := Aside0.mk (below_step HB.out hb); have n1_ := Aside0.mk (hbox); clear HB; have HB := n0_; have BK4 := n1_; clear n0_ n1_; clear hg hbox hb)
      | ((with_reducible refine gate_dst (N := 5) rfl ?_); refine box_event ?hg (N := 5) ?hd (cs := #[.slice A2 l2.length c2]) (t := 23) ?hr ?_; (case hd => rfl); (case hg => rfl); (case hr => first | (go_simp; done) | (go_simp; rfl)); intro g5 hg w5 hbox hb; have n0_ := Aside0.mk (below_step HB.out hb); have n1_ := Aside0.mk (blk_below BK4.out hb); have n2_ := Aside0.mk (hbox); clear HB BK4; have HB := n0_; have BK4 := n1_; have BK5 := n2_; clear n0_ n1_ n2_; have hc4 : w5.cell? ⟨g4, 0, none⟩ = some (.slice A1 l1.length c1) := (blk_cell BK4.out 0).trans rfl; have hc5 : w5.cell? ⟨g5, 0, none⟩ = some (.slice A2 l2.length c2) := (blk_cell BK5.out 0).trans rfl; clear hg hbox hb)
      | (go_at_call 10; (with_reducible refine (holt_May.calls k _ _ l0 _ _ l1 _ _ l2 false _ (Kd.C_below HR0.out HB.out) HC0.out (Kd.C_below HR1.out HB.out) HC1.out (Kd.C_below HR2.out HB.out) HC2.out HMAY.out).mono ?_); rintro e w15 ⟨rfl, hd⟩; have hb := hd.below; have n0_ := Aside0.mk (below_step HB.out hb); clear HB; have HB := n0_; clear n0_; clear hd hb hc4 hc5))
    go_ret
    exact ⟨_, rfl, Kd.R_nil _ _ _ _ _, HB.out⟩
  | true =>
    rw [if_pos rfl] at h
    have hok := holt_May_true hm
    have OK := Aside0.mk hok
    have HRUN := Aside0.mk (Option.some.inj h)
    clear hr0 hc0 hr1 hc1 hr2 hc2 hm h hok
    go_enter Try.func13, Try.ntmps13
    go_upto_region 4 with (first
      | ((with_reducible refine gate_dst (N := 4) rfl ?_); refine box_event ?hg (N := 4) ?hd (cs := #[.slice A1 l1.length c1]) (t := 23) ?hr ?_; (case hd => rfl); (case hg => rfl); (case hr => first | (go_simp; done) | (go_simp; rfl)); intro g4 hg w4 hbox hb; have n0_ := Aside0.mk (below_step HB.out hb); have n1_ := Aside0.mk (hbox); clear HB; have HB := n0_; have BK4 := n1_; clear n0_ n1_; clear hg hbox hb)
      | ((with_reducible refine gate_dst (N := 5) rfl ?_); refine box_event ?hg (N := 5) ?hd (cs := #[.slice A2 l2.length c2]) (t := 23) ?hr ?_; (case hd => rfl); (case hg => rfl); (case hr => first | (go_simp; done) | (go_simp; rfl)); intro g5 hg w5 hbox hb; have n0_ := Aside0.mk (below_step HB.out hb); have n1_ := Aside0.mk (blk_below BK4.out hb); have n2_ := Aside0.mk (hbox); clear HB BK4; have HB := n0_; have BK4 := n1_; have BK5 := n2_; clear n0_ n1_ n2_; have hc4 : w5.cell? ⟨g4, 0, none⟩ = some (.slice A1 l1.length c1) := (blk_cell BK4.out 0).trans rfl; have hc5 : w5.cell? ⟨g5, 0, none⟩ = some (.slice A2 l2.length c2) := (blk_cell BK5.out 0).trans rfl; clear hg hbox hb)
      | (go_at_call 10; (with_reducible refine (holt_May.calls k _ _ l0 _ _ l1 _ _ l2 true _ (Kd.C_below HR0.out HB.out) HC0.out (Kd.C_below HR1.out HB.out) HC1.out (Kd.C_below HR2.out HB.out) HC2.out HMAY.out).mono ?_); rintro e w15 ⟨rfl, hd⟩; have hb := hd.below; have n0_ := Aside0.mk (below_step HB.out hb); have n1_ := Aside0.mk (blk_below BK4.out hb); have n2_ := Aside0.mk (blk_below BK5.out hb); clear HB BK4 BK5; have HB := n0_; have BK4 := n1_; have BK5 := n2_; clear n0_ n1_ n2_; clear hd hb hc4 hc5)
      | (go_at_call 22; (with_reducible refine (slices_Clone_int_int.calls _ _ l0 l0 _ (Kd.C_below HR0.out HB.out) HC0.out ?cl).mono ?_); (case cl => unfold slices_Clone_int_int.f; rw [if_pos (by have := OK.out.n6; omega)]); rintro e w18 ⟨tv, rfl, ho, hb⟩; obtain ⟨At, ct, et⟩ := Kd.R_slice ho; subst et; have n0_ := Aside0.mk (below_step HB.out hb); have n1_ := Aside0.mk (blk_below BK4.out hb); have n2_ := Aside0.mk (blk_below BK5.out hb); have n3_ := Aside0.mk (Kd.R_lower ho (below_size HB.out)); clear HB BK4 BK5; have HB := n0_; have BK4 := n1_; have BK5 := n2_; have HO := n3_; clear n0_ n1_ n2_ n3_; clear ho hb)
      | ((with_reducible refine gate_dst (N := 7) rfl ?_); refine box_event ?hg (N := 7) ?hd (cs := #[.slice none 0 0]) (t := 22) ?hr ?_; (case hd => rfl); (case hg => rfl); (case hr => first | (go_simp; done) | (go_simp; rfl)); intro g7 hg w7 hbox hb; have n0_ := Aside0.mk (below_step HB.out hb); have n1_ := Aside0.mk (blk_below BK4.out hb); have n2_ := Aside0.mk (blk_below BK5.out hb); have n3_ := Aside0.mk (Kd.R_below HO.out hb); have n4_ := Aside0.mk (hbox); have n5_ := Aside0.mk ((by rw [hg]; exact below_size HB.out : w.heap.size ≤ g7)); clear HB BK4 BK5 HO; have HB := n0_; have BK4 := n1_; have BK5 := n2_; have HO := n3_; have BK7 := n4_; have GE7 := n5_; clear n0_ n1_ n2_ n3_ n4_ n5_; have hc7 : w7.cell? ⟨g7, 0, none⟩ = some (.slice none 0 0) := (blk_cell hbox 0).trans rfl; have hf7 : w7.frozen? ⟨g7, 0, none⟩ = false := blk_frozen hbox 0; clear hg hbox hb))
    have n0_ := Aside0.mk (blk_far BK4.out (p := ⟨g7, 0, none⟩) (cells_ne BK4.out BK7.out (by decide)) (.slice At l0.length ct))
    have n1_ := Aside0.mk (blk_far BK5.out (p := ⟨g7, 0, none⟩) (cells_ne BK5.out BK7.out (by decide)) (.slice At l0.length ct))
    have n2_ := Aside0.mk (Kd.R_mono (Kd.R_far (Kd.R_types HO.out BK7.out (by intro q hq; rcases List.mem_cons.1 hq with rfl | hq; exact (by decide); cases hq)) (p := ⟨g7, 0, none⟩) (fun k hk => hk.2) (.slice At l0.length ct)) (fun _ h => h.1))
    have n3_ := Aside0.mk (blk_put (cs' := #[.slice At l0.length ct]) BK7.out 0 (.slice At l0.length ct) rfl)
    have n4_ := Aside0.mk (below_set (j := 0) (v := .slice At l0.length ct) HB.out GE7.out)
    clear BK4 BK5 HO BK7 HB hc7 hf7
    generalize (w7.setCell { block := g7, off := 0 } (Value.slice At l0.length ct)) = W1 at n0_ n1_ n2_ n3_ n4_ ⊢
    have BK4 := n0_
    have BK5 := n1_
    have HO := n2_
    have BK7 := n3_
    have HB := n4_
    clear n0_ n1_ n2_ n3_ n4_
    go_upto_region 5 with (first
      | ((with_reducible refine gate_dst (N := 19) rfl ?_); refine map_event rfl (N := 19) rfl (t := 38) rfl ?_; intro bm hg w19 hm hb; have n0_ := Aside0.mk (below_step HB.out hb); have n1_ := Aside0.mk (blk_below BK4.out hb); have n2_ := Aside0.mk (blk_below BK5.out hb); have n3_ := Aside0.mk (Kd.R_below HO.out hb); have n4_ := Aside0.mk (blk_below BK7.out hb); have n5_ := Aside0.mk (hm); have n6_ := Aside0.mk ((by rw [hg]; exact below_size HB.out : w.heap.size ≤ bm)); clear HB BK4 BK5 HO BK7; have HB := n0_; have BK4 := n1_; have BK5 := n2_; have HO := n3_; have BK7 := n4_; have MB := n5_; have GEM := n6_; clear n0_ n1_ n2_ n3_ n4_ n5_ n6_; clear hg hm hb)
      | ((with_reducible refine gate_dst (N := 8) rfl ?_); refine box_event ?hg (N := 8) ?hd (cs := #[.map none]) (t := 38) ?hr ?_; (case hd => rfl); (case hg => rfl); (case hr => first | (go_simp; done) | (go_simp; rfl)); intro g8 hg w8 hbox hb; have n0_ := Aside0.mk (below_step HB.out hb); have n1_ := Aside0.mk (blk_below BK4.out hb); have n2_ := Aside0.mk (blk_below BK5.out hb); have n3_ := Aside0.mk (Kd.R_below HO.out hb); have n4_ := Aside0.mk (blk_below BK7.out hb); have n5_ := Aside0.mk (blk_below MB.out hb); have n6_ := Aside0.mk (hbox); have n7_ := Aside0.mk ((by rw [hg]; exact below_size HB.out : w.heap.size ≤ g8)); clear HB BK4 BK5 HO BK7 MB; have HB := n0_; have BK4 := n1_; have BK5 := n2_; have HO := n3_; have BK7 := n4_; have MB := n5_; have BK8 := n6_; have GE8 := n7_; clear n0_ n1_ n2_ n3_ n4_ n5_ n6_ n7_; have hc8 : w8.cell? ⟨g8, 0, none⟩ = some (.map none) := (blk_cell hbox 0).trans rfl; have hf8 : w8.frozen? ⟨g8, 0, none⟩ = false := blk_frozen hbox 0; clear hg hbox hb))
    have NE87 : g7 ≠ g8 := cells_ne BK7.out BK8.out (by decide)
    have n0_ := Aside0.mk (blk_far BK4.out (p := ⟨g8, 0, none⟩) (cells_ne BK4.out BK8.out (by decide)) (.map (some bm)))
    have n1_ := Aside0.mk (blk_far BK5.out (p := ⟨g8, 0, none⟩) (cells_ne BK5.out BK8.out (by decide)) (.map (some bm)))
    have n2_ := Aside0.mk (blk_far BK7.out (p := ⟨g8, 0, none⟩) NE87 (.map (some bm)))
    have n3_ := Aside0.mk (obj_far MB.out (p := ⟨g8, 0, none⟩) (map_ne_cells MB.out BK8.out) (.map (some bm)))
    have n4_ := Aside0.mk (Kd.R_mono (Kd.R_far (Kd.R_types HO.out BK8.out (by intro q hq; rcases List.mem_cons.1 hq with rfl | hq; exact (by decide); cases hq)) (p := ⟨g8, 0, none⟩) (fun k hk => hk.2) (.map (some bm))) (fun _ h => h.1))
    have n5_ := Aside0.mk (blk_put (cs' := #[.map (some bm)]) BK8.out 0 (.map (some bm)) rfl)
    have n6_ := Aside0.mk (below_set (j := 0) (v := .map (some bm)) HB.out GE8.out)
    clear BK4 BK5 BK7 MB HO BK8 HB hc8 hf8 NE87
    generalize (w8.setCell { block := g8, off := 0 } (Value.map (some bm))) = W2 at n0_ n1_ n2_ n3_ n4_ n5_ n6_ ⊢
    have BK4 := n0_
    have BK5 := n1_
    have BK7 := n2_
    have MB := n3_
    have HO := n4_
    have BK8 := n5_
    have HB := n6_
    clear n0_ n1_ n2_ n3_ n4_ n5_ n6_
    have BK5' : Aside0 (W2.heap[g5]? = some (.cells #[.slice A2 l1.length c2] 23 (0, 0))) := ⟨by rw [OK.out.eq]; exact BK5.out⟩
    have X := Aside0.mk (SBox.mk BK4.out BK5'.out BK8.out BK7.out (show W2.heap[bm]? = some (mapO (fun _ => .bool true) (List.range 0) 0) from MB.out))
    clear BK4 BK5 BK8 BK7 MB BK5'
    have hc4 : W2.cell? ⟨g4, 0, none⟩ = some (.slice A1 l1.length c1) := (blk_cell X.out.h 0).trans rfl
    go_wp2_with (fail)
    clear hc4
    go_loopw [22] (fun v22 wx => ∃ i : Nat, i ≤ l1.length ∧ v22 = .int .i64 (i : Int) ∧ Aside0 (SBox wx g4 g5 g8 g7 bm A1 c1 A2 c2 At l0.length ct l1.length i) ∧ Aside0 (Kd.R (Kd.int .i64) 3 wx w.heap.size (fun _ => True) (.slice At l0.length ct) l0) ∧ Aside0 (Below w.heap.size w wx)) (fun v22 _ => l1.length - (intOf v22).toNat)
    case atStart => exact ⟨0, Nat.zero_le _, rfl, X, HO, HB⟩
    case round =>
      clear X HO HB
      obtain ⟨i, hi, rfl, X, HO, HB⟩ := hrel
      by_cases hlt : i < l1.length
      · have hii : (i : Int) < (l1.length : Int) := by omega
        have HI := Aside0.mk hlt
        have hw3 : (i : Int) ≤ 9223372036854775806 := by have := OK.out.n32; omega
        have hcl : wr.cell? ⟨g8, 0, none⟩ = some (.map (some bm)) := (blk_cell X.out.l 0).trans rfl
        clear hlt hi
        go_wp2_with (first
          | (refine skip_runE rfl rfl (exec_upd rfl rfl rfl rfl (mupd_new (v := .bool true) Try.underlying38 Try.underlying3 X.out.m (by simp))) ?_; intro w39 e39; have n0_ : Aside0 (SBox w39 g4 g5 g8 g7 bm A1 c1 A2 c2 At l0.length ct l1.length (i + 1)) := ⟨e39 ▸ X.out.more⟩; have n1_ : Aside0 (Kd.R (Kd.int .i64) 3 w39 w.heap.size (fun _ => True) (.slice At l0.length ct) l0) := ⟨e39 ▸ Kd.R_mono (Kd.R_step (Kd.R_tight rfl HO.out) (fun k hk _ => setBlock_other X.out.m (fun e => own_ne_map HO.out X.out.m (by rw [← e]; exact hk)))) (fun _ _ => trivial)⟩; have n2_ : Aside0 (Below w.heap.size w w39) := ⟨e39 ▸ below_block HB.out X.out.m GEM.out⟩; clear e39 X HO HB hcl; have X := n0_; have HO := n1_; have HB := n2_; clear n0_ n1_ n2_))
        exact ⟨⟨i + 1, HI.out, by go_num, X, HO, HB⟩, by have := HI.out; simp [intOf]; omega⟩
      · obtain rfl : i = l1.length := by omega
        clear hlt hi
        go_upto_region 12 with (first
          | ((with_reducible refine gate_dst (N := 10) rfl ?_); refine box_event ?hg (N := 10) ?hd (cs := #[.slice none 0 0]) (t := 22) ?hr ?_; (case hd => rfl); (case hg => rfl); (case hr => first | (go_simp; done) | (go_simp; rfl)); intro g10 hg w10 hbox hb; have n0_ := Aside0.mk (below_step HB.out hb); have n1_ := Aside0.mk (X.out.below hb); have n2_ := Aside0.mk (Kd.R_below HO.out hb); have n3_ := Aside0.mk (hbox); have n4_ := Aside0.mk ((by rw [hg]; exact below_size HB.out : w.heap.size ≤ g10)); have n5_ := Aside0.mk ((by rw [hg]; have := blk_lt X.out.t; omega : g7 ≠ g10)); clear HB X HO; have HB := n0_; have X := n1_; have HO := n2_; have BK10 := n3_; have GE10 := n4_; have NE7 := n5_; clear n0_ n1_ n2_ n3_ n4_ n5_; clear hg hbox hb)
          | ((with_reducible refine gate_dst (N := 11) rfl ?_); refine box_event ?hg (N := 11) ?hd (cs := #[.nilFunc]) (t := 1) ?hr ?_; (case hd => rfl); (case hg => rfl); (case hr => first | (go_simp; done) | (go_simp; rfl)); intro g11 hg w11 hbox hb; have n0_ := Aside0.mk (below_step HB.out hb); have n1_ := Aside0.mk (X.out.below hb); have n2_ := Aside0.mk (Kd.R_below HO.out hb); have n3_ := Aside0.mk (blk_below BK10.out hb); have n4_ := Aside0.mk (hbox); have n5_ := Aside0.mk ((by rw [hg]; exact below_size HB.out : w.heap.size ≤ g11)); clear HB X HO BK10; have HB := n0_; have X := n1_; have HO := n2_; have BK10 := n3_; have BK11 := n4_; have GE11 := n5_; clear n0_ n1_ n2_ n3_ n4_ n5_; have hc11 : w11.cell? ⟨g11, 0, none⟩ = some (.nilFunc) := (blk_cell hbox 0).trans rfl; have hf11 : w11.frozen? ⟨g11, 0, none⟩ = false := blk_frozen hbox 0; clear hg hbox hb))
        go_upto_region 13 with (fail)
        have NEA : g10 ≠ g11 := cells_ne BK10.out BK11.out (by decide)
        have n0_ : Aside0 (HBox (w11.setCell { block := g11, off := 0 } (.func (.func 23) #[] #[.pointer (some ⟨g10, 0, none⟩), .pointer (some ⟨g4, 0, none⟩), .pointer (some ⟨g8, 0, none⟩), .pointer (some ⟨g5, 0, none⟩), .pointer (some ⟨g7, 0, none⟩), .pointer (some ⟨g11, 0, none⟩)])) g10 g4 g5 g8 g7 g11 bm (.slice none 0 0) A1 c1 A2 c2 At l0.length ct l1.length (List.range l1.length)) := ⟨⟨blk_far BK10.out (p := ⟨g11, 0, none⟩) NEA (.func (.func 23) #[] #[.pointer (some ⟨g10, 0, none⟩), .pointer (some ⟨g4, 0, none⟩), .pointer (some ⟨g8, 0, none⟩), .pointer (some ⟨g5, 0, none⟩), .pointer (some ⟨g7, 0, none⟩), .pointer (some ⟨g11, 0, none⟩)]), blk_far X.out.h (p := ⟨g11, 0, none⟩) (cells_ne X.out.h BK11.out (by decide)) (.func (.func 23) #[] #[.pointer (some ⟨g10, 0, none⟩), .pointer (some ⟨g4, 0, none⟩), .pointer (some ⟨g8, 0, none⟩), .pointer (some ⟨g5, 0, none⟩), .pointer (some ⟨g7, 0, none⟩), .pointer (some ⟨g11, 0, none⟩)]), blk_far X.out.a (p := ⟨g11, 0, none⟩) (cells_ne X.out.a BK11.out (by decide)) (.func (.func 23) #[] #[.pointer (some ⟨g10, 0, none⟩), .pointer (some ⟨g4, 0, none⟩), .pointer (some ⟨g8, 0, none⟩), .pointer (some ⟨g5, 0, none⟩), .pointer (some ⟨g7, 0, none⟩), .pointer (some ⟨g11, 0, none⟩)]), blk_far X.out.l (p := ⟨g11, 0, none⟩) (cells_ne X.out.l BK11.out (by decide)) (.func (.func 23) #[] #[.pointer (some ⟨g10, 0, none⟩), .pointer (some ⟨g4, 0, none⟩), .pointer (some ⟨g8, 0, none⟩), .pointer (some ⟨g5, 0, none⟩), .pointer (some ⟨g7, 0, none⟩), .pointer (some ⟨g11, 0, none⟩)]), blk_far X.out.t (p := ⟨g11, 0, none⟩) (cells_ne X.out.t BK11.out (by decide)) (.func (.func 23) #[] #[.pointer (some ⟨g10, 0, none⟩), .pointer (some ⟨g4, 0, none⟩), .pointer (some ⟨g8, 0, none⟩), .pointer (some ⟨g5, 0, none⟩), .pointer (some ⟨g7, 0, none⟩), .pointer (some ⟨g11, 0, none⟩)]), blk_put (cs' := #[.func (.func 23) #[] #[.pointer (some ⟨g10, 0, none⟩), .pointer (some ⟨g4, 0, none⟩), .pointer (some ⟨g8, 0, none⟩), .pointer (some ⟨g5, 0, none⟩), .pointer (some ⟨g7, 0, none⟩), .pointer (some ⟨g11, 0, none⟩)]]) BK11.out 0 (.func (.func 23) #[] #[.pointer (some ⟨g10, 0, none⟩), .pointer (some ⟨g4, 0, none⟩), .pointer (some ⟨g8, 0, none⟩), .pointer (some ⟨g5, 0, none⟩), .pointer (some ⟨g7, 0, none⟩), .pointer (some ⟨g11, 0, none⟩)]) rfl, (obj_far X.out.m (p := ⟨g11, 0, none⟩) (map_ne_cells X.out.m BK11.out) (.func (.func 23) #[] #[.pointer (some ⟨g10, 0, none⟩), .pointer (some ⟨g4, 0, none⟩), .pointer (some ⟨g8, 0, none⟩), .pointer (some ⟨g5, 0, none⟩), .pointer (some ⟨g7, 0, none⟩), .pointer (some ⟨g11, 0, none⟩)])).trans (congrArg some (mapO_congr (fun i hi => by rw [decide_eq_true hi])))⟩⟩
        have n1_ := Aside0.mk (Kd.R_mono (Kd.R_far (Kd.R_types HO.out BK11.out (by intro q hq; rcases List.mem_cons.1 hq with rfl | hq; exact (by decide); cases hq)) (p := ⟨g11, 0, none⟩) (fun k hk => hk.2) (.func (.func 23) #[] #[.pointer (some ⟨g10, 0, none⟩), .pointer (some ⟨g4, 0, none⟩), .pointer (some ⟨g8, 0, none⟩), .pointer (some ⟨g5, 0, none⟩), .pointer (some ⟨g7, 0, none⟩), .pointer (some ⟨g11, 0, none⟩)])) (fun _ h => h.1))
        have n2_ := Aside0.mk (below_set (j := 0) (v := .func (.func 23) #[] #[.pointer (some ⟨g10, 0, none⟩), .pointer (some ⟨g4, 0, none⟩), .pointer (some ⟨g8, 0, none⟩), .pointer (some ⟨g5, 0, none⟩), .pointer (some ⟨g7, 0, none⟩), .pointer (some ⟨g11, 0, none⟩)]) HB.out GE11.out)
        clear X HO HB BK10 BK11 NEA hc11 hf11
        generalize (w11.setCell { block := g11, off := 0 } (.func (.func 23) #[] #[.pointer (some ⟨g10, 0, none⟩), .pointer (some ⟨g4, 0, none⟩), .pointer (some ⟨g8, 0, none⟩), .pointer (some ⟨g5, 0, none⟩), .pointer (some ⟨g7, 0, none⟩), .pointer (some ⟨g11, 0, none⟩)])) = W3 at n0_ n1_ n2_ ⊢
        have X := n0_
        have HO := n1_
        have HB := n2_
        clear n0_ n1_ n2_
        have hcr : W3.cell? ⟨g11, 0, none⟩ = some (.func (.func 23) #[] #[.pointer (some ⟨g10, 0, none⟩), .pointer (some ⟨g4, 0, none⟩), .pointer (some ⟨g8, 0, none⟩), .pointer (some ⟨g5, 0, none⟩), .pointer (some ⟨g7, 0, none⟩), .pointer (some ⟨g11, 0, none⟩)]) := (blk_cell X.out.r 0).trans rfl
        have HH : Aside0 (∀ i : Nat, i < l1.length → (rd_L1 l1 (i : Int)).length = l0.length ∧ ∀ j : Nat, j < l0.length → 0 ≤ rd (rd_L1 l1 (i : Int)) j ∧ rd (rd_L1 l1 (i : Int)) j ≤ 1000) := ⟨OK.out.hl⟩
        have TB : ThOk l0.length l0 (List.range l1.length) := ⟨rfl, fun j hj => by
          have := OK.out.av j hj
          have := OK.out.n32
          rw [List.length_range]
          omega⟩
        have IC := Aside0.mk (holt_reduce.calls w g10 g4 g5 g8 g7 g11 bm A1 c1 A2 c2 At l0.length ct l1 l2 HR1.out (by have := HR2.out; rw [← OK.out.eq] at this; exact this) OK.out.n32 OK.out.n6 HH.out NE7.out ⟨GE10.out, GEM.out⟩ (l1.length + 1) W3 (.slice none 0 0) (List.range l1.length) l0 [] (by rw [List.length_range]; omega) List.nodup_range TB X.out (Kd.R_nil _ _ _ _ _) (Kd.R_reok rfl HO.out (fun k hk => hk.symm)) HB.out)
        clear TB
        go_wp2_with (first
          | (go_at_call 23; (with_reducible refine IC.out.mono ?_); intro e w30 HP3; obtain ⟨rfl, vo3, L3, ok3, x3, r3, b3⟩ := HP3; have R3 := Aside0.mk r3; have B3 := Aside0.mk b3; have hco3 : w30.cell? ⟨g10, 0, none⟩ = some vo3 := (blk_cell x3.o 0).trans rfl; clear x3 r3 b3))
        trace_state
        go_ret
        exact ⟨_, rfl, (by have := R3.out; rw [HRUN.out] at this; exact Kd.R_mono this (fun _ _ => trivial)), B3.out⟩

end Go.Proofs.Ytdbcmmckjlbffaa.PHoltO
