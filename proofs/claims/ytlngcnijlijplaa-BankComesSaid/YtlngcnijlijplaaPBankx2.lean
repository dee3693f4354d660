-- Written by a program of this session (over the kit's printer): not typed by hand.
import Derived.Test.YtlngcnijlijplaaPBankx0
import Derived.RangeFuncNested
import Derived.RangeFuncBound
import Derived.RangeFuncCalls
import Derived.RangeFuncLeaves
import Derived.RangeFuncFrom
import Derived.RangeFuncBox
import Derived.Shelf.Abstract
import Derived.Shelf.RegionOpen
import Derived.OwnWalkIn
import Derived.TacticsInMore
import Derived.LoopNIn
import Derived.LoopIn
import Derived.StillTailTactics
namespace Go.Proofs.Ytlngcnijlijplaa.PBank
open Go.RowKit Go.Proofs.YtlngcnijlijplaaW.PrintWords Go.Proofs.YtlngcnijlijplaaW.PrintLast Go.Proofs.YtlngcnijlijplaaW.PrintMore
attribute [local go_sem] max2_int min2_int max_two min_two max_three min_three max_four min_four   -- for this text's walks alone
set_option linter.unusedVariables false
set_option linter.unusedSimpArgs false

/-! ### units_pairs: function 34 -/
section
open Go.Shelf
attribute [local go_sem] Oper.semAt_some
/-! A region that draws its order, at the wide fence: its head only reads, its tail stands in one forced order ('wp_region_still_tail', inside the fence). -/
theorem units_pairs.opIn {n : Nat} {P : Program} {ops : Array Oper} {w : World} {Q' : Exit → Act → World → Prop} {i : Nat} {a : Act} {K : Act → Prop} {K' : Act → World → Prop} (h : ∀ a, K a → K' a w) (hh : stOp P ops w i K a) :
    wpOpIn Fence.wide n P ops Q' i K' a w := by
  unfold stOp at hh
  unfold wpOpIn
  split
  · rename_i ho; simp only [ho] at hh; exact h _ hh
  · rename_i o ho
    simp only [ho] at hh
    split
    · rename_i hw
      simp only [hw, if_true] at hh
      refine ⟨fun _ _ => trivial, ?_⟩
      unfold Oper.still at hh
      show Oper.uponIn _ _ _ _ _ _ _ ((execOp a.eval o).run P w)
      generalize (execOp a.eval o).run P w = r at *
      cases r with
      | ok x w' =>
        cases x <;> simp only [Oper.stillUpon] at hh <;> simp only [Oper.uponIn]
        case enter f args =>
          obtain ⟨rfl, v, hc, hn⟩ := hh
          refine ⟨fun h => by simp [Fence.wide] at h, callsIn_wide.2 (hc.mono fun e w'' he => ?_)⟩
          obtain ⟨he, hw⟩ := he
          subst he; subst hw
          exact h _ hn
        all_goals (obtain ⟨rfl, h2⟩ := hh; exact h _ h2)
      | halt x w' => simp only [Oper.stillUpon] at hh
    · rename_i hw; simp only [hw] at hh; exact ⟨fun _ _ => trivial, h _ hh⟩
theorem units_pairs.headIn {m n g : Nat} {P : Program} {ops : Array Oper} {md : Region.Mode} {w : World} {L : Array Bool → Act → Prop} {Q' : Exit → Act → World → Prop} (hL : ∀ listed a, L listed a → wpAnyIn Fence.wide m P md ops Q' g listed a w) :
    ∀ (f : Nat) (listed : Array Bool) (a : Act), wpAnyL P md ops w n L f listed a → wpAnyIn Fence.wide m P md ops Q' (f + g) listed a w
  | 0, listed, a, h => by rw [Nat.zero_add]; exact hL _ _ h
  | f + 1, listed, a, h => by
    rw [show f + 1 + g = (f + g) + 1 by omega]
    exact ⟨fun h0 => absurd h0 h.1, fun i hi => units_pairs.opIn (fun a' h' => units_pairs.headIn hL f _ a' h') (h.2 i hi).2⟩
theorem units_pairs.seqIn {m : Nat} {P : Program} {ops : Array Oper} {md : Region.Mode} {Q' : Exit → Act → World → Prop} : ∀ (l : List Oper) (k : Nat) (listed : Array Bool) (a : Act) (w : World), (∀ j, l[j]? = ops[k + j]?) →
    Region.seqB md ops l.length k listed = true → wpListIn Fence.wide m P ops Q' l a w → wpAnyIn Fence.wide m P md ops Q' l.length listed a w
  | [], _, _, _, _, _, hB, h => ⟨by simpa [Region.seqB] using hB, h⟩
  | o :: l, k, listed, a, w, hl, hB, h => by
    have h0 : ops[k]? = some o := by simpa using (hl 0).symm
    simp only [List.length_cons, Region.seqB, Bool.and_eq_true, decide_eq_true_eq] at hB
    refine ⟨fun h1 => (by rw [hB.1] at h1; cases h1), fun i hi => ?_⟩
    rw [hB.1] at hi
    have hik : i = k := by simpa using hi
    subst hik
    have hw : wpOpIn Fence.wide m P ops Q' i (wpListIn Fence.wide m P ops Q' l) a w := by unfold wpOpIn; simp only [h0]; exact h
    exact wpOpIn_mono (fun a' w' h' => units_pairs.seqIn l (i + 1) _ a' w' (fun j => by have := hl (j + 1); simpa [Nat.add_assoc, Nat.add_comm 1 j] using this) hB.2 h') hw
theorem units_pairs.tailIn {m : Nat} {P : Program} {id : Nat} {Q : Exit → Act → World → Prop} {a : Act} {w : World} {l : List Oper} (n : Nat) (hm : P.follows .mixedOrders = true) (hB : Region.lexTailB .any l.toArray n = true)
    (h : wpStill P l.toArray w.drew (fun a' => wpListIn Fence.wide m P l.toArray Q (l.drop n) a' w.drew) (l.take n) a) : (Code.region id l.toArray true).wpIn Fence.wide m P Q a w := by
  simp only [Region.lexTailB, Bool.and_eq_true, decide_eq_true_eq] at hB
  obtain ⟨⟨⟨⟨hsel, hn⟩, hs⟩, hc⟩, hlex⟩ := hB
  have hn' : n < l.length := by simpa using hn
  have htl : (l.take n).length = n := by simp; omega
  have hdl : (l.drop n).length = l.toArray.size - n := by simp
  have inv0 : HeadInv .any l.toArray n (Array.replicate l.toArray.size false) :=
    ⟨by simp, fun j oj _ hl => (by rw [getD_replicate_false] at hl; cases hl), fun t _ ht => getD_in (by simpa using ht) (getD_replicate_false _ _)⟩
  have H := wpAnyL_lex (md := .any) (g := l.toArray.size - n) hsel hs hc hn (l.take n) 0 _ a (fun j hj => by
    have hj' : j < n := by rw [htl] at hj; exact hj
    simp [hj']) (by simpa using htl) inv0 (by rw [htl]; exact hlex) h
  refine wpIn_region_any hm ?_
  have := units_pairs.headIn (m := m) (Q' := Q) (g := l.toArray.size - n) (fun listed a' hL => by
    have := units_pairs.seqIn (m := m) (md := .any) (Q' := Q) (l.drop n) n listed a' w.drew (fun j => by simp [List.getElem?_drop]) (by rw [hdl]; exact hL.1) hL.2
    rwa [hdl] at this) _ _ _ H
  rw [htl] at this
  rwa [show n + (l.toArray.size - n) = l.toArray.size by omega] at this
theorem units_pairs.cell_new (W : World) (v : Value) (t : TypeId) : (W.alloc (.cells #[v] t)).cell? ⟨W.heap.size, 0, none⟩ = some v ∧ (W.alloc (.cells #[v] t)).frozen? ⟨W.heap.size, 0, none⟩ = false := by
  have h := World.alloc_heap_new W (.cells #[v] t)
  unfold World.cell? World.frozen?
  simp only [h]
  exact ⟨rfl, rfl⟩
theorem units_pairs.cell_old {W : World} {a : Addr} {v : Value} (o : Obj) (h : W.cell? a = some v) : (W.alloc o).cell? a = some v := Go.cell_kept h (World.grownBy_alloc W o none) (fun r e => by cases e)
theorem units_pairs.frozen_old {W : World} {a : Addr} {v : Value} (o : Obj) (h : W.cell? a = some v) (hf : W.frozen? a = false) : (W.alloc o).frozen? a = false := (Go.frozen_kept h (World.grownBy_alloc W o none) (fun r e => by cases e)).trans hf
/-- What a round that goes on keeps: all that lay below n0, and the two boxes. -/
def units_pairs.Kp (n0 B1 B2 : Nat) (W W' : World) : Prop := Below n0 W W' ∧ W'.cell? ⟨B1, 0, none⟩ = W.cell? ⟨B1, 0, none⟩ ∧ W'.cell? ⟨B2, 0, none⟩ = W.cell? ⟨B2, 0, none⟩
theorem units_pairs.Kp.refl {n0 B1 B2 : Nat} (W : World) : units_pairs.Kp n0 B1 B2 W W := ⟨Below.refl _ _, rfl, rfl⟩
theorem units_pairs.Kp.trans {n0 B1 B2 : Nat} {A B C : World} (h : units_pairs.Kp n0 B1 B2 A B) (k : units_pairs.Kp n0 B1 B2 B C) : units_pairs.Kp n0 B1 B2 A C :=
  ⟨h.1.trans k.1, k.2.1.trans h.2.1, k.2.2.trans h.2.2⟩
theorem units_pairs.cell_other {W : World} {l B : Nat} {o' : Obj} (h : B ≠ l) : (W.putObj l o').cell? ⟨B, 0, none⟩ = W.cell? ⟨B, 0, none⟩ := by
  have := World.putObj_heap_other (w := W) (o := o') h
  unfold World.cell? at *
  simp only at *
  rw [this]
theorem units_pairs.Kp_put {n0 B1 B2 l : Nat} (W : World) {o : Obj} (o' : Obj) (hn : n0 ≤ l) (h1 : B1 ≠ l) (h2 : B2 ≠ l) (ho : W.heap[l]? = some o) (hc : o.isCells = false) (hw : o.isWalk = false) : units_pairs.Kp n0 B1 B2 W (W.putObj l o') :=
  ⟨(Below.refl n0 W).grown (grownBy_putObj' W l o') (by have := (Array.getElem?_eq_some_iff.1 ho).1; omega) (fun k e => by cases e; exact hn), units_pairs.cell_other h1, units_pairs.cell_other h2⟩
/-- One yield, told by one Bool. -/
def units_pairs.Went (J Jx : List (Int × Int) → World → Prop) (Kp : World → World → Prop) (pre : List (Int × Int)) (x : Int × Int) (W : World) (e : Ending) (W' : World) : Prop :=
  ∃ b : Bool, e = .returned (.bool b) ∧ Aside0 ((b = true ∧ J (pre ++ [x]) W' ∧ Kp W W') ∨ (b = false ∧ Jx (pre ++ [x]) W'))
set_option maxRecDepth 100000 in
set_option maxHeartbeats 4000000 in
theorem units_pairs.iter1 (n : Nat) (l B1 B2 : Nat) (w0 : World) (A0 : Option Addr) (c0 : Nat) (l0 : List Int) (A1 : Option Addr) (c1 : Nat) (l1 : List Int)
    (hr0 : Kd.C (Kd.int .i64) w0 A0 l0.length l0) (hr1 : Kd.C (Kd.int .i64) w0 A1 l1.length l1) (J Jx : List (Int × Int) → World → Prop) (hJ : ∀ pre W, J pre W → J pre W.drew)
    (hY : ∀ pre x W, J pre W → pre.length < min l0.length l1.length → YieldAt Fence.wide (n - 1) Try.prog l #[.int .i64 x.1, .int .i64 x.2] W fun e W' =>
      (e = .returned (.bool true) ∧ J (pre ++ [x]) W' ∧ units_pairs.Kp w0.heap.size B1 B2 W W') ∨ (e = .returned (.bool false) ∧ Jx (pre ++ [x]) W'))
    (W : World) (hB : Below w0.heap.size w0 W) (hc1 : W.cell? ⟨B1, 0, none⟩ = some (.slice A0 l0.length c0)) (hc2 : W.cell? ⟨B2, 0, none⟩ = some (.slice A1 l1.length c1)) (h0 : J [] W) :
    CallsIn Fence.wide n Try.prog 36 #[.func (.yield l) #[] #[], .pointer (some ⟨B1, 0, none⟩), .pointer (some ⟨B2, 0, none⟩)] W fun e W' => (∃ v, e = .returned v) ∧
      ((∃ ys, ys = l0.zip l1 ∧ J ys W') ∨ (∃ pre, pre <+: l0.zip l1 ∧ Jx pre W')) := by
  have HR0 := Aside0.mk hr0
  have HR1 := Aside0.mk hr1
  have hl0 : l0.length ≤ 9223372036854775807 := hr0.2.1
  have hl1 : l1.length ≤ 9223372036854775807 := hr1.2.1
  have HB := Aside0.mk hB
  have HY := Aside0.mk hY
  have H0 := Aside0.mk h0
  have HJD := Aside0.mk hJ
  clear hr0 hr1 hB hY h0 hJ
  have hzip : (l0.zip l1).length = min l0.length l1.length := List.length_zip
  have hmin : (l1.length < l0.length ∧ min l0.length l1.length = l1.length) ∨ (¬ l1.length < l0.length ∧ min l0.length l1.length = l0.length) := by omega
  rcases hmin with ⟨hlt, hm⟩ | ⟨hlt, hm⟩
  all_goals
    rw [hm] at hzip HY
    have HZ := Aside0.mk hzip
    clear hzip hm
    refine callsIn_of_wp Try.func36 rfl trivial ?_ rfl
    simp only [Try.ntmps36, List.size_toArray, List.length_cons, List.length_nil, Nat.reduceAdd, Nat.reduceSub, Array.replicate_succ, Array.replicate_zero, List.push_toArray, List.append_toArray, List.nil_append, List.cons_append]
    gi_wp2
    gi_loopw [4, 10] (fun _ i wr => ∃ k : Nat, k ≤ (l0.zip l1).length ∧ i = .int .i64 k ∧ Aside0 (J ((l0.zip l1).take k) wr) ∧ Aside0 (units_pairs.Kp w0.heap.size B1 B2 W wr))
      (fun _ i _ => (l0.zip l1).length - (intOf i).toNat)
    case atStart => exact ⟨0, Nat.zero_le _, rfl, ⟨H0.out⟩, ⟨units_pairs.Kp.refl _⟩⟩
    case round =>
      obtain ⟨k, hk, rfl, HJ, HK⟩ := hrel
      rw [HZ.out] at hk
      have hb1 : wr.cell? ⟨B1, 0, none⟩ = some (.slice A0 l0.length c0) := HK.out.2.1.trans hc1
      have hb2 : wr.cell? ⟨B2, 0, none⟩ = some (.slice A1 l1.length c1) := HK.out.2.2.trans hc2
      have hbw : Below w0.heap.size w0 wr := HB.out.trans HK.out.1
      have HBW := Aside0.mk hbw
      clear hbw
      by_cases hk2 : k < (l0.zip l1).length
      · rw [HZ.out] at hk2
        obtain ⟨ad0, e0, hx0⟩ := Kd.at_int HR0.out (k : Int) (by omega) (by omega)
        obtain ⟨ad1, e1, hx1⟩ := Kd.at_int HR1.out (k : Int) (by omega) (by omega)
        rw [Int.toNat_natCast] at hx0 hx1
        replace hx0 := pw_cell_below HBW.out hx0
        replace hx1 := pw_cell_below HBW.out hx1
        obtain rfl := e0
        obtain rfl := e1
        obtain ⟨fn, tmps, assign, body, hy, hR⟩ := HY.out ((l0.zip l1).take k) (rd l0 k, rd l1 k) wr.drew (HJD.out _ _ HJ.out) (by rw [List.length_take, HZ.out]; omega)
        dsimp only at hy
        have HR := Aside0.mk (hR.mono (R' := units_pairs.Went J Jx (units_pairs.Kp w0.heap.size B1 B2) ((l0.zip l1).take k) (rd l0 k, rd l1 k) wr.drew) (fun e W' h => by
          rcases h with ⟨rfl, h1, h2⟩ | ⟨rfl, h1⟩
          · exact ⟨true, rfl, ⟨.inl ⟨rfl, h1, h2⟩⟩⟩
          · exact ⟨false, rfl, ⟨.inr ⟨rfl, h1⟩⟩⟩))
        clear hR
        gi_wp2
        have hkl0 : k < l0.length := by omega
        have hkl1 : k < l1.length := by omega
        refine units_pairs.tailIn 9 (by kernel_rfl) (by kernel_rfl) ?_
        simp only [List.take_succ_cons, List.take_zero, List.drop_succ_cons, List.drop_zero]
        repeat still_step
        refine wpStill_nil ?_
        gi_wp2
        refine ⟨fun h => absurd h (by simp [Fence.wide]), ?_⟩
        refine HR.out.mono ?_
        rintro e W3 ⟨b, rfl, hcase⟩
        rcases hcase.out with ⟨rfl, hJ3, hK3⟩ | ⟨rfl, hJ3⟩
        · have HJ3 := Aside0.mk hJ3
          have HK3 := Aside0.mk hK3
          clear hJ3 hK3 hcase HR hy
          gi_wp2
          go_roundw
          case rel => exact ⟨k + 1, by rw [HZ.out]; omega, by go_num, ⟨by
              have e : (l0.zip l1).take (k + 1) = (l0.zip l1).take k ++ [(rd l0 k, rd l1 k)] := by
                rw [List.take_succ_eq_append_getElem (by rw [HZ.out]; omega)]
                simp [rd, hkl0, hkl1]
              rw [e]; exact HJ3.out⟩, ⟨(HK.out.trans ⟨Below.drew (Below.refl _ _), rfl, rfl⟩).trans HK3.out⟩⟩
          case measure => rw [HZ.out]; simp [intOf]; omega
        · have HJ3 := Aside0.mk hJ3
          clear hJ3 hcase HR hy
          gi_wp2
          refine bodyPost_ret (results_none rfl _ _ _) rfl ?_
          refine ⟨⟨_, rfl⟩, .inr ⟨_, ?_, HJ3.out⟩⟩
          have e : (l0.zip l1).take (k + 1) = (l0.zip l1).take k ++ [(rd l0 k, rd l1 k)] := by
            rw [List.take_succ_eq_append_getElem (by rw [HZ.out]; omega)]
            simp [rd, hkl0, hkl1]
          rw [← e]
          exact List.take_prefix _ _
      · rw [HZ.out] at hk2
        gi_wp2
        go_end0
        refine ⟨⟨_, rfl⟩, .inl ⟨_, rfl, ?_⟩⟩
        have e := HJ.out
        rw [List.take_of_length_le (by rw [HZ.out]; omega)] at e
        exact e
theorem units_pairs.iter (n : Nat) (B1 B2 : Nat) (w0 : World) (A0 : Option Addr) (c0 : Nat) (l0 : List Int) (A1 : Option Addr) (c1 : Nat) (l1 : List Int)
    (hr0 : Kd.C (Kd.int .i64) w0 A0 l0.length l0) (hr1 : Kd.C (Kd.int .i64) w0 A1 l1.length l1) (w : World) (hB : Below w0.heap.size w0 w) (hb1 : B1 < w.heap.size) (hb2 : B2 < w.heap.size)
    (hc1 : w.cell? ⟨B1, 0, none⟩ = some (.slice A0 l0.length c0)) (hc2 : w.cell? ⟨B2, 0, none⟩ = some (.slice A1 l1.length c1)) :
    SeqStopsK Fence.wide n Try.prog 36 #[.pointer (some ⟨B1, 0, none⟩), .pointer (some ⟨B2, 0, none⟩)] (fun x : Int × Int => #[.int .i64 x.1, .int .i64 x.2]) (units_pairs.Kp w0.heap.size B1 B2)
      (fun ys => ys = l0.zip l1) (fun pre => pre <+: l0.zip l1) (min l0.length l1.length) w :=
  fun l J Jx W hW hJ _ hY h0 => units_pairs.iter1 n l B1 B2 w0 A0 c0 l0 A1 c1 l1 hr0 hr1 J Jx (fun pre W h => hJ pre W _ none h ⟨rfl, rfl, rfl, Nat.le_refl _, fun _ _ _ => rfl⟩ (fun r e => by cases e)) hY W
    (hB.trans (hW.mono hB.size)) ((hW.cell (p := ⟨B1, 0, none⟩) hb1).trans hc1) ((hW.cell (p := ⟨B2, 0, none⟩) hb2).trans hc2) h0
/-- units.pairs: the two slices are boxed; the function value has them. -/
theorem units_pairs.make (n : Nat) (a0 a1 : Option Addr) (m0 m1 k0 k1 : Nat) (w : World) :
    CallsIn Fence.wide n Try.prog 34 #[.slice a0 m0 k0, .slice a1 m1 k1] w fun e w' =>
      e = .returned (.func (.func 36) #[] #[.pointer (some ⟨w.heap.size, 0, none⟩), .pointer (some ⟨w.heap.size + 1, 0, none⟩)]) ∧ w' = (w.alloc (.cells #[.slice a0 m0 k0] 22)).alloc (.cells #[.slice a1 m1 k1] 22) := by
  refine callsIn_of_wp Try.func34 rfl trivial ?_ rfl
  simp only [Try.ntmps34, List.size_toArray, List.length_cons, List.length_nil, Nat.reduceAdd, Nat.reduceSub, Array.replicate_succ, Array.replicate_zero, List.push_toArray, List.append_toArray, List.nil_append, List.cons_append]
  gi_wp2
  go_ret
  exact ⟨rfl, rfl⟩
end

end Go.Proofs.Ytlngcnijlijplaa.PBank
