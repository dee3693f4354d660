-- Written by a program of this session (over the kit's printer): not typed by hand.
import Derived.Test.YtfbcilmiagmijaaPUnitsx0
import Derived.Test.YtfbcilmiagmijaaPUnitsx1
import Derived.RangeFuncNested
import Derived.RangeFuncBound
import Derived.RangeFuncCalls
import Derived.RangeFuncLeaves
import Derived.RangeFuncFrom
import Derived.RangeFuncBox
import Derived.RangeFuncWrites
import Derived.Maps.AppendAt
import Derived.Shelf.Abstract
import Derived.Shelf.RegionOpen
import Derived.OwnWalkIn
import Derived.TacticsInMore
import Derived.LoopNIn
import Derived.LoopIn
namespace Go.Proofs.Ytfbcilmiagmijaa.PUnits
open Go.RowKit Go.Proofs.YtfbcilmiagmijaaW.PrintWords Go.Proofs.YtfbcilmiagmijaaW.PrintLast Go.Proofs.YtfbcilmiagmijaaW.PrintMore
attribute [local go_sem] max2_int min2_int max_two min_two max_three min_three max_four min_four   -- for this text's walks alone
set_option linter.unusedVariables false
set_option linter.unusedSimpArgs false

/-! ### units_each: function 51 -/
section
open Go.Shelf
attribute [local go_sem] Oper.semAt_some
/-! A region that draws its order, in a round: what yields in whatever world is taken first; a stretch that stands in one order is walked as a list. -/
section
variable {F : Fence} {n : Nat} {P : Program} {ops : Array Oper} {md : Region.Mode} {Q : Exit → Act → World → Prop}
theorem units_each.op_same {i : Nat} {o : Oper} {v : Value} {a : Act} (hnd : ∀ c, o.op ≠ .defer c) (hi : ops[i]? = some o) (hy : YieldsFenced P ops o v a) {K : Act → World → Prop} {w : World} (h : K (a.put o.dst v) w) : wpOpIn F n P ops Q i K a w := by
  unfold Go.wpOpIn
  simp only [hi]
  have hab : ∀ f, o.about P w a.eval = some f → F.fn f := fun f hf => by rw [hy.2 w] at hf; cases hf
  rcases hy.1 with ⟨hw, hv⟩ | ⟨hw, rfl⟩
  · simp only [hw, if_true, Oper.wpIn, Oper.semAt_plain F _ _ hnd, hv w, Oper.uponIn]; exact ⟨hab, h⟩
  · simp only [hw, Bool.false_eq_true, if_false]; exact ⟨hab, h⟩
theorem units_each.op_put {j : Nat} {oi oj : Oper} {v : Value} (hnd : ∀ c, oj.op ≠ .defer c) (hj : ops[j]? = some oj) (hap : oi.apart ops oj = true) (hsi : ∀ cs b, oi.op ≠ .select cs b) (hsj : ∀ cs b, oj.op ≠ .select cs b)
    (hQ : ∀ c a w, Q (.panic c) (a.put oi.dst v) w → Q (.panic c) a w) {K : Act → World → Prop} {a : Act} {w : World} (hy : YieldsFenced P ops oi v a) (h : wpOpIn F n P ops Q j K (a.put oi.dst v) w) :
    wpOpIn F n P ops Q j (fun a' w' => YieldsFenced P ops oi v a' ∧ K (a'.put oi.dst v) w') a w := by
  obtain ⟨h1, h2, h3⟩ := Oper.apart_spec hap
  have keep : ∀ (a : Act), YieldsFenced P ops oi v a → ∀ u, YieldsFenced P ops oi v (a.put oj.dst u) := fun a hy u =>
    hy.of_same (execOp_put oi hsi a oj.dst u h3) (wanted_put oi a oj.dst u h3) (fun w => about_put oi w a oj.dst u h3)
  have keepD : ∀ d, YieldsFenced P ops oi v { a with defers := d :: a.defers } := fun d => hy.of_same rfl rfl (fun _ => rfl)
  unfold wpOpIn at *
  simp only [hj] at *
  rw [wanted_put oj a oi.dst v h1, about_put oj w a oi.dst v h1] at h
  by_cases hw : Region.wanted oj (yielded ops a.tmps) = true
  · rw [if_pos hw] at h ⊢
    unfold Oper.wpIn at *
    rw [about_put oj w a oi.dst v h1, Oper.semAt_plain F _ _ hnd, execOp_put oj hsj a oi.dst v h1] at h
    rw [Oper.semAt_plain F _ _ hnd]
    refine ⟨h.1, ?_⟩
    replace h := h.2
    generalize (execOp a.eval oj).run P w = r at *
    cases r with
    | ok x w' =>
      cases x <;> simp only [Oper.uponIn] at h ⊢
      case value u => exact ⟨keep a hy u, by rw [← Act.put_comm a v u h2]; exact h⟩
      case skip => exact ⟨keep a hy _, by rw [← Act.put_comm a v undef h2]; exact h⟩
      case defer d => exact ⟨keep _ (keepD d) _, by rw [← Act.put_comm _ v undef h2, ← Act.put_defers]; exact h⟩
      case enter f args => exact ⟨h.1, CallsIn.mono h.2 fun e w'' he => by
        cases e with
        | returned u => exact ⟨keep a hy u, by rw [← Act.put_comm a v u h2]; exact he⟩
        | panicked c => exact hQ _ _ _ he
        | outgrown => exact he⟩
      case row row args => exact ⟨h.1, RowsIn.mono h.2 fun u w'' he => ⟨keep a hy u, by rw [← Act.put_comm a v u h2]; exact he⟩⟩
      case round l f tmps assign body => exact ⟨h.1, RoundIn.mono h.2 fun e w'' he => by
        cases e with
        | returned u => exact ⟨keep a hy u, by rw [← Act.put_comm a v u h2]; exact he⟩
        | panicked c => exact hQ _ _ _ he
        | outgrown => exact he⟩
    | halt x w' =>
      cases x <;> simp only [Oper.uponIn] at h ⊢
      case panic u => exact hQ _ _ _ h
  · rw [if_neg hw] at h ⊢
    exact ⟨h.1, keep a hy _, by rw [← Act.put_comm a v undef h2]; exact h.2⟩
/-- No operation of the region is a defer statement. -/
def units_each.plainB (ops : Array Oper) : Bool := ops.toList.all fun o => match o.op with | .defer _ => false | _ => true
theorem units_each.plain (h : units_each.plainB ops = true) (j : Nat) (o : Oper) (c : Call) (hj : ops[j]? = some o) : o.op ≠ .defer c := by
  intro e
  have hm : o ∈ ops.toList := by rw [Array.mem_toList_iff]; exact Array.mem_of_getElem? hj
  have := List.all_eq_true.1 h o hm
  rw [e] at this
  cases this
theorem units_each.first {i : Nat} {oi : Oper} {v : Value} (hnd : units_each.plainB ops = true) (hi : ops[i]? = some oi) (hsel : ∀ (j : Nat) (o : Oper) cs b, ops[j]? = some o → o.op ≠ .select cs b)
    (hQ : ∀ c a w, Q (.panic c) (a.put oi.dst v) w → Q (.panic c) a w) :
    ∀ (fuel : Nat) (listed : Array Bool) (a : Act) (w : World),
      (∀ j oj, ops[j]? = some oj → j ≠ i → listed.getD j true = false → (∀ e ∈ oj.after, Region.binds md e = true → e.on ≠ i) → oi.apart ops oj = true) →
      i ∈ Region.ready md ops listed → YieldsFenced P ops oi v a →
      wpAnyIn F n P md ops Q fuel (listed.setIfInBounds i true) (a.put oi.dst v) w → wpAnyIn F n P md ops Q (fuel + 1) listed a w := by
  intro fuel
  induction fuel with
  | zero =>
    intro listed a w _ hr hy H
    refine ⟨fun h => (by rw [h] at hr; cases hr), fun j hj => ?_⟩
    by_cases hji : j = i
    · subst hji; exact units_each.op_same (fun c => units_each.plain hnd _ _ c hi) hi hy H
    · have := ready_mono hj hji
      rw [H.1] at this
      cases this
  | succ fuel ih =>
    intro listed a w hfree hr hy H
    refine ⟨fun h => (by rw [h] at hr; cases hr), fun j hj => ?_⟩
    by_cases hji : j = i
    · subst hji; exact units_each.op_same (fun c => units_each.plain hnd _ _ c hi) hi hy H
    · have h1 := H.2 j (ready_mono hj hji)
      obtain ⟨hjun, oj, hoj, hall⟩ := mem_ready.1 hj
      have hnot : ∀ e ∈ oj.after, Region.binds md e = true → e.on ≠ i := fun e he hb heq => by
        have h1 := hall e he hb
        have h0 := (mem_ready.1 hr).1
        rw [heq] at h1
        rcases Nat.lt_or_ge i listed.size with h' | h'
        · simp [h'] at h0 h1; rw [h0] at h1; cases h1
        · simp [Array.getElem?_eq_none h'] at h1
      have h2 := units_each.op_put (fun c => units_each.plain hnd _ _ c hoj) hoj (hfree j oj hoj hji hjun hnot) (fun cs b => hsel i oi cs b hi) (fun cs b => hsel j oj cs b hoj) hQ hy h1
      have hfree' : ∀ k ok, ops[k]? = some ok → k ≠ i → (listed.setIfInBounds j true).getD k true = false →
          (∀ e ∈ ok.after, Region.binds md e = true → e.on ≠ i) → oi.apart ops ok = true := fun k ok hk hki hun hno => by
        refine hfree k ok hk hki ?_ hno
        by_cases hjk : j = k
        · subst hjk; exact hjun
        · rw [getD_set_ne true hjk] at hun; exact hun
      refine wpOpIn_mono (fun a' w' h3 => ih (listed.setIfInBounds j true) a' w' hfree' (ready_mono hr (Ne.symm hji)) h3.1 ?_) h2
      rw [Array.setIfInBounds_comm _ _ hji]
      exact h3.2
theorem units_each.take {i : Nat} {oi : Oper} {v : Value} {fuel : Nat} {listed : Array Bool} {a : Act} {w : World} (hnd : units_each.plainB ops = true) (hi : ops[i]? = some oi)
    (hs : Region.noSelect ops = true) (hf : Region.free md ops listed i = true) (hr : (Region.ready md ops listed).contains i = true)
    (hQ : ∀ c a w, Q (.panic c) (a.put oi.dst v) w → Q (.panic c) a w) (hy : YieldsFenced P ops oi v a)
    (h : wpAnyIn F n P md ops Q fuel (listed.setIfInBounds i true) (a.put oi.dst v) w) : wpAnyIn F n P md ops Q (fuel + 1) listed a w :=
  units_each.first hnd hi (Region.noSelect_spec hs) hQ fuel listed a w (Region.free_spec hi hf) (by simpa using hr) hy h
theorem units_each.take' {i : Nat} {oi : Oper} {N : Option Tmp} {v : Value} {fuel : Nat} {listed listed' : Array Bool} {a a' : Act} {w : World} (hnd : units_each.plainB ops = true) (hi : ops[i]? = some oi) (hN : oi.dst = N)
    (hs : Region.noSelect ops = true) (hf : Region.free md ops listed i = true) (hr : (Region.ready md ops listed).contains i = true)
    (hQ : ∀ c a w, Q (.panic c) (a.put oi.dst v) w → Q (.panic c) a w) (hy : YieldsFenced P ops oi v a) (hl : listed.setIfInBounds i true = listed') (ha : a.put N v = a')
    (h : wpAnyIn F n P md ops Q fuel listed' a' w) : wpAnyIn F n P md ops Q (fuel + 1) listed a w :=
  units_each.take hnd hi hs hf hr hQ hy (by rw [hN, ha, hl]; exact h)
/-- A stretch in one order: each operation alone may come up. -/
def units_each.seqB (md : Region.Mode) (ops : Array Oper) : List Nat → Array Bool → Bool
  | [], listed => (Region.ready md ops listed).isEmpty
  | i :: is, listed => decide (Region.ready md ops listed = [i]) && units_each.seqB md ops is (listed.setIfInBounds i true)
theorem units_each.seq : ∀ (is : List Nat) (l : List Oper) (listed : Array Bool) (a : Act) (w : World), is.map (fun i => ops[i]?) = l.map some →
    units_each.seqB md ops is listed = true → wpListIn F n P ops Q l a w → wpAnyIn F n P md ops Q is.length listed a w
  | [], [], _, _, _, _, hB, h => ⟨by simpa [units_each.seqB] using hB, h⟩
  | [], _ :: _, _, _, _, hm, _, _ => by simp at hm
  | _ :: _, [], _, _, _, hm, _, _ => by simp at hm
  | i :: is, o :: l, listed, a, w, hm, hB, h => by
    simp only [List.map_cons, List.cons.injEq] at hm
    simp only [units_each.seqB, Bool.and_eq_true, decide_eq_true_eq] at hB
    refine ⟨fun h1 => (by rw [hB.1] at h1; cases h1), fun k hk => ?_⟩
    rw [hB.1] at hk
    obtain rfl : k = i := by simpa using hk
    have hw : wpOpIn F n P ops Q k (wpListIn F n P ops Q l) a w := by unfold wpOpIn; simp only [hm.1]; exact h
    exact wpOpIn_mono (fun a' w' h' => units_each.seq is l _ a' w' hm.2 hB.2 h') hw
/-- Two may come up: each goes on. -/
theorem units_each.two {i j : Nat} {oi oj : Oper} {fuel : Nat} {listed : Array Bool} {a : Act} {w : World} (hr : Region.ready md ops listed = [i, j]) (hi : ops[i]? = some oi) (hj : ops[j]? = some oj)
    (h1 : ∀ K : Act → World → Prop, (∀ a w, wpAnyIn F n P md ops Q fuel (listed.setIfInBounds i true) a w → K a w) → wpListIn F n P ops (fun e a w => match e with | .normal => K a w | e => Q e a w) [oi] a w)
    (h2 : ∀ K : Act → World → Prop, (∀ a w, wpAnyIn F n P md ops Q fuel (listed.setIfInBounds j true) a w → K a w) → wpListIn F n P ops (fun e a w => match e with | .normal => K a w | e => Q e a w) [oj] a w) :
    wpAnyIn F n P md ops Q (fuel + 1) listed a w := by
  have one : ∀ (k : Nat) (o : Oper) (K : Act → World → Prop), ops[k]? = some o → wpListIn F n P ops (fun e a w => match e with | .normal => K a w | e => Q e a w) [o] a w → wpOpIn F n P ops Q k K a w := by
    intro k o K hk h
    unfold wpOpIn
    simp only [hk]
    unfold wpListIn at h
    by_cases hw : Region.wanted o (yielded ops a.tmps) = true
    · rw [if_pos hw] at h ⊢
      unfold Oper.wpIn at *
      refine ⟨h.1, ?_⟩
      replace h := h.2
      generalize (o.semAt F.round a.eval).run P w = r at *
      cases r with
      | ok x w' => cases x <;> exact h
      | halt x w' => cases x <;> exact h
    · rw [if_neg hw] at h ⊢
      exact h
  refine ⟨fun h0 => (by rw [hr] at h0; cases h0), fun k hk => ?_⟩
  rw [hr] at hk
  have : k = i ∨ k = j := by simpa using hk
  rcases this with rfl | rfl
  · exact one k oi _ hi (h1 _ (fun _ _ h => h))
  · exact one k oj _ hj (h2 _ (fun _ _ h => h))
end
/-- May this number be? -/
def units_each.okB (x : Int) : Bool := decide (0 ≤ x) && decide (x ≤ 1000)
theorem units_each.may_two (x y : Int) : units_may.f 5 [x, y] = some (units_each.okB x && units_each.okB y) := by
  have w0 : wrap64 (0 + 1) = 1 := by unfold wrap64; omega
  have w1 : wrap64 (1 + 1) = 2 := by unfold wrap64; omega
  have w4 : wrap64 1 = 1 := by unfold wrap64; omega
  have w5 : wrap64 2 = 2 := by unfold wrap64; omega
  by_cases a : x < 0 <;> by_cases b : 1000 < x <;> by_cases c : y < 0 <;> by_cases d : 1000 < y <;> simp [units_may.f, units_may.l0, rd, w0, w1, w4, w5, units_each.okB, a, b, c, d] <;> omega
theorem units_each.may_one (x : Int) : units_may.f 5 [x] = some (units_each.okB x) := by
  have w0 : wrap64 (0 + 1) = 1 := by unfold wrap64; omega
  have w4 : wrap64 1 = 1 := by unfold wrap64; omega
  by_cases a : x < 0 <;> by_cases b : 1000 < x <;> simp [units_may.f, units_may.l0, rd, w0, w4, units_each.okB, a, b] <;> omega
theorem units_each.reads_two {W : World} {B : Nat} {x y : Int} (h0 : W.cell? ⟨B, 0, none⟩ = some (.int .i64 x)) (h1 : W.cell? ⟨B, 1, none⟩ = some (.int .i64 y)) : Kd.C (Kd.int .i64) W (some ⟨B, 0, none⟩) 2 [x, y] :=
  Kd.C_of_reads (d := (0 : Int)) (h1 := fun _ => rfl) ⟨rfl, by omega, fun _ => ⟨_, rfl, fun j hj => by
    rw [add_plain]
    match j, hj with
    | 0, _ => exact h0
    | 1, _ => exact h1⟩⟩
theorem units_each.reads_one {W : World} {B : Nat} {x : Int} (h0 : W.cell? ⟨B, 0, none⟩ = some (.int .i64 x)) : Kd.C (Kd.int .i64) W (some ⟨B, 0, none⟩) 1 [x] :=
  Kd.C_of_reads (d := (0 : Int)) (h1 := fun _ => rfl) ⟨rfl, by omega, fun _ => ⟨_, rfl, fun j hj => by
    rw [add_plain]
    match j, hj with
    | 0, _ => exact h0⟩⟩
theorem units_each.may2 (l n : Nat) {W : World} {B : Nat} {x y : Int} {b : Bool} (hb : (units_each.okB x && units_each.okB y) = b) (h0 : W.cell? ⟨B, 0, none⟩ = some (.int .i64 x)) (h1 : W.cell? ⟨B, 1, none⟩ = some (.int .i64 y)) :
    CallsIn (Fence.wide.inRound l) n Try.prog 56 #[.slice (some ⟨B, 0, none⟩) 2 2] W fun e W' => e = .returned (.bool b) ∧ Drawn0 W W' :=
  CallsIn.inRound l (callsIn_wide.2 (units_may.calls 5 _ 2 [x, y] b W (units_each.reads_two h0 h1) (by simp) (by rw [units_each.may_two, hb])))
theorem units_each.may1 (l n : Nat) {W : World} {B : Nat} {x : Int} {b : Bool} (hb : units_each.okB x = b) (h0 : W.cell? ⟨B, 0, none⟩ = some (.int .i64 x)) :
    CallsIn (Fence.wide.inRound l) n Try.prog 56 #[.slice (some ⟨B, 0, none⟩) 1 1] W fun e W' => e = .returned (.bool b) ∧ Drawn0 W W' :=
  CallsIn.inRound l (callsIn_wide.2 (units_may.calls 5 _ 1 [x] b W (units_each.reads_one h0) (by simp) (by rw [units_each.may_one, hb])))
end

end Go.Proofs.Ytfbcilmiagmijaa.PUnits
