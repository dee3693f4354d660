/-
  The order that the program finds is the reference's.
-/
import Derived.Test.YtlngcnijlijplaaBankLib
import Derived.Test.YtlngcnijlijplaaPBankx13
import Derived.Test.YtlngcnijlijplaaPBankx8
import Derived.Test.YtlngcnijlijplaaPBankx9
namespace Go.Proofs.Ytlngcnijlijplaa.BankKit
open Go.RowKit Go.Proofs.Ytlngcnijlijplaa.PBank Go.Proofs.Ytlngcnijlijplaa.EvKit Go.Proofs.YtlngcnijlijplaaW.PrintWords Go.Proofs.YtlngcnijlijplaaW.PrintLast

theorem bank_run_len (H C : Nat → List Int) (n : Nat) : ∀ (m : Nat) (th : List Int) (L : List Nat) (out : List Int), (bank_run H C n m th L out).1.length ≤ out.length + m
  | 0, _, _, out => by simp [bank_run]
  | m + 1, th, L, out => by
    rw [bank_run]
    split
    · rename_i i _
      have := bank_run_len H C n m (addN th (H i) (H i).length) (L.erase i) (out ++ [(i : Int)])
      simp at this
      omega
    · simp
section
variable {l0 : List Int} {l1 l2 : List (List Int)}
/-- It is found: the rest of the walk through the list does nothing. -/
theorem found_ {th out : List Int} {f i : Nat} {R : List Int × Bool} (ho : out.length ≤ 32) (hf : f < l1.length) (h : Ev (fun q => (signalboxref14_more.f q th (rd_L1 l1 f)).bind fun t => signalboxref14_Order.l0 q l1 l2 (out ++ [(f : Int)]) t) R) : Ev (fun q => signalboxref14_Order.l1 q l1 l2 out th (f : Int) i) R := by
  have w : Ev (fun q => signalboxref14_Order.j2 q l1 l2 out th (f : Int) i false) R := by
    refine Ev.step (fun q => by simp only [signalboxref14_Order.j2]; rfl) ?_
    exact neg (by simp) (neg (by omega) (pos (by omega) (pos (by omega) (pos (by omega) h))))
  refine Ev.step (fun q => by simp only [signalboxref14_Order.l1]; rfl) ?_
  refine ite (fun _ => ?_) (fun _ => w)
  rw [decide_eq_false (by omega)]
  exact w
theorem seek_ (ok : bank_Ok l0 l1 l2) {th out : List Int} {L : List Nat} {m : Nat} (hT : Th l0 th (m + 1)) (ho : out.length ≤ 32) (hL : ∀ i : Nat, i < l1.length → (decide (((i : Nat) : Int) ∈ out)) = !decide (i ∈ L)) {R0 : Nat → List Int × Bool}
    (hR : ∀ f, f < l1.length → (decide (f ∈ L) && canTo th (rd_L1 l1 f) (rd_L1 l2 f) (rd_L1 l2 f).length) = true → Ev (fun q => (signalboxref14_more.f q th (rd_L1 l1 f)).bind fun t => signalboxref14_Order.l0 q l1 l2 (out ++ [(f : Int)]) t) (R0 f)) :
    ∀ (d i : Nat), l1.length - i = d → i ≤ l1.length → (∀ j, j < i → (decide (j ∈ L) && canTo th (rd_L1 l1 j) (rd_L1 l2 j) (rd_L1 l2 j).length) = false) →
      Ev (fun q => signalboxref14_Order.l1 q l1 l2 out th (-1) i) (match (List.range l1.length).find? (fun i => decide (i ∈ L) && canTo th (rd_L1 l1 i) (rd_L1 l2 i) (rd_L1 l2 i).length) with | some f => R0 f | none => ([], false))
  | 0, i, hd, hi, hno => by
    have e : i = l1.length := by omega
    subst e
    rw [find_no hno]
    refine Ev.step (fun q => by simp only [signalboxref14_Order.l1]; rfl) ?_
    refine neg (by omega) ?_
    refine Ev.step (fun q => by simp only [signalboxref14_Order.j2]; rfl) ?_
    exact neg (by simp) (pos (by omega) (somec rfl))
  | d + 1, i, hd, hi, hno => by
    have hil : i < l1.length := by omega
    have h32 := ok.n32
    have hstep : (decide (i ∈ L) && canTo th (rd_L1 l1 i) (rd_L1 l2 i) (rd_L1 l2 i).length) = false → Ev (fun q => signalboxref14_Order.l1 q l1 l2 out th (-1) (wrap64 ((i : Int) + 1))) (match (List.range l1.length).find? (fun i => decide (i ∈ L) && canTo th (rd_L1 l1 i) (rd_L1 l2 i) (rd_L1 l2 i).length) with | some f => R0 f | none => ([], false)) := by
      intro hp
      rw [w64 (by omega) (by omega), show ((i : Int) + 1) = ((i + 1 : Nat) : Int) by omega]
      refine seek_ ok hT ho hL hR d (i + 1) (by omega) (by omega) (fun j hj => ?_)
      by_cases e : j = i
      · subst e; exact hp
      · exact hno j (by omega)
    refine Ev.step (fun q => by simp only [signalboxref14_Order.l1]; rfl) ?_
    refine pos (by omega) ?_
    refine Ev.step (fun q => by simp only [signalboxref14_Order.j2]; rfl) ?_
    refine pos (by decide) ?_
    refine bnd (has out i (by omega)) (ite (fun h => ?_) (fun h => ?_))
    · rw [hL i hil] at h
      have : decide (i ∈ L) = false := by simpa using h
      exact hstep (by rw [this]; rfl)
    · rw [hL i hil] at h
      have hin : decide (i ∈ L) = true := by simpa using h
      have := ok.eq
      refine pos (by omega) (pos (by omega) (pos (by omega) (bnd (can_ ok hT hil) (ite (fun hc => ?_) (fun hc => ?_)))))
      · have hp : (decide (i ∈ L) && canTo th (rd_L1 l1 i) (rd_L1 l2 i) (rd_L1 l2 i).length) = true := by rw [hin, hc]; rfl
        rw [find_first hil hp hno]
        exact Ev.congr (fun _ => rfl) (by rw [w64 (by omega) (by omega), show ((i : Int) + 1) = ((i + 1 : Nat) : Int) by omega]; exact found_ ho hil (hR i hil hp))
      · exact hstep (by rw [Bool.eq_false_iff.2 hc, Bool.and_false])
theorem order_ (ok : bank_Ok l0 l1 l2) : ∀ (m : Nat) (th : List Int) (L : List Nat) (out : List Int), Th l0 th m → L.length = m → L.Nodup → (∀ i ∈ L, i < l1.length) → out.length + m = l1.length → (∀ i : Nat, i < l1.length → (decide (((i : Nat) : Int) ∈ out)) = !decide (i ∈ L)) →
    Ev (fun q => signalboxref14_Order.l0 q l1 l2 out th) (bank_run (fun i => rd_L1 l1 i) (fun i => rd_L1 l2 i) l1.length m th L out)
  | 0, th, L, out, hT, hl, hn, hi, ho, hL => by
    refine Ev.step (fun q => by simp only [signalboxref14_Order.l0]; rfl) ?_
    exact neg (by omega) (somec rfl)
  | m + 1, th, L, out, hT, hl, hn, hi, ho, hL => by
    have h32 := ok.n32
    refine Ev.step (fun q => by simp only [signalboxref14_Order.l0]; rfl) ?_
    refine pos (by omega) ?_
    refine seek_ ok hT (by omega) hL (R0 := fun i => bank_run (fun i => rd_L1 l1 i) (fun i => rd_L1 l2 i) l1.length m (addN th (rd_L1 l1 i) (rd_L1 l1 i).length) (L.erase i) (out ++ [(i : Int)])) (fun f hf hp => ?_) l1.length 0 (by omega) (by omega) (fun j hj => absurd hj (Nat.not_lt_zero j))
    rw [Bool.and_eq_true] at hp
    have hfL : f ∈ L := of_decide_eq_true hp.1
    refine bnd (back_ ok hT hf) (order_ ok m _ _ _ (Th.next ok hT hf) ?_ (hn.erase f) (fun i hi' => hi i (List.mem_of_mem_erase hi')) ?_ (fun i hi' => ?_))
    · rw [List.length_erase_of_mem hfL, hl]; rfl
    · simp; omega
    · have e1 := hL i hi'
      have e3 : i ∈ L.erase f ↔ i ≠ f ∧ i ∈ L := hn.mem_erase_iff
      by_cases e : i = f
      · subst e
        have e5 : ¬ i ∈ L.erase i := fun q => (e3.1 q).1 rfl
        rw [decide_eq_false e5, decide_eq_true (by simp)]; rfl
      · have e2 : ((i : Int) ∈ out ++ [(f : Int)]) ↔ (i : Int) ∈ out := by
          rw [List.mem_append, List.mem_singleton]
          exact ⟨fun h => h.resolve_right (by omega), .inl⟩
        have e4 : i ∈ L.erase f ↔ i ∈ L := ⟨fun q => (e3.1 q).2, fun q => e3.2 ⟨e, q⟩⟩
        by_cases q : i ∈ L
        · rw [decide_eq_true q] at e1
          have e5 : ¬ (i : Int) ∈ out := by simpa using e1
          rw [decide_eq_true (e4.2 q), decide_eq_false (fun z => e5 (e2.1 z))]; rfl
        · rw [decide_eq_false q] at e1
          rw [decide_eq_false (fun z => q (e4.1 z)), decide_eq_true (e2.2 (by simpa using e1))]; rfl
theorem rorder (ok : bank_Ok l0 l1 l2) (hb0 : l0.length ≤ 9223372036854775807) (hb1 : ∀ x ∈ l1, x.length ≤ 9223372036854775807) (hb2 : ∀ x ∈ l2, x.length ≤ 9223372036854775807) (h : mayB l0 l1 l2 = true) : Ev (fun q => signalboxref14_Order.f q l0 l1 l2) (bank_run (fun i => rd_L1 l1 i) (fun i => rd_L1 l2 i) l1.length l1.length l0 (List.range l1.length) []) := by
  unfold signalboxref14_Order.f
  refine bnd (rmay l0 l1 l2 hb0 hb1 hb2) (pos h ?_)
  exact order_ ok l1.length l0 (List.range l1.length) [] (Th.start ok) (by simp) List.nodup_range (fun i hi => List.mem_range.1 hi) (by simp) (fun i hi => by simp [hi])
end
end Go.Proofs.Ytlngcnijlijplaa.BankKit
