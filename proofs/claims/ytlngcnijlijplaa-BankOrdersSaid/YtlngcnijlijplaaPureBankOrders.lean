/-
  Whether a state may be, in which order all can complete, whether it is safe: the pure statement of BankOrders.
-/
import Derived.Test.YtlngcnijlijplaaWalkBankOrders
import Derived.Test.YtlngcnijlijplaaBankLib
namespace Go.Proofs.Ytlngcnijlijplaa.Pure
open Go.RowKit Go.Proofs.Ytlngcnijlijplaa.PBank Go.Proofs.Ytlngcnijlijplaa.EvKit Go.Proofs.Ytlngcnijlijplaa.BankKit Go.Proofs.YtlngcnijlijplaaW.PrintWords Go.Proofs.YtlngcnijlijplaaW.PrintLast

theorem bank_run_len (H C : Nat → List Int) (n : Nat) : ∀ (m : Nat) (th : List Int) (L : List Nat) (out : List Int), (bank_run H C n m th L out).1.length ≤ out.length + m
  | 0, _, _, out => by simp [bank_run]
  | m + 1, th, L, out => by
    rw [bank_run]
    split
    · rename_i i _
      have := bank_run_len H C n m (addN th (H i) (H i).length) (L.erase i) (out ++ [(i : Int)])
      simp at this
      omega
    · simp
theorem BankOrders : signalboxlaw14_BankOrders.Pure := by
  intro l0 l1 l2 hm0 _ _ hm1 hr1 hm2 hr2
  have hb0 : l0.length ≤ 9223372036854775807 := by unfold maxLen at hm0; omega
  have hb1 : ∀ x ∈ l1, x.length ≤ 9223372036854775807 := fun x hx => by have := (hr1 x hx).1; unfold maxLen at this; omega
  have hb2 : ∀ x ∈ l2, x.length ≤ 9223372036854775807 := fun x hx => by have := (hr2 x hx).1; unfold maxLen at this; omega
  refine Ev.rounds (show Ev (fun q => signalboxlaw14_BankOrders.f q l0 l1 l2) true from ?_)
  obtain ⟨b, hb⟩ := small_ l0 l1 l2 hm1 hm2 (fun x hx => (hr1 x hx).1) (fun x hx => (hr2 x hx).1)
  unfold signalboxlaw14_BankOrders.f
  refine bnd hb (ite (fun _ => ?_) (fun _ => bnd awake (somec rfl)))
  have M1 := bmay l0 l1 l2 hb0 hb1 hb2
  have M2 := rmay l0 l1 l2 hb0 hb1 hb2
  by_cases h : mayB l0 l1 l2 = true
  · have ok := mayB_ok h
    have O1 : Ev (fun q => bank_Order.f q l0 l1 l2) (bank_run (fun i => rd_L1 l1 i) (fun i => rd_L1 l2 i) l1.length l1.length l0 (List.range l1.length) []) := by
      unfold bank_Order.f
      exact bnd M1 (pos h (Ev.now _))
    have O2 := rorder ok hb0 hb1 hb2 h
    have S : Ev (fun q => bank_Safe.f q l0 l1 l2) (bank_run (fun i => rd_L1 l1 i) (fun i => rd_L1 l2 i) l1.length l1.length l0 (List.range l1.length) []).2 := by
      unfold bank_Safe.f
      exact bnd O1 (Ev.now _)
    have hlen := bank_run_len (fun i => rd_L1 l1 i) (fun i => rd_L1 l2 i) l1.length l1.length l0 (List.range l1.length) []
    have := ok.n32
    refine bnd O1 (bnd O2 (bnd M1 (bnd M2 (pos (by simp) (pos (by simp) (bnd (ints _ _ (by simp at hlen; omega)) (pos (by simp) (bnd S (pos (by simp) (bnd awake (somec rfl)))))))))))
  · have h' : mayB l0 l1 l2 = false := Bool.eq_false_iff.2 h
    have O1 : Ev (fun q => bank_Order.f q l0 l1 l2) ([], false) := by
      unfold bank_Order.f
      exact bnd M1 (neg h (Ev.now _))
    have O2 : Ev (fun q => signalboxref14_Order.f q l0 l1 l2) ([], false) := by
      unfold signalboxref14_Order.f
      exact bnd M2 (neg h (somec rfl))
    have S : Ev (fun q => bank_Safe.f q l0 l1 l2) false := by
      unfold bank_Safe.f
      exact bnd O1 (Ev.now _)
    exact bnd O1 (bnd O2 (bnd M1 (bnd M2 (pos (by simp) (pos (by simp) (bnd (ints _ _ (by simp)) (pos (by simp) (bnd S (pos (by simp) (bnd awake (somec rfl)))))))))))
end Go.Proofs.Ytlngcnijlijplaa.Pure
