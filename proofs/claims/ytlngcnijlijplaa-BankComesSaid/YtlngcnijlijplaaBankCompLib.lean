/-
  Whether an order completes: the program's answer and the reference's are one.
-/
import Derived.Test.YtlngcnijlijplaaBankLib
import Derived.Test.YtlngcnijlijplaaPBankx10
import Derived.Test.YtlngcnijlijplaaPBankx14
namespace Go.Proofs.Ytlngcnijlijplaa.BankKit
open Go.RowKit Go.Proofs.Ytlngcnijlijplaa.PBank Go.Proofs.Ytlngcnijlijplaa.EvKit Go.Proofs.YtlngcnijlijplaaW.PrintWords Go.Proofs.YtlngcnijlijplaaW.PrintLast

theorem done_set {done : List Bool} {i j : Nat} (h : i < done.length) : rdOf false (done.set i true) (j : Int) = if i = j then true else rdOf false done (j : Int) := by
  simp only [rdOf, Int.toNat_natCast, List.getD_eq_getElem?_getD, List.getElem?_set]
  by_cases e : i = j
  · subst e; simp [h]
  · simp [e]
theorem comp_ {l0 : List Int} {l1 l2 : List (List Int)} (ok : bank_Ok l0 l1 l2) (l3 : List Int) (h3 : l3.length = l1.length) : ∀ (d i : Nat) (th : List Int) (L : List Nat) (done : List Bool), l3.length - i = d → i ≤ l3.length → Th l0 th L.length → L.Nodup → done.length = l1.length → (∀ j : Nat, j < l1.length → rdOf false done (j : Int) = !decide (j ∈ L)) → (∀ j ∈ L, j < l1.length) →
    Ev (fun q => signalboxref14_Completes.l0 q l1 l2 l3 th done i) (bank_comp (fun i => rd_L1 l1 i) (fun i => rd_L1 l2 i) (l3.drop i) th L)
  | 0, i, th, L, done, hd, hi, hT, hn, hl, hD, hL => by
    refine Ev.step (fun q => by simp only [signalboxref14_Completes.l0]; rfl) ?_
    rw [drop_end (by omega)]
    exact neg (by omega) (somec rfl)
  | d + 1, i, th, L, done, hd, hi, hT, hn, hl, hD, hL => by
    have h32 := ok.n32
    have heq := ok.eq
    rw [drop_cons (by omega)]
    have no : ∀ x : Int, Ev (fun q => signalboxref14_Completes.j2 q l1 l2 l3 th done i x true) false := fun x => by
      refine Ev.step (fun q => by simp only [signalboxref14_Completes.j2]; rfl) ?_
      exact pos trivial (somec rfl)
    refine Ev.step (fun q => by simp only [signalboxref14_Completes.l0]; rfl) ?_
    refine pos (by omega) (pos (by omega) (ite (fun h => eqr (no _) ?_) (fun h => ite (fun h2 => eqr (no _) ?_) (fun h2 => pos (by omega) (pos (by omega) ?_)))))
    · rw [bank_comp_no (fun q => by have := q.1; omega)]
    · rw [bank_comp_no (fun q => by have := hL _ q.2.1; omega)]
    · obtain ⟨x, hx⟩ : ∃ x : Nat, rd l3 i = (x : Int) := ⟨(rd l3 i).toNat, by omega⟩
      rw [hx] at h h2 ⊢
      have hxl : x < l1.length := by omega
      rw [hD x hxl]
      refine ite (fun h4 => eqr (no _) ?_) (fun h4 => ?_)
      · rw [bank_comp_no (fun q => by
          have := q.2.1
          rw [Int.toNat_natCast] at this
          rw [decide_eq_true this] at h4
          exact absurd h4 (by decide))]
      · have hxL : x ∈ L := by simpa using h4
        refine pos (by omega) (pos (by omega) (bnd (can_ ok hT hxl) ?_))
        cases hc : canTo th (rd_L1 l1 x) (rd_L1 l2 x) (rd_L1 l2 x).length with
        | false =>
          rw [bank_comp_no (fun q => by have := q.2.2; rw [Int.toNat_natCast, hc] at this; exact absurd this (by decide))]
          exact no _
        | true =>
          rw [bank_comp_yes hxL hc]
          have hp : 0 < L.length := List.length_pos_of_mem hxL
          have hT' : Th l0 th ((L.erase x).length + 1) := by
            rw [List.length_erase_of_mem hxL, show L.length - 1 + 1 = L.length by omega]; exact hT
          refine Ev.step (fun q => by simp only [signalboxref14_Completes.j2]; rfl) ?_
          refine neg (by simp) (pos (by omega) (pos (by omega) (pos (by omega) (bnd (back_ ok hT' hxl) ?_))))
          rw [w64 (by omega) (by omega), show ((i : Int) + 1) = ((i + 1 : Nat) : Int) by omega, Int.toNat_natCast]
          refine comp_ ok l3 h3 d (i + 1) _ _ _ (by omega) (by omega) (Th.next ok hT' hxl) (hn.erase x) (by rw [List.length_set]; exact hl) (fun j hj => ?_) (fun j hj => hL j (List.mem_of_mem_erase hj))
          rw [done_set (by omega), hD j hj]
          have e3 : j ∈ L.erase x ↔ j ≠ x ∧ j ∈ L := hn.mem_erase_iff
          by_cases e : x = j
          · subst e
            rw [if_pos rfl, decide_eq_false (fun q => (e3.1 q).1 rfl)]; rfl
          · rw [if_neg e]
            by_cases q : j ∈ L
            · rw [decide_eq_true q, decide_eq_true (e3.2 ⟨Ne.symm e, q⟩)]
            · rw [decide_eq_false q, decide_eq_false (fun z => q (e3.1 z).2)]
theorem completes_ (l0 : List Int) (l1 l2 : List (List Int)) (l3 : List Int) (hb0 : l0.length ≤ 9223372036854775807) (hb1 : ∀ x ∈ l1, x.length ≤ 9223372036854775807) (hb2 : ∀ x ∈ l2, x.length ≤ 9223372036854775807) :
    ∃ r, Ev (fun q => bank_Completes.f q l0 l1 l2 l3) r ∧ Ev (fun q => signalboxref14_Completes.f q l0 l1 l2 l3) r := by
  have M1 := bmay l0 l1 l2 hb0 hb1 hb2
  have M2 := rmay l0 l1 l2 hb0 hb1 hb2
  have no : Ev (fun q => signalboxref14_Completes.j0 q l0 l1 l2 l3 true) false := by
    refine Ev.step (fun q => by simp only [signalboxref14_Completes.j0]; rfl) ?_
    exact pos trivial (somec rfl)
  by_cases h : mayB l0 l1 l2 = true
  · have ok := mayB_ok h
    have h32 := ok.n32
    by_cases hl : l3.length = l1.length
    · refine ⟨bank_comp (fun i => rd_L1 l1 i) (fun i => rd_L1 l2 i) l3 l0 (List.range l1.length), ?_, ?_⟩
      · unfold bank_Completes.f
        refine bnd M1 (pos h ?_)
        rw [if_pos hl]
        exact Ev.now _
      · unfold signalboxref14_Completes.f
        refine bnd M2 (pos h ?_)
        have e : ((l3.length : Int) != (l1.length : Int)) = false := by rw [bne, beq_iff_eq.2 (by omega)]; rfl
        rw [e]
        refine Ev.step (fun q => by simp only [signalboxref14_Completes.j0]; rfl) ?_
        refine neg (by simp) (pos (by omega) (pos (by omega) ?_))
        have hT : Th l0 l0 (List.range l1.length).length := by rw [List.length_range]; exact Th.start ok
        have := comp_ ok l3 hl l3.length 0 l0 (List.range l1.length) (List.replicate l1.length false) (by omega) (by omega) hT List.nodup_range (by simp) (fun j hj => by simp [rdOf, hj]) (fun j hj => List.mem_range.1 hj)
        simpa using this
    · refine ⟨false, ?_, ?_⟩
      · unfold bank_Completes.f
        refine bnd M1 (pos h ?_)
        rw [if_neg hl]
        exact Ev.now _
      · unfold signalboxref14_Completes.f
        refine bnd M2 (pos h ?_)
        have e : ((l3.length : Int) != (l1.length : Int)) = true := bne_iff_ne.2 (by omega)
        rw [e]
        exact no
  · refine ⟨false, ?_, ?_⟩
    · unfold bank_Completes.f
      exact bnd M1 (neg h (Ev.now _))
    · unfold signalboxref14_Completes.f
      exact bnd M2 (neg h no)
end Go.Proofs.Ytlngcnijlijplaa.BankKit
