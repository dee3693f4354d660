/-
  Safe just if some order completes: the greedy order loses nothing.
-/
import Derived.Test.YtlngcnijlijplaaBankStLib
namespace Go.Proofs.Ytlngcnijlijplaa.BankKit
open Go.RowKit Go.Proofs.Ytlngcnijlijplaa.PBank Go.Proofs.Ytlngcnijlijplaa.EvKit Go.Proofs.YtlngcnijlijplaaW.PrintWords Go.Proofs.YtlngcnijlijplaaW.PrintLast

def Good (d : Nat) (H C : Nat → List Int) (L : List Nat) : Prop := ∀ i ∈ L, (H i).length = d ∧ (C i).length = d ∧ ∀ j : Nat, j < d → 0 ≤ rd (H i) j
def Le (d : Nat) (a b : List Int) : Prop := a.length = d ∧ b.length = d ∧ ∀ j : Nat, j < d → rd a j ≤ rd b j
theorem addN_rd {th h : List Int} {d j : Nat} (h1 : th.length = d) (h2 : h.length = d) (hj : j < d) : rd (addN th h h.length) j = rd th j + rd h j := by
  rw [addN_at, if_pos ⟨by omega, by omega⟩]
theorem Le.refl {d : Nat} {a : List Int} (h : a.length = d) : Le d a a := ⟨h, h, fun _ _ => Int.le_refl _⟩
theorem Le.trans {d : Nat} {a b c : List Int} (h : Le d a b) (k : Le d b c) : Le d a c := ⟨h.1, k.2.1, fun j hj => Int.le_trans (h.2.2 j hj) (k.2.2 j hj)⟩
theorem Le.add {d : Nat} {a b h : List Int} (k : Le d a b) (hh : h.length = d) : Le d (addN a h h.length) (addN b h h.length) :=
  ⟨by rw [addN_len]; exact k.1, by rw [addN_len]; exact k.2.1, fun j hj => by rw [addN_rd k.1 hh hj, addN_rd k.2.1 hh hj]; have := k.2.2 j hj; omega⟩
theorem Le.up {d : Nat} {a h : List Int} (ha : a.length = d) (hh : h.length = d) (h0 : ∀ j : Nat, j < d → 0 ≤ rd h j) : Le d a (addN a h h.length) :=
  ⟨ha, by rw [addN_len]; exact ha, fun j hj => by rw [addN_rd ha hh hj]; have := h0 j hj; omega⟩
theorem can_mono {d : Nat} {a b h c : List Int} (k : Le d a b) (hc : c.length = d) (q : canTo a h c c.length = true) : canTo b h c c.length = true := by
  rw [canTo_iff] at q ⊢
  intro j hj
  have := q j hj
  have := k.2.2 j (by omega)
  omega
theorem comp_cons {H C : Nat → List Int} {x : Int} {r th : List Int} {L : List Nat} (h : bank_comp H C (x :: r) th L = true) : ∃ k : Nat, x = (k : Int) ∧ k ∈ L ∧ canTo th (H k) (C k) (C k).length = true ∧ bank_comp H C r (addN th (H k) (H k).length) (L.erase k) = true := by
  by_cases q : 0 ≤ x ∧ x.toNat ∈ L ∧ canTo th (H x.toNat) (C x.toNat) (C x.toNat).length = true
  · obtain ⟨k, rfl⟩ : ∃ k : Nat, x = (k : Int) := ⟨x.toNat, by omega⟩
    rw [Int.toNat_natCast] at q
    rw [bank_comp_yes q.2.1 q.2.2] at h
    exact ⟨k, rfl, q.2.1, q.2.2, h⟩
  · rw [bank_comp_no q] at h
    cases h
theorem Good.less {d : Nat} {H C : Nat → List Int} {L : List Nat} (g : Good d H C L) (k : Nat) : Good d H C (L.erase k) := fun i hi => g i (List.mem_of_mem_erase hi)
theorem comp_mono {d : Nat} {H C : Nat → List Int} : ∀ (t th th' : List Int) (L : List Nat), Good d H C L → Le d th th' → bank_comp H C t th L = true → bank_comp H C t th' L = true
  | [], _, _, _, _, _, _ => rfl
  | x :: t, th, th', L, g, k, h => by
    obtain ⟨i, rfl, hi, hc, hr⟩ := comp_cons h
    obtain ⟨g1, g2, g3⟩ := g i hi
    rw [bank_comp_yes hi (can_mono k g2 hc)]
    exact comp_mono t _ _ _ (g.less i) (k.add g1) hr
/-- Who can now may go first. -/
theorem comp_first {d : Nat} {H C : Nat → List Int} (i : Nat) : ∀ (t th th' : List Int) (L : List Nat), Good d H C L → L.Nodup → i ∈ L → th.length = d → Le d (addN th (H i) (H i).length) th' → bank_comp H C t th L = true → bank_comp H C (t.erase (i : Int)) th' (L.erase i) = true
  | [], _, _, _, _, _, _, _, _, _ => rfl
  | x :: t, th, th', L, g, hn, hi, hth, k, h => by
    obtain ⟨j, rfl, hj, hc, hr⟩ := comp_cons h
    obtain ⟨g1, g2, g3⟩ := g j hj
    obtain ⟨f1, f2, f3⟩ := g i hi
    by_cases e : j = i
    · subst e
      rw [List.erase_cons_head]
      exact comp_mono t _ _ _ (g.less j) k hr
    · have e' : ¬ ((j : Int) == (i : Int)) = true := by simp; omega
      rw [List.erase_cons_tail e']
      have hj' : j ∈ L.erase i := (List.mem_erase_of_ne e).2 hj
      have up : Le d th th' := (Le.up hth f1 f3).trans k
      rw [bank_comp_yes hj' (can_mono up g2 hc), List.erase_comm]
      refine comp_first i t _ _ _ (g.less j) (hn.erase j) ((List.mem_erase_of_ne (Ne.symm e)).2 hi) (by rw [addN_len]; exact hth) ?_ hr
      have e2 : Le d (addN (addN th (H j) (H j).length) (H i) (H i).length) (addN (addN th (H i) (H i).length) (H j) (H j).length) := by
        refine ⟨by rw [addN_len, addN_len]; exact hth, by rw [addN_len, addN_len]; exact hth, fun q hq => ?_⟩
        rw [addN_rd (by rw [addN_len]; exact hth) f1 hq, addN_rd hth g1 hq, addN_rd (by rw [addN_len]; exact hth) g1 hq, addN_rd hth f1 hq]
        omega
      exact e2.trans (k.add g1)
theorem comp_all {H C : Nat → List Int} : ∀ (t th : List Int) (L : List Nat), bank_comp H C t th L = true → t.length = L.length → ∀ i ∈ L, (i : Int) ∈ t
  | [], _, L, _, hl, i, hi => by
    have := List.length_pos_of_mem hi
    simp at hl
    omega
  | x :: t, th, L, h, hl, i, hi => by
    obtain ⟨j, rfl, hj, hc, hr⟩ := comp_cons h
    by_cases e : i = j
    · subst e; exact List.mem_cons_self
    · refine List.mem_cons_of_mem _ (comp_all t _ _ hr ?_ i ((List.mem_erase_of_ne e).2 hi))
      rw [List.length_erase_of_mem hj]
      simp only [List.length_cons] at hl
      omega
/-- If some order completes, the rounds find one. -/
theorem run_yes {d : Nat} {H C : Nat → List Int} {n : Nat} : ∀ (m : Nat) (th : List Int) (L : List Nat) (out t : List Int), Good d H C L → L.Nodup → (∀ i ∈ L, i < n) → L.length = m → th.length = d → t.length = m → bank_comp H C t th L = true → (bank_run H C n m th L out).2 = true
  | 0, _, _, _, _, _, _, _, _, _, _, _ => rfl
  | m + 1, th, L, out, t, g, hn, hL, hm, hth, ht, h => by
    rw [bank_run]
    cases t with
    | nil => simp at ht
    | cons x t =>
      obtain ⟨j, rfl, hj, hc, hr⟩ := comp_cons h
      cases hf : (List.range n).find? (fun i => decide (i ∈ L) && canTo th (H i) (C i) (C i).length) with
      | none =>
        rw [List.find?_range_eq_none] at hf
        have := hf j (hL j hj)
        rw [decide_eq_true hj, hc] at this
        simp at this
      | some i =>
        have hp := List.find?_some hf
        simp only [Bool.and_eq_true, decide_eq_true_eq] at hp
        obtain ⟨f1, f2, f3⟩ := g i hp.1
        refine run_yes m _ _ _ (((j : Int) :: t).erase (i : Int)) (g.less i) (hn.erase i) (fun k hk => hL k (List.mem_of_mem_erase hk)) (by rw [List.length_erase_of_mem hp.1, hm]; rfl) (by rw [addN_len]; exact hth) ?_ ?_
        · rw [List.length_erase_of_mem (comp_all _ _ _ h (by rw [ht, hm]) i hp.1), ht]; rfl
        · exact comp_first i _ th _ L g hn hp.1 hth (Le.refl (by rw [addN_len]; exact hth)) h
/-- Safe: the rounds come to the end just if some order completes. -/
theorem run_iff {d : Nat} {H C : Nat → List Int} {n : Nat} {th : List Int} (g : Good d H C (List.range n)) (hth : th.length = d) : (bank_run H C n n th (List.range n) []).2 = true ↔ ∃ t : List Int, t.length = n ∧ bank_comp H C t th (List.range n) = true := by
  constructor
  · intro h
    obtain ⟨t, e, ht, hc⟩ := run_comp H C n n th (List.range n) [] (bank_run H C n n th (List.range n) []).1 (by rw [← h])
    exact ⟨t, ht, hc⟩
  · rintro ⟨t, ht, hc⟩
    exact run_yes n th (List.range n) [] t g List.nodup_range (fun i hi => List.mem_range.1 hi) (by simp) hth ht hc
theorem ok_good {l0 : List Int} {l1 l2 : List (List Int)} (ok : bank_Ok l0 l1 l2) : Good l0.length (fun i => rd_L1 l1 (i : Int)) (fun i => rd_L1 l2 (i : Int)) (List.range l1.length) := fun i hi => by
  have hi' := List.mem_range.1 hi
  exact ⟨(ok.hl i hi').1, (ok.cl i hi').1, fun j hj => ((ok.hl i hi').2 j hj).1⟩
end Go.Proofs.Ytlngcnijlijplaa.BankKit
