/-
  States of plain numbers may be; an order that is found completes.
-/
import Derived.Test.YtlngcnijlijplaaBankCompLib
import Derived.Test.YtlngcnijlijplaaStateB
import Derived.Test.YtlngcnijlijplaaPBankx8
namespace Go.Proofs.Ytlngcnijlijplaa.BankKit
open Go.RowKit Go.Proofs.Ytlngcnijlijplaa.PBank Go.Proofs.Ytlngcnijlijplaa.EvKit Go.Proofs.YtlngcnijlijplaaW.PrintWords Go.Proofs.YtlngcnijlijplaaW.PrintLast

def mH (zs : List Int) (n : Nat) : List (List Int) := (List.range n).map (stH zs)
def mC (zs : List Int) (n : Nat) : List (List Int) := (List.range n).map (stC zs)
theorem mH_len (zs : List Int) (n : Nat) : (mH zs n).length = n := by simp [mH]
theorem mC_len (zs : List Int) (n : Nat) : (mC zs n).length = n := by simp [mC]
theorem mH_at (zs : List Int) {n i : Nat} (h : i < n) : rd_L1 (mH zs n) (i : Int) = stH zs i := by simp [mH, rd_L1, h]
theorem mC_at (zs : List Int) {n i : Nat} (h : i < n) : rd_L1 (mC zs n) (i : Int) = stC zs i := by simp [mC, rd_L1, h]
theorem mH_row (zs : List Int) (n : Nat) : ∀ x ∈ mH zs n, x.length ≤ 9223372036854775807 := by
  intro x hx
  obtain ⟨i, _, rfl⟩ := List.mem_map.1 hx
  simp [stH]
theorem mC_row (zs : List Int) (n : Nat) : ∀ x ∈ mC zs n, x.length ≤ 9223372036854775807 := by
  intro x hx
  obtain ⟨i, _, rfl⟩ := List.mem_map.1 hx
  simp [stC]
theorem two_ (a b : Int) (ha : 0 ≤ a ∧ a ≤ 1000) (hb : 0 ≤ b ∧ b ≤ 1000) : isU [a, b] 2 = true := by
  rw [isU_iff]
  refine ⟨rfl, fun x hx => ?_⟩
  rcases List.mem_cons.1 hx with rfl | hx
  · exact ha
  · rcases List.mem_cons.1 hx with rfl | hx
    · exact hb
    · cases hx
theorem fits2 (a b c d : Int) (h1 : a ≤ c) (h2 : b ≤ d) : fitsU [a, b] [c, d] = true := by
  rw [fitsU_iff]
  refine ⟨rfl, fun i hi => ?_⟩
  simp only [List.length_cons, List.length_nil] at hi
  rcases (by omega : i = 0 ∨ i = 1) with rfl | rfl
  · exact h1
  · exact h2
/-- A state whose rows may be. -/
theorem may2 (a b : Int) (H C : List (List Int)) (ha : 0 ≤ a ∧ a ≤ 1000) (hb : 0 ≤ b ∧ b ≤ 1000) (e : H.length = C.length) (h32 : H.length ≤ 32) (h : ∀ i : Nat, i < H.length → rowP H C 2 i = true) : mayB [a, b] H C = true := by
  unfold mayB
  rw [Bool.and_eq_true, headB_iff, allN_iff]
  exact ⟨⟨by simp, two_ a b ha hb, e, h32⟩, fun j _ hj => h j (by omega)⟩
theorem st_row (zs : List Int) {n i : Nat} (h : i < n) : rowP (mH zs n) (mC zs n) 2 i = true := by
  unfold rowP
  rw [mH_at zs h, mC_at zs h]
  have a0 := nxt_lo zs (4 * i + 2) (most := 3) (by decide)
  have a1 := nxt_hi zs (4 * i + 2) (most := 3) (by decide)
  have b0 := nxt_lo zs (4 * i + 3) (most := 3) (by decide)
  have b1 := nxt_hi zs (4 * i + 3) (most := 3) (by decide)
  have c0 := nxt_lo zs (4 * i + 4) (most := 4) (by decide)
  have c1 := nxt_hi zs (4 * i + 4) (most := 4) (by decide)
  have d0 := nxt_lo zs (4 * i + 5) (most := 4) (by decide)
  have d1 := nxt_hi zs (4 * i + 5) (most := 4) (by decide)
  unfold stH stC
  rw [two_ _ _ (by omega) (by omega), two_ _ _ (by omega) (by omega), fits2 _ _ _ _ (by omega) (by omega)]; rfl
theorem st_may (zs : List Int) {n : Nat} (h : n ≤ 12) : mayB (stA zs) (mH zs n) (mC zs n) = true := by
  have a0 := nxt_lo zs 0 (most := 4) (by decide)
  have a1 := nxt_hi zs 0 (most := 4) (by decide)
  have b0 := nxt_lo zs 1 (most := 4) (by decide)
  have b1 := nxt_hi zs 1 (most := 4) (by decide)
  refine may2 _ _ _ _ (by omega) (by omega) (by rw [mH_len, mC_len]) (by rw [mH_len]; omega) (fun i hi => st_row zs (by rw [mH_len] at hi; exact hi))
/-- What the rounds find goes through, one by one. -/
theorem run_comp (H C : Nat → List Int) (n : Nat) : ∀ (m : Nat) (th : List Int) (L : List Nat) (out r : List Int), bank_run H C n m th L out = (r, true) → ∃ t, r = out ++ t ∧ t.length = m ∧ bank_comp H C t th L = true
  | 0, th, L, out, r, h => by
    simp only [bank_run] at h
    obtain ⟨rfl, _⟩ := Prod.mk.inj h
    exact ⟨[], by simp, rfl, rfl⟩
  | m + 1, th, L, out, r, h => by
    rw [bank_run] at h
    split at h
    · rename_i i hi
      obtain ⟨t, rfl, ht, hc⟩ := run_comp H C n m _ _ _ r h
      have hp := List.find?_some hi
      simp only [Bool.and_eq_true, decide_eq_true_eq] at hp
      exact ⟨(i : Int) :: t, by simp, by simp [ht], by rw [bank_comp_yes hp.1 hp.2]; exact hc⟩
    · obtain ⟨_, h2⟩ := Prod.mk.inj h
      cases h2
end Go.Proofs.Ytlngcnijlijplaa.BankKit
