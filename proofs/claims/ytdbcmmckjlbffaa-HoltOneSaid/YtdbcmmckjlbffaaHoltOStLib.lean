/-
  States of plain numbers may be.
-/
import Derived.Test.YtdbcmmckjlbffaaHoltODeadLib
import Derived.Test.YtdbcmmckjlbffaaPHoltOx6
namespace Go.Proofs.Ytdbcmmckjlbffaa.HoltOKit
open Go.RowKit Go.Proofs.Ytdbcmmckjlbffaa.PHoltO Go.Proofs.Ytdbcmmckjlbffaa.EvKit Go.Proofs.YtdbcmmckjlbffaaW.PrintWords Go.Proofs.YtdbcmmckjlbffaaW.PrintLast
set_option linter.unusedVariables false
set_option linter.unusedSimpArgs false

/-- The number that is drawn at a place. -/
def nxt (zs : List Int) (k : Nat) (most : Int) : Int := rd zs (k : Int) % most
theorem nxt_lo (zs : List Int) (k : Nat) {most : Int} (h : 0 < most) : 0 ≤ nxt zs k most := Int.emod_nonneg _ (by omega)
theorem nxt_hi (zs : List Int) (k : Nat) {most : Int} (h : 0 < most) : nxt zs k most < most := Int.emod_lt_of_pos _ h
theorem tmod_is {x m : Int} (hm : 0 < m) : x.tmod m = if x < 0 ∧ x % m ≠ 0 then x % m - m else x % m := by
  rw [Int.tmod_eq_emod]
  split <;> split <;> omega
theorem tmod_neg_ {x m : Int} (hm : 0 < m) (h : x.tmod m < 0) : x.tmod m + m = x % m := by
  rw [tmod_is hm] at h ⊢
  have := Int.emod_nonneg x (show m ≠ 0 by omega)
  split at h
  · rename_i q; rw [if_pos q]; omega
  · omega
theorem tmod_pos_ {x m : Int} (hm : 0 < m) (h : ¬ x.tmod m < 0) : x.tmod m = x % m := by
  rw [tmod_is hm] at h ⊢
  have := Int.emod_lt_of_pos x hm
  split at h
  · omega
  · rename_i q; rw [if_neg q]
theorem next_ (zs : List Int) (k : Nat) (most : Int) (h0 : 0 < most) (h1 : most ≤ 1000000) : signalboxlaw15_next.f zs (k : Int) most = some (nxt zs k most) := by
  unfold signalboxlaw15_next.f nxt
  by_cases h : (k : Int) ≥ (zs.length : Int)
  · rw [if_pos h]
    have e : rd zs (k : Int) = 0 := by
      rw [rd_nat, List.getD_eq_getElem?_getD, List.getElem?_eq_none (by omega)]; rfl
    rw [e]; simp
  · rw [if_neg h, if_pos (by omega), if_pos (by omega), if_neg (by omega)]
    by_cases c : (rd zs (k : Int)).tmod most < 0
    · rw [if_pos c]
      have e := tmod_neg_ h0 c
      have := Int.emod_nonneg (rd zs (k : Int)) (show most ≠ 0 by omega)
      have := Int.emod_lt_of_pos (rd zs (k : Int)) h0
      rw [w64 (by omega) (by omega), e]
    · rw [if_neg c, tmod_pos_ h0 c]
def stA (zs : List Int) : List Int := [nxt zs 0 2, nxt zs 1 2]
def stH (zs : List Int) (i : Nat) : List Int := [nxt zs (4 * i + 2) 3, nxt zs (4 * i + 3) 3]
def stK (zs : List Int) (i : Nat) : List Int := [nxt zs (4 * i + 4) 4, nxt zs (4 * i + 5) 3]
def mH (zs : List Int) (n : Nat) : List (List Int) := (List.range n).map (stH zs)
def mK (zs : List Int) (n : Nat) : List (List Int) := (List.range n).map (stK zs)
theorem state_l (zs : List Int) (n : Nat) (hn : n ≤ 1000) : ∀ (d i : Nat), n - i = d → i ≤ n → Ev (fun q => signalboxlaw15_state.l0 q (n : Int) zs (stA zs) ((List.range i).map (stH zs)) ((List.range i).map (stK zs)) i) (stA zs, mH zs n, mK zs n)
  | 0, i, hd, hi => by
    refine Ev.step (fun q => by simp only [signalboxlaw15_state.l0]; rfl) ?_
    have e : i = n := by omega
    subst e
    exact neg (by omega) (somec rfl)
  | d + 1, i, hd, hi => by
    refine Ev.step (fun q => by simp only [signalboxlaw15_state.l0]; rfl) ?_
    refine pos (by omega) ?_
    have e4 : wrap64 (4 * (i : Int)) = 4 * (i : Int) := w64 (by omega) (by omega)
    rw [e4]
    have f2 : wrap64 (4 * (i : Int) + 2) = ((4 * i + 2 : Nat) : Int) := by rw [w64 (by omega) (by omega)]; omega
    have f3 : wrap64 (4 * (i : Int) + 3) = ((4 * i + 3 : Nat) : Int) := by rw [w64 (by omega) (by omega)]; omega
    have f4 : wrap64 (4 * (i : Int) + 4) = ((4 * i + 4 : Nat) : Int) := by rw [w64 (by omega) (by omega)]; omega
    have f5 : wrap64 (4 * (i : Int) + 5) = ((4 * i + 5 : Nat) : Int) := by rw [w64 (by omega) (by omega)]; omega
    rw [f2, f3, f4, f5]
    refine bndc (next_ zs _ 3 (by omega) (by omega)) (bndc (next_ zs _ 3 (by omega) (by omega)) (pos (by simp; omega) (bndc (next_ zs _ 4 (by omega) (by omega)) (bndc (next_ zs _ 3 (by omega) (by omega)) (pos (by simp; omega) ?_)))))
    rw [w64 (by omega) (by omega), show ((i : Int) + 1) = ((i + 1 : Nat) : Int) by omega]
    have ih := state_l zs n hn d (i + 1) (by omega) (by omega)
    rw [List.range_succ, List.map_append, List.map_append] at ih
    exact ih
theorem state_ (zs : List Int) (n : Nat) (hn : n ≤ 1000) : Ev (fun q => signalboxlaw15_state.f q (n : Int) zs) (stA zs, mH zs n, mK zs n) := by
  unfold signalboxlaw15_state.f
  refine bndc (next_ zs 0 2 (by omega) (by omega)) (bndc (next_ zs 1 2 (by omega) (by omega)) ?_)
  exact state_l zs n hn n 0 (by omega) (by omega)
theorem mH_len (zs : List Int) (n : Nat) : (mH zs n).length = n := by simp [mH]
theorem mK_len (zs : List Int) (n : Nat) : (mK zs n).length = n := by simp [mK]
theorem mH_at (zs : List Int) {n i : Nat} (h : i < n) : rd_L1 (mH zs n) (i : Int) = stH zs i := by simp [mH, rd_L1, h]
theorem mK_at (zs : List Int) {n i : Nat} (h : i < n) : rd_L1 (mK zs n) (i : Int) = stK zs i := by simp [mK, rd_L1, h]
theorem mH_row (zs : List Int) (n : Nat) : ∀ x ∈ mH zs n, x.length ≤ 9223372036854775807 := by
  intro x hx
  obtain ⟨i, _, rfl⟩ := List.mem_map.1 hx
  simp [stH]
theorem mK_row (zs : List Int) (n : Nat) : ∀ x ∈ mK zs n, x.length ≤ 9223372036854775807 := by
  intro x hx
  obtain ⟨i, _, rfl⟩ := List.mem_map.1 hx
  simp [stK]
theorem stA_len (zs : List Int) : (stA zs).length ≤ 9223372036854775807 := by simp [stA]
theorem two_ (a b : Int) (ha : 0 ≤ a ∧ a ≤ 1000) (hb : 0 ≤ b ∧ b ≤ 1000) : isU [a, b] 2 = true := by
  rw [isU_iff]
  refine ⟨rfl, fun x hx => ?_⟩
  rcases List.mem_cons.1 hx with rfl | hx
  · exact ha
  · rcases List.mem_cons.1 hx with rfl | hx
    · exact hb
    · cases hx
/-- A state whose rows may be. -/
theorem may2 (a b : Int) (H C : List (List Int)) (ha : 0 ≤ a ∧ a ≤ 1000) (hb : 0 ≤ b ∧ b ≤ 1000) (e : H.length = C.length) (h32 : H.length ≤ 32) (h : ∀ i : Nat, i < H.length → rowR H C 2 i = true) : mayB [a, b] H C = true := by
  unfold mayB
  rw [Bool.and_eq_true, headB_iff, allN_iff]
  exact ⟨⟨by simp, two_ a b ha hb, e, h32⟩, fun j _ hj => h j (by omega)⟩
theorem st_two (zs : List Int) (i : Nat) : isU (stH zs i) 2 = true ∧ isU (stK zs i) 2 = true := by
  have a0 := nxt_lo zs (4 * i + 2) (most := 3) (by decide)
  have a1 := nxt_hi zs (4 * i + 2) (most := 3) (by decide)
  have b0 := nxt_lo zs (4 * i + 3) (most := 3) (by decide)
  have b1 := nxt_hi zs (4 * i + 3) (most := 3) (by decide)
  have c0 := nxt_lo zs (4 * i + 4) (most := 4) (by decide)
  have c1 := nxt_hi zs (4 * i + 4) (most := 4) (by decide)
  have d0 := nxt_lo zs (4 * i + 5) (most := 3) (by decide)
  have d1 := nxt_hi zs (4 * i + 5) (most := 3) (by decide)
  exact ⟨two_ _ _ (by omega) (by omega), two_ _ _ (by omega) (by omega)⟩
theorem st_may (zs : List Int) {n : Nat} (h : n ≤ 12) : mayB (stA zs) (mH zs n) (mK zs n) = true := by
  have a0 := nxt_lo zs 0 (most := 2) (by decide)
  have a1 := nxt_hi zs 0 (most := 2) (by decide)
  have b0 := nxt_lo zs 1 (most := 2) (by decide)
  have b1 := nxt_hi zs 1 (most := 2) (by decide)
  refine may2 _ _ _ _ (by omega) (by omega) (by rw [mH_len, mK_len]) (by rw [mH_len]; omega) (fun i hi => ?_)
  rw [mH_len] at hi
  unfold rowR
  rw [mH_at zs hi, mK_at zs hi, (st_two zs i).1, (st_two zs i).2]; rfl
end Go.Proofs.Ytdbcmmckjlbffaa.HoltOKit
