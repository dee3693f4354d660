/-
  Reduction and deadlocked sets: the program's answers are the reference's.
-/
import Derived.Test.YtdbcmmckjlbffaaHoltOLib
namespace Go.Proofs.Ytdbcmmckjlbffaa.HoltOKit
open Go.RowKit Go.Proofs.Ytdbcmmckjlbffaa.PHoltO Go.Proofs.Ytdbcmmckjlbffaa.EvKit Go.Proofs.YtdbcmmckjlbffaaW.PrintWords Go.Proofs.YtdbcmmckjlbffaaW.PrintLast
set_option linter.unusedVariables false
set_option linter.unusedSimpArgs false

/-- Those of L from i on, d numbers. -/
def left (L : List Nat) (i d : Nat) : List Int := ((List.range' i d).filter (fun j => decide (j ∈ L))).map (fun j : Nat => ((j : Nat) : Int))
theorem left_zero (L : List Nat) (i : Nat) : left L i 0 = [] := rfl
theorem left_yes {L : List Nat} {i d : Nat} (h : i ∈ L) : left L i (d + 1) = (i : Int) :: left L (i + 1) d := by
  unfold left
  rw [List.range'_succ, List.filter_cons, if_pos (by simpa using h)]
  rfl
theorem left_no {L : List Nat} {i d : Nat} (h : i ∉ L) : left L i (d + 1) = left L (i + 1) d := by
  unfold left
  rw [List.range'_succ, List.filter_cons, if_neg (by simpa using h)]
theorem mem_lefts {L : List Nat} {i d : Nat} {x : Int} : x ∈ left L i d ↔ ∃ j : Nat, x = (j : Int) ∧ i ≤ j ∧ j < i + d ∧ j ∈ L := by
  unfold left
  simp only [List.mem_map, List.mem_filter, List.mem_range'_1, decide_eq_true_eq]
  constructor
  · rintro ⟨j, ⟨⟨h1, h2⟩, h3⟩, rfl⟩; exact ⟨j, rfl, h1, h2, h3⟩
  · rintro ⟨j, rfl, h1, h2, h3⟩; exact ⟨j, ⟨⟨h1, h2⟩, h3⟩, rfl⟩
theorem left_len (L : List Nat) (i d : Nat) : (left L i d).length ≤ d := by
  unfold left
  rw [List.length_map]
  exact Nat.le_trans (List.length_filter_le _ _) (by simp)
section
variable {H K : Nat → List Int}
theorem hpass_t : ∀ (d i : Nat) (th : List Int) (L : List Nat) (out : List Int), (hpass H K d i th L out true).2.2.2 = true
  | 0, _, _, _, _ => rfl
  | d + 1, i, th, L, out => by
    unfold hpass
    split
    · split
      · exact hpass_t d _ _ _ _
      · exact hpass_t d _ _ _ _
    · exact hpass_t d _ _ _ _
/-- A walk in which nobody is reduced. -/
theorem hpass_no : ∀ (d i : Nat) (th : List Int) (L : List Nat) (out : List Int), (hpass H K d i th L out false).2.2.2 = false →
    (hpass H K d i th L out false).1 = th ∧ (hpass H K d i th L out false).2.1 = L ∧ (hpass H K d i th L out false).2.2.1 = out ++ left L i d ∧ ∀ j, i ≤ j → j < i + d → j ∈ L → fitsU (K j) th = false
  | 0, i, th, L, out, _ => ⟨rfl, rfl, by rw [left_zero, List.append_nil]; rfl, fun j h1 h2 => by omega⟩
  | d + 1, i, th, L, out, h => by
    unfold hpass at h ⊢
    by_cases hi : i ∈ L
    · rw [if_pos hi] at h ⊢
      by_cases hf : units_Fits.f (K i) th = some true
      · rw [if_pos hf, hpass_t] at h; cases h
      · rw [if_neg hf] at h ⊢
        obtain ⟨h1, h2, h3, h4⟩ := hpass_no d _ _ _ _ h
        refine ⟨h1, h2, by rw [h3, left_yes hi]; simp, fun j q1 q2 q3 => ?_⟩
        by_cases e : j = i
        · subst e
          rw [fits] at hf
          simpa using hf
        · exact h4 j (by omega) (by omega) q3
    · rw [if_neg hi] at h ⊢
      obtain ⟨h1, h2, h3, h4⟩ := hpass_no d _ _ _ _ h
      refine ⟨h1, h2, by rw [h3, left_no hi], fun j q1 q2 q3 => ?_⟩
      by_cases e : j = i
      · subst e; exact absurd q3 hi
      · exact h4 j (by omega) (by omega) q3
/-- Which are gone. -/
def Rel (n : Nat) (gone : List Bool) (L : List Nat) : Prop := gone.length = n ∧ (∀ i : Nat, i < n → rdOf false gone (i : Int) = !decide (i ∈ L)) ∧ L.Nodup ∧ ∀ i ∈ L, i < n
theorem Rel.turn {n : Nat} {gone : List Bool} {L : List Nat} {i : Nat} (h : Rel n gone L) (hi : i < n) : Rel n (gone.set i true) (L.erase i) := by
  refine ⟨by rw [List.length_set]; exact h.1, fun j hj => ?_, h.2.2.1.erase i, fun j hj => h.2.2.2 j (List.mem_of_mem_erase hj)⟩
  have e3 : j ∈ L.erase i ↔ j ≠ i ∧ j ∈ L := h.2.2.1.mem_erase_iff
  have e := h.2.1 j hj
  unfold rdOf at e ⊢
  rw [Int.toNat_natCast, List.getD_eq_getElem?_getD] at e ⊢
  rw [List.getElem?_set]
  by_cases q : i = j
  · subst q
    rw [if_pos rfl, if_pos (by rw [h.1]; exact hj)]
    rw [decide_eq_false (fun z => (e3.1 z).1 rfl)]; rfl
  · rw [if_neg q, e]
    by_cases z : j ∈ L
    · rw [decide_eq_true z, decide_eq_true (e3.2 ⟨fun y => q y.symm, z⟩)]
    · rw [decide_eq_false z, decide_eq_false (fun y => z (e3.1 y).2)]
end
section
variable {l0 : List Int} {l1 l2 : List (List Int)}
theorem ThOk.first (ok : holt_Ok l0 l1 l2) : ThOk l0.length l0 (List.range l1.length) := ⟨rfl, fun j hj => by
  have := ok.av j hj
  have := ok.n32
  rw [List.length_range]
  omega⟩
theorem Rel.first (n : Nat) : Rel n (List.replicate n false) (List.range n) := ⟨by simp, fun i hi => by
  unfold rdOf
  rw [Int.toNat_natCast, List.getD_eq_getElem?_getD, List.getElem?_replicate, if_pos hi, decide_eq_true (List.mem_range.2 hi)]; rfl, List.nodup_range, fun i hi => List.mem_range.1 hi⟩
def stuckL (l0 : List Int) (l1 l2 : List (List Int)) : List Int := hred (fun i => rd_L1 l1 (i : Int)) (fun i => rd_L1 l2 (i : Int)) l1.length (l1.length + 1) l0 (List.range l1.length)
/-- What both answer. -/
def stuckB (l0 : List Int) (l1 l2 : List (List Int)) : List Int := if mayB l0 l1 l2 = true then stuckL l0 l1 l2 else []
variable (hb0 : l0.length ≤ 9223372036854775807) (hb1 : ∀ x ∈ l1, x.length ≤ 9223372036854775807) (hb2 : ∀ x ∈ l2, x.length ≤ 9223372036854775807)
include hb0 hb1 hb2
theorem hstuck : Ev (fun q => holt_Stuck.f q l0 l1 l2) (stuckB l0 l1 l2) := by
  unfold holt_Stuck.f stuckB
  refine bnd (hmay l0 l1 l2 hb0 hb1 hb2) ?_
  exact ite2 (fun _ => Ev.now _) (fun _ => Ev.now _)
omit hb0 hb1 hb2
theorem hred_len {H K : Nat → List Int} {n : Nat} : ∀ (m : Nat) (th : List Int) (L : List Nat), (hred H K n m th L).length ≤ n
  | 0, _, _ => by simp [hred]
  | m + 1, th, L => by
    have hno := hpass_no (H := H) (K := K) n 0 th L []
    rw [hred]
    generalize hpass H K n 0 th L [] false = P at hno ⊢
    obtain ⟨th', L', out', t'⟩ := P
    simp only at hno ⊢
    cases t' with
    | true => rw [if_pos rfl]; exact hred_len m th' L'
    | false =>
      rw [if_neg (by simp)]
      obtain ⟨_, rfl, e, _⟩ := hno rfl
      rw [e, List.nil_append]
      exact left_len _ _ _
theorem stuckB_len : (stuckB l0 l1 l2).length ≤ 32 := by
  unfold stuckB
  by_cases h : mayB l0 l1 l2 = true
  · rw [if_pos h]
    exact Nat.le_trans (hred_len _ _ _) (mayB_ok h).n32
  · rw [if_neg h]; simp
end
end Go.Proofs.Ytdbcmmckjlbffaa.HoltOKit
