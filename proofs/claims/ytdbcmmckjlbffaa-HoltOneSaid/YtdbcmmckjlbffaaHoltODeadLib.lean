/-
  Whether a set is deadlocked: the program's answer is the reference's.
-/
import Derived.Test.YtdbcmmckjlbffaaHoltOEqLib
namespace Go.Proofs.Ytdbcmmckjlbffaa.HoltOKit
open Go.RowKit Go.Proofs.Ytdbcmmckjlbffaa.PHoltO Go.Proofs.Ytdbcmmckjlbffaa.EvKit Go.Proofs.YtdbcmmckjlbffaaW.PrintWords Go.Proofs.YtdbcmmckjlbffaaW.PrintLast
set_option linter.unusedVariables false
set_option linter.unusedSimpArgs false

theorem fitsB_is (l2 : List (List Int)) (th : List Int) (x : Int) : fitsB l2 th x = fitsU (rd_L1 l2 x) th := rfl
theorem mem_rd {s : List Int} {x : Int} : x ∈ s ↔ ∃ q : Nat, q < s.length ∧ rd s (q : Int) = x := by
  constructor
  · intro h
    obtain ⟨q, hq, e⟩ := List.getElem_of_mem h
    exact ⟨q, hq, by rw [rd_at hq]; exact e⟩
  · rintro ⟨q, hq, rfl⟩
    exact rd_mem hq
/-- What there is with what those outside of the set hold. -/
def fo (H : Nat → List Int) (s : List Int) : Nat → Nat → List Int → List Int
  | 0, _, th => th
  | d + 1, i, th => if (i : Int) ∈ s then fo H s d (i + 1) th else fo H s d (i + 1) (addN th (H i) (H i).length)
/-- The set rises, and lies below n. -/
def Srt (s : List Int) (n : Nat) : Prop := ∀ q : Nat, q < s.length → 0 ≤ rd s (q : Int) ∧ rd s (q : Int) < (n : Int) ∧ (0 < q → rd s ((q - 1 : Nat) : Int) < rd s (q : Int))
theorem Srt.lt {s : List Int} {n : Nat} (h : Srt s n) : ∀ (q p : Nat), p < q → q < s.length → rd s (p : Int) < rd s (q : Int)
  | 0, p, hp, _ => absurd hp (Nat.not_lt_zero p)
  | q + 1, p, hp, hq => by
    have h1 := (h (q + 1) hq).2.2 (by omega)
    rw [Nat.add_sub_cancel] at h1
    by_cases e : p = q
    · subst e; exact h1
    · exact Int.lt_trans (h.lt q p (by omega) (by omega)) h1
theorem walk_srt {H : Nat → List Int} {s : List Int} {n : Nat} (h : Srt s n) : ∀ (d i : Nat) (th : List Int) (k : Nat), i + d = n → k ≤ s.length → (∀ q : Nat, q < k → rd s (q : Int) < (i : Int)) → (∀ q : Nat, k ≤ q → q < s.length → (i : Int) ≤ rd s (q : Int)) →
    hwalk H s d i th k = (fo H s d i th, s.length)
  | 0, i, th, k, hn, hk, h1, h2 => by
    have e : k = s.length := by
      rcases Nat.lt_or_ge k s.length with q | q
      · have a := h2 k (Nat.le_refl _) q
        have b := (h k q).2.1
        omega
      · omega
    rw [hwalk, fo, e]
  | d + 1, i, th, k, hn, hk, h1, h2 => by
    rw [hwalk, fo]
    by_cases c : k < s.length ∧ rd s (k : Int) = (i : Int)
    · rw [if_pos c, if_pos (mem_rd.2 ⟨k, c⟩)]
      refine walk_srt h d (i + 1) th (k + 1) (by omega) (by omega) (fun q hq => ?_) (fun q hq hl => ?_)
      · by_cases e : q = k
        · subst e; omega
        · have := h1 q (by omega); omega
      · have := h.lt q k (by omega) hl
        omega
    · have hni : ¬ (i : Int) ∈ s := by
        intro hm
        obtain ⟨q, hq, e⟩ := mem_rd.1 hm
        rcases Nat.lt_trichotomy q k with z | z | z
        · have := h1 q z; omega
        · subst z; exact c ⟨hq, e⟩
        · have a := h.lt q k z hq
          have b := h2 k (Nat.le_refl _) (by omega)
          omega
      rw [if_neg c, if_neg hni]
      refine walk_srt h d (i + 1) _ k (by omega) hk (fun q hq => by have := h1 q hq; omega) (fun q hq hl => ?_)
      by_cases e : q = k
      · subst e
        have a := h2 q (Nat.le_refl _) hl
        have b : rd s (q : Int) ≠ (i : Int) := fun z => c ⟨hl, z⟩
        omega
      · have a := h.lt q k (by omega) hl
        have b := h2 k (Nat.le_refl _) (by omega)
        omega
theorem walk_end {H : Nat → List Int} {s : List Int} : ∀ (d i : Nat) (th : List Int) (k : Nat), (hwalk H s d i th k).2 = s.length → k ≤ s.length → ∀ q : Nat, k ≤ q → q < s.length → (i : Int) ≤ rd s (q : Int) ∧ rd s (q : Int) < (i : Int) + d ∧ (k < q → rd s ((q - 1 : Nat) : Int) < rd s (q : Int))
  | 0, i, th, k, h, hk => fun q h1 h2 => by
    rw [hwalk] at h
    have : k = s.length := h
    omega
  | d + 1, i, th, k, h, hk => fun q h1 h2 => by
    rw [hwalk] at h
    by_cases c : k < s.length ∧ rd s (k : Int) = (i : Int)
    · rw [if_pos c] at h
      by_cases e : q = k
      · subst e; exact ⟨by omega, by omega, fun z => absurd z (Nat.lt_irrefl _)⟩
      · have ih := walk_end d (i + 1) th (k + 1) h (by omega) q (by omega) h2
        refine ⟨by omega, by omega, fun _ => ?_⟩
        by_cases e2 : q = k + 1
        · subst e2
          rw [Nat.add_sub_cancel]
          omega
        · exact ih.2.2 (by omega)
    · rw [if_neg c] at h
      have ih := walk_end d (i + 1) _ k h hk q h1 h2
      exact ⟨by omega, by omega, ih.2.2⟩
section
variable {l0 : List Int} {l1 l2 : List (List Int)}
theorem walk_iff {H : Nat → List Int} {s : List Int} {n : Nat} {th : List Int} : (hwalk H s n 0 th 0).2 = s.length ↔ Srt s n := by
  constructor
  · intro h q hq
    have := walk_end n 0 th 0 h (Nat.zero_le _) q (Nat.zero_le _) hq
    exact ⟨by omega, by omega, this.2.2⟩
  · intro h
    rw [walk_srt h n 0 th 0 (by omega) (Nat.zero_le _) (fun q hq => absurd hq (Nat.not_lt_zero q)) (fun q _ hq => by have := (h q hq).1; omega)]
open Classical in
/-- What both answer where a state may be and the set is not empty. -/
noncomputable def deadC (l0 : List Int) (l1 l2 : List (List Int)) (s : List Int) : Bool := if Srt s l1.length then !(s.any (fun x => fitsU (rd_L1 l2 x) (fo (fun i => rd_L1 l1 (i : Int)) s l1.length 0 l0))) else false
theorem walkD_is (s : List Int) : hwalkD l0 l1 l2 s = deadC l0 l1 l2 s := by
  unfold hwalkD deadC
  by_cases h : Srt s l1.length
  · rw [if_pos (walk_iff.2 h), if_pos h]
    rw [walk_srt h l1.length 0 l0 0 (by omega) (Nat.zero_le _) (fun q hq => absurd hq (Nat.not_lt_zero q)) (fun q _ hq => by have := (h q hq).1; omega)]
    rfl
  · rw [if_neg (fun z => h (walk_iff.1 z)), if_neg h]
/-- What both answer. -/
noncomputable def deadB (l0 : List Int) (l1 l2 : List (List Int)) (s : List Int) : Bool := if mayB l0 l1 l2 = true then (if s.length = 0 then false else deadC l0 l1 l2 s) else false
variable (hb0 : l0.length ≤ 9223372036854775807) (hb1 : ∀ x ∈ l1, x.length ≤ 9223372036854775807) (hb2 : ∀ x ∈ l2, x.length ≤ 9223372036854775807) {s : List Int}
include hb0 hb1 hb2
theorem hdead : Ev (fun q => holt_Deadlocked.f q l0 l1 l2 s) (deadB l0 l1 l2 s) := by
  unfold holt_Deadlocked.f deadB
  refine bnd (hmay l0 l1 l2 hb0 hb1 hb2) (somec ?_)
  by_cases h : mayB l0 l1 l2 = true
  · rw [if_pos h, if_pos h, walkD_is]
  · rw [if_neg h, if_neg h]
end
end Go.Proofs.Ytdbcmmckjlbffaa.HoltOKit
