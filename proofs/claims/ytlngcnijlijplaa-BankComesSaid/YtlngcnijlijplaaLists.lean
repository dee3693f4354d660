/-
  Plain facts on lists of whole numbers as the printed functions read them (no Go, no memory).
-/
import Derived.Test.YtlngcnijlijplaaEv
namespace Go.Proofs.Ytlngcnijlijplaa.EvKit
open Go.RowKit Go.Proofs.YtlngcnijlijplaaW.PrintWords

theorem drop_cons {l : List Int} {i : Nat} (h : i < l.length) : l.drop i = rd l i :: l.drop (i + 1) := by
  rw [rd_at h]; exact List.drop_eq_getElem_cons h
theorem drop_end {l : List Int} {i : Nat} (h : l.length ≤ i) : l.drop i = [] := List.drop_eq_nil_of_le h
theorem all_drop {l : List Int} {i : Nat} (p : Int → Bool) (h : i < l.length) : (l.drop i).all p = (p (rd l i) && (l.drop (i + 1)).all p) := by
  rw [drop_cons h]; rfl
theorem zip_drop {a b : List Int} {i : Nat} (h : i < a.length) (k : i < b.length) : (a.drop i).zip (b.drop i) = (rd a i, rd b i) :: (a.drop (i + 1)).zip (b.drop (i + 1)) := by
  rw [drop_cons h, drop_cons k]; rfl
theorem rd_mem {l : List Int} {i : Nat} (h : i < l.length) : rd l i ∈ l := by rw [rd_at h]; exact List.getElem_mem h
/-- The sum, wrapped step by step. -/
def sumW (n : Int) (l : List Int) : Int := l.foldl (fun n x => wrap64 (n + x)) n
theorem sumW_cons (n x : Int) (l : List Int) : sumW n (x :: l) = sumW (wrap64 (n + x)) l := rfl
theorem sumW_plain : ∀ (l : List Int) (n : Int), (∀ x ∈ l, 0 ≤ x ∧ x ≤ 1000) → 0 ≤ n → n + 1000 * l.length ≤ 1000000000 → sumW n l = n + l.sum
  | [], n, _, _, _ => by simp [sumW]
  | x :: l, n, h, h0, h1 => by
    have hx := h x (by simp)
    simp only [List.length_cons] at h1
    rw [sumW_cons, w64 (by omega) (by omega), sumW_plain l (n + x) (fun y hy => h y (by simp [hy])) (by omega) (by omega), List.sum_cons]
    omega
end Go.Proofs.Ytlngcnijlijplaa.EvKit
