/-
  What was added is taken away again, and the other way: the pure statement of UnitsBack.
-/
import Derived.Test.YtfbcilmiagmijaaPUnitsx10
import Derived.Test.YtfbcilmiagmijaaUnitsLib
namespace Go.Proofs.Ytfbcilmiagmijaa.Pure
open Go.RowKit Go.Proofs.Ytfbcilmiagmijaa.PUnits Go.Proofs.Ytfbcilmiagmijaa.EvKit Go.Proofs.Ytfbcilmiagmijaa.UnitsKit Go.Proofs.YtfbcilmiagmijaaW.PrintWords Go.Proofs.YtfbcilmiagmijaaW.PrintLast

namespace UnitsBackKit
theorem outLen {g : Int → Int → Int} {a b : List Int} (h : a.length = b.length) : (outG g a b).length = a.length := by
  simp only [outG, List.length_map, List.length_zip]; omega
/-- What 'opU' says where it says yes. -/
theorem op_true {g : Int → Int → Int} {a b : List Int} (h : (opU g a b).2 = true) : a.length = b.length ∧ (a.zip b).all (okG g) = true ∧ (opU g a b).1 = outG g a b := by
  unfold opU at h ⊢
  by_cases h1 : a.length = b.length
  · rw [if_pos h1] at h ⊢
    by_cases h2 : (a.zip b).all (okG g) = true
    · rw [if_pos h2]; exact ⟨h1, h2, rfl⟩
    · rw [if_neg h2] at h; simp at h
  · rw [if_neg h1] at h; simp at h
theorem op_of {g : Int → Int → Int} {a b : List Int} (h1 : a.length = b.length) (h2 : (a.zip b).all (okG g) = true) : opU g a b = (outG g a b, true) := by
  unfold opU; rw [if_pos h1, if_pos h2]
theorem there : ∀ (a b : List Int), a.length = b.length → (a.zip b).all (okG (fun x y => x + y)) = true →
    ((outG (fun x y => x + y) a b).zip b).all (okG (fun x y => x - y)) = true ∧ outG (fun x y => x - y) (outG (fun x y => x + y) a b) b = a ∧ (a.zip (outG (fun x y => x + y) a b)).all (fun x => decide (x.1 ≤ x.2)) = true ∧ (outG (fun x y => x + y) a b).sum = a.sum + b.sum
  | [], [], _, _ => ⟨rfl, rfl, rfl, rfl⟩
  | [], _ :: _, h, _ => by simp at h
  | _ :: _, [], h, _ => by simp at h
  | x :: a, y :: b, h, k => by
    rw [List.zip_cons_cons, List.all_cons, Bool.and_eq_true] at k
    obtain ⟨h1, h2, h3, h4⟩ := there a b (by simpa using h) k.2
    have k1 := k.1
    simp only [okG, Bool.and_eq_true] at k1
    have k2 := okB_iff.1 k1.1.1
    have k3 := okB_iff.1 k1.1.2
    simp only [outG] at h1 h2 h3 h4 ⊢
    simp only [List.zip_cons_cons, List.map_cons, List.all_cons, h1, h2, h3, h4, List.sum_cons, Bool.and_true]
    refine ⟨?_, ?_, decide_eq_true (by omega), by omega⟩
    · simp only [okG, Bool.and_eq_true]
      exact ⟨⟨k1.2, k1.1.2⟩, okB_iff.2 (by omega)⟩
    · rw [show x + y - y = x by omega]
theorem back : ∀ (a b : List Int), a.length = b.length → (a.zip b).all (okG (fun x y => x - y)) = true →
    ((outG (fun x y => x - y) a b).zip b).all (okG (fun x y => x + y)) = true ∧ outG (fun x y => x + y) (outG (fun x y => x - y) a b) b = a ∧ (b.zip a).all (fun x => decide (x.1 ≤ x.2)) = true
  | [], [], _, _ => ⟨rfl, rfl, rfl⟩
  | [], _ :: _, h, _ => by simp at h
  | _ :: _, [], h, _ => by simp at h
  | x :: a, y :: b, h, k => by
    rw [List.zip_cons_cons, List.all_cons, Bool.and_eq_true] at k
    obtain ⟨h1, h2, h3⟩ := back a b (by simpa using h) k.2
    have k1 := k.1
    simp only [okG, Bool.and_eq_true] at k1
    have k2 := okB_iff.1 k1.1.1
    have k3 := okB_iff.1 k1.1.2
    have k4 := okB_iff.1 k1.2
    simp only [outG] at h1 h2 h3 ⊢
    simp only [List.zip_cons_cons, List.map_cons, List.all_cons, h1, h2, h3, Bool.and_true]
    refine ⟨?_, ?_, decide_eq_true (by omega)⟩
    · simp only [okG, Bool.and_eq_true]
      exact ⟨⟨k1.2, k1.1.2⟩, okB_iff.2 (by omega)⟩
    · rw [show x - y + y = x by omega]
theorem sumU_of {l : List Int} (h : l.all okB = true) (hl : l.length ≤ 200) : sumU l = l.sum ∧ 0 ≤ l.sum ∧ l.sum ≤ 200000 := by
  have h1 : ∀ x ∈ l, 0 ≤ x ∧ x ≤ 1000 := fun x hx => okB_iff.1 (List.all_eq_true.1 h x hx)
  have h2 : ∀ (l : List Int), (∀ x ∈ l, 0 ≤ x ∧ x ≤ 1000) → 0 ≤ l.sum ∧ l.sum ≤ 1000 * l.length := by
    intro l
    induction l with
    | nil => intro _; simp
    | cons x l ih =>
      intro hx
      have := ih (fun y hy => hx y (by simp [hy]))
      have := hx x (by simp)
      simp only [List.sum_cons, List.length_cons]
      omega
  have h3 := h2 l h1
  unfold sumU
  rw [if_pos h, sumW_plain l 0 h1 (by omega) (by omega)]
  omega
theorem far (a b : List Int) : Ev (fun q => signalboxlaw13_UnitsBack.j0 q a b true) true := by
  refine Ev.step (fun q => by simp only [signalboxlaw13_UnitsBack.j0]; rfl) ?_
  exact pos trivial (bnd awake (somec rfl))
theorem second (a b : List Int) (ha : a.length ≤ 200) : Ev (fun q => signalboxlaw13_UnitsBack.j1 q a b) true := by
  refine Ev.step (fun q => by simp only [signalboxlaw13_UnitsBack.j1]; rfl) ?_
  refine bndc (less a b (by omega)) (ite (fun h => ?_) (fun _ => bnd awake (somec rfl)))
  obtain ⟨h1, h2, h3⟩ := op_true h
  obtain ⟨b1, b2, b3⟩ := back a b h1 h2
  have e : (lessU a b).1 = outG (fun x y => x - y) a b := h3
  have hl := outLen (g := fun x y => x - y) h1
  have p : plusU (outG (fun x y => x - y) a b) b = (a, true) := by
    have := op_of (g := fun x y => x + y) (by omega) b1
    rw [b2] at this
    exact this
  rw [e]
  refine bndc ((plus _ b (by omega)).trans (congrArg some p)) (pos rfl ?_)
  refine bnd (ints a a (by omega)) (pos (by simp) ?_)
  refine bndc (fits b a) (pos (by unfold fitsU; rw [b3, decide_eq_true h1.symm]; rfl) ?_)
  exact bnd awake (somec rfl)
theorem near (a b : List Int) (ha : a.length ≤ 200) (hb : b.length ≤ 200) : Ev (fun q => signalboxlaw13_UnitsBack.j0 q a b false) true := by
  refine Ev.step (fun q => by simp only [signalboxlaw13_UnitsBack.j0]; rfl) ?_
  refine neg (by simp) ?_
  refine bndc (plus a b (by omega)) (ite (fun h => ?_) (fun _ => second a b ha))
  obtain ⟨h1, h2, h3⟩ := op_true h
  obtain ⟨b1, b2, b3, b4⟩ := there a b h1 h2
  have e : (plusU a b).1 = outG (fun x y => x + y) a b := h3
  have hl := outLen (g := fun x y => x + y) h1
  have p : lessU (outG (fun x y => x + y) a b) b = (a, true) := by
    have := op_of (g := fun x y => x - y) (by omega) b1
    rw [b2] at this
    exact this
  have ok := h2
  rw [all_ok _ a b h1, Bool.and_eq_true, Bool.and_eq_true] at ok
  have s1 := sumU_of ok.1.1 ha
  have s2 := sumU_of ok.1.2 hb
  have s3 := sumU_of ok.2 (by omega)
  rw [e]
  refine bndc ((less _ b (by omega)).trans (congrArg some p)) (pos rfl ?_)
  refine bnd (ints a a (by omega)) (pos (by simp) ?_)
  refine bndc (fits a _) (pos (by unfold fitsU; rw [b3, decide_eq_true hl.symm]; rfl) ?_)
  refine bnd (sum _ (by omega)) (bnd (sum a (by omega)) (bnd (sum b (by omega)) (pos ?_ (second a b ha))))
  rw [w64 (by omega) (by omega)]
  omega
end UnitsBackKit
open UnitsBackKit
theorem UnitsBack : signalboxlaw13_UnitsBack.Pure := by
  intro a b _ _ _ _ _ _
  refine Ev.rounds (show Ev (fun q => signalboxlaw13_UnitsBack.f q a b) true from ?_)
  unfold signalboxlaw13_UnitsBack.f
  refine ite (fun _ => far a b) (fun h => ?_)
  by_cases h2 : (b.length : Int) > 200
  · rw [decide_eq_true h2]; exact far a b
  · rw [decide_eq_false h2]; exact near a b (by omega) (by omega)
end Go.Proofs.Ytfbcilmiagmijaa.Pure
