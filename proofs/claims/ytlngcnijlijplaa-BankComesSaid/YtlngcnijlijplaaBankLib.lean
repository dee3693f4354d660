/-
  What the printed functions of the banker (and of its reference) come to, as plain lists.
-/
import Derived.Test.YtlngcnijlijplaaPBankx1
import Derived.Test.YtlngcnijlijplaaPBankx10
import Derived.Test.YtlngcnijlijplaaPBankx11
import Derived.Test.YtlngcnijlijplaaPBankx12
import Derived.Test.YtlngcnijlijplaaPBankx3
import Derived.Test.YtlngcnijlijplaaPBankx4
import Derived.Test.YtlngcnijlijplaaPBankx9
import Derived.Test.YtlngcnijlijplaaLists
namespace Go.Proofs.Ytlngcnijlijplaa.BankKit
open Go.RowKit Go.Proofs.Ytlngcnijlijplaa.PBank Go.Proofs.Ytlngcnijlijplaa.EvKit Go.Proofs.YtlngcnijlijplaaW.PrintWords Go.Proofs.YtlngcnijlijplaaW.PrintLast

def okB (x : Int) : Bool := decide (0 ≤ x) && decide (x ≤ 1000)
theorem okB_iff {x : Int} : okB x = true ↔ 0 ≤ x ∧ x ≤ 1000 := by simp [okB]
theorem okB_no {x : Int} : okB x = false ↔ x < 0 ∨ 1000 < x := by
  rw [← Bool.not_eq_true, okB_iff]; omega

theorem ints_l (a b : List Int) (hl : a.length = b.length) (hb : a.length ≤ 9223372036854775807) : ∀ (d i : Nat), a.length - i = d → i ≤ a.length → Ev (fun q => signalboxref1_Ints.l0 q a b i) (decide (a.drop i = b.drop i))
  | 0, i, hd, hi => by
    refine Ev.step (fun q => by simp only [signalboxref1_Ints.l0]; rfl) ?_
    exact neg (by omega) (somec (by rw [drop_end (by omega), drop_end (by omega)]; simp))
  | d + 1, i, hd, hi => by
    refine Ev.step (fun q => by simp only [signalboxref1_Ints.l0]; rfl) ?_
    refine pos (by omega) (pos (by omega) (pos (by omega) ?_))
    rw [drop_cons (l := a) (by omega), drop_cons (l := b) (by omega)]
    refine ite (fun h => ?_) (fun h => ?_)
    · rw [w64 (by omega) (by omega), show ((i : Int) + 1) = ((i + 1 : Nat) : Int) by omega]
      refine eqr (ints_l a b hl hb d (i + 1) (by omega) (by omega)) ?_
      rw [h]; simp
    · refine somec ?_
      simp [h]
theorem ints (a b : List Int) (hb : a.length ≤ 9223372036854775807) : Ev (fun q => signalboxref1_Ints.f q a b) (decide (a = b)) := by
  unfold signalboxref1_Ints.f
  refine ite (fun h => ?_) (fun h => somec ?_)
  · have := ints_l a b (by omega) hb a.length 0 (by omega) (by omega)
    simpa using this
  · have : a ≠ b := fun e => h (by rw [e])
    simp [this]
theorem may_l (l : List Int) (hb : l.length ≤ 9223372036854775807) : ∀ (d i : Nat), l.length - i = d → i ≤ l.length → Ev (fun q => units_may.l0 q l (l.length : Int) i) ((l.drop i).all okB)
  | 0, i, hd, hi => by
    refine Ev.step (fun q => by simp only [units_may.l0]; rfl) ?_
    exact neg (by omega) (somec (by rw [drop_end (by omega)]; rfl))
  | d + 1, i, hd, hi => by
    refine Ev.step (fun q => by simp only [units_may.l0]; rfl) ?_
    refine pos (by omega) (pos (by omega) (pos (by omega) ?_))
    rw [all_drop okB (by omega)]
    refine ite (fun h => somec ?_) (fun h => ite (fun h2 => somec ?_) (fun h2 => ?_))
    · rw [okB_no.2 (.inl h)]; rfl
    · rw [okB_no.2 (.inr h2)]; rfl
    · rw [w64 (by omega) (by omega), show ((i : Int) + 1) = ((i + 1 : Nat) : Int) by omega, okB_iff.2 (by omega), Bool.true_and]
      exact may_l l hb d (i + 1) (by omega) (by omega)
theorem may (l : List Int) (hb : l.length ≤ 9223372036854775807) : Ev (fun q => units_may.f q l) (l.all okB) := by
  unfold units_may.f
  have := may_l l hb l.length 0 (by omega) (by omega)
  simpa using this
/-- Units of so many classes. -/
def isU (l : List Int) (n : Int) : Bool := decide ((l.length : Int) = n) && l.all okB
theorem isU_iff {l : List Int} {n : Int} : isU l n = true ↔ (l.length : Int) = n ∧ ∀ x ∈ l, 0 ≤ x ∧ x ≤ 1000 := by
  simp only [isU, Bool.and_eq_true, decide_eq_true_eq, List.all_eq_true, okB_iff]
theorem is_ (l : List Int) (n : Int) (hb : l.length ≤ 9223372036854775807) : Ev (fun q => units_Is.f q l n) (isU l n) := by
  unfold units_Is.f isU
  refine ite (fun h => ?_) (fun h => somec ?_)
  · refine bnd (may l hb) (somec ?_)
    simp [h]
  · simp [h]
theorem in_ (x a b : Int) : signalboxref1_in.f x a b = some (decide (a ≤ x) && decide (x ≤ b)) := by
  unfold signalboxref1_in.f
  by_cases h : x ≥ a
  · rw [if_pos h, decide_eq_true (show a ≤ x from h), Bool.true_and]
  · rw [if_neg h, decide_eq_false (show ¬ a ≤ x from h), Bool.false_and]
theorem ris_l (l : List Int) (hb : l.length ≤ 9223372036854775807) : ∀ (d i : Nat), l.length - i = d → i ≤ l.length → Ev (fun q => signalboxref1_Is.l0 q l i) ((l.drop i).all okB)
  | 0, i, hd, hi => by
    refine Ev.step (fun q => by simp only [signalboxref1_Is.l0]; rfl) ?_
    exact neg (by omega) (somec (by rw [drop_end (by omega)]; rfl))
  | d + 1, i, hd, hi => by
    refine Ev.step (fun q => by simp only [signalboxref1_Is.l0]; rfl) ?_
    refine pos (by omega) (pos (by omega) (bndc (in_ _ _ _) ?_))
    rw [all_drop okB (by omega)]
    refine ite (fun h => ?_) (fun h => somec ?_)
    · rw [w64 (by omega) (by omega), show ((i : Int) + 1) = ((i + 1 : Nat) : Int) by omega, show okB (rd l i) = true from h, Bool.true_and]
      exact ris_l l hb d (i + 1) (by omega) (by omega)
    · rw [show okB (rd l i) = false from Bool.eq_false_iff.2 h]; rfl
theorem ris (l : List Int) (n : Int) (hb : l.length ≤ 9223372036854775807) : Ev (fun q => signalboxref1_Is.f q l n) (isU l n) := by
  unfold signalboxref1_Is.f isU
  refine ite (fun h => ?_) (fun h => somec ?_)
  · have := ris_l l hb l.length 0 (by omega) (by omega)
    simpa [h] using this
  · simp [h]
/-- Each at most the other one. -/
def fitsU (a b : List Int) : Bool := (a.zip b).all (fun x => decide (x.1 ≤ x.2)) && decide (a.length = b.length)
theorem fits (a b : List Int) : units_Fits.f a b = some (fitsU a b) := rfl
theorem fitsU_iff {a b : List Int} : fitsU a b = true ↔ a.length = b.length ∧ ∀ i : Nat, i < a.length → rd a i ≤ rd b i := by
  unfold fitsU
  rw [Bool.and_eq_true, decide_eq_true_eq, List.all_eq_true]
  constructor
  · rintro ⟨h1, h2⟩
    refine ⟨h2, fun i hi => ?_⟩
    have hz : i < (a.zip b).length := by rw [List.length_zip]; omega
    have := h1 (a.zip b)[i] (List.getElem_mem hz)
    rw [rd_at hi, rd_at (by omega)]
    simpa using this
  · rintro ⟨h2, h1⟩
    refine ⟨fun x hx => ?_, h2⟩
    obtain ⟨i, hi, rfl⟩ := List.getElem_of_mem hx
    rw [List.length_zip] at hi
    have := h1 i (by omega)
    rw [rd_at (by omega), rd_at (by omega)] at this
    simpa using this
theorem rfits_l (a b : List Int) (hl : a.length = b.length) (hb : a.length ≤ 9223372036854775807) : ∀ (d i : Nat), a.length - i = d → i ≤ a.length → Ev (fun q => signalboxref1_Fits.l0 q a b i) (((a.drop i).zip (b.drop i)).all (fun x => decide (x.1 ≤ x.2)))
  | 0, i, hd, hi => by
    refine Ev.step (fun q => by simp only [signalboxref1_Fits.l0]; rfl) ?_
    exact neg (by omega) (somec (by rw [drop_end (by omega)]; rfl))
  | d + 1, i, hd, hi => by
    refine Ev.step (fun q => by simp only [signalboxref1_Fits.l0]; rfl) ?_
    refine pos (by omega) (pos (by omega) (pos (by omega) ?_))
    rw [zip_drop (by omega) (by omega), List.all_cons]
    refine ite (fun h => somec ?_) (fun h => ?_)
    · rw [decide_eq_false (by simp only; omega)]; rfl
    · rw [w64 (by omega) (by omega), show ((i : Int) + 1) = ((i + 1 : Nat) : Int) by omega, decide_eq_true (by simp only; omega), Bool.true_and]
      exact rfits_l a b hl hb d (i + 1) (by omega) (by omega)
theorem rfits (a b : List Int) (hb : a.length ≤ 9223372036854775807) : Ev (fun q => signalboxref1_Fits.f q a b) (fitsU a b) := by
  unfold signalboxref1_Fits.f fitsU
  refine ite (fun h => ?_) (fun h => somec ?_)
  · have := rfits_l a b (by omega) hb a.length 0 (by omega) (by omega)
    rw [decide_eq_true (by omega), Bool.and_true]
    simpa using this
  · rw [decide_eq_false (by omega), Bool.and_false]
/-! ### all of some numbers, one by one -/
def allN (p : Nat → Bool) : Nat → Nat → Bool
  | 0, _ => true
  | d + 1, i => p i && allN p d (i + 1)
theorem allN_iff {p : Nat → Bool} : ∀ {d i : Nat}, allN p d i = true ↔ ∀ j, i ≤ j → j < i + d → p j = true
  | 0, i => by simp only [allN, true_iff]; intro j h1 h2; omega
  | d + 1, i => by
    simp only [allN, Bool.and_eq_true, allN_iff]
    constructor
    · rintro ⟨h1, h2⟩ j h3 h4
      by_cases e : j = i
      · subst e; exact h1
      · exact h2 j (by omega) (by omega)
    · intro h
      exact ⟨h i (by omega) (by omega), fun j h1 h2 => h j (by omega) (by omega)⟩
theorem rowlen {l : List (List Int)} {b : Nat} (h : ∀ x ∈ l, x.length ≤ b) (i : Int) : (rd_L1 l i).length ≤ b := by
  unfold rd_L1
  rw [List.getD_eq_getElem?_getD]
  cases e : l[i.toNat]? with
  | none => simp
  | some y => exact h y (List.mem_of_getElem? e)
/-! ### whether a state may be -/
def rowP (l1 l2 : List (List Int)) (n : Int) (i : Nat) : Bool := isU (rd_L1 l1 i) n && (isU (rd_L1 l2 i) n && fitsU (rd_L1 l1 i) (rd_L1 l2 i))
def headB (l0 : List Int) (l1 l2 : List (List Int)) : Bool := decide (l0.length ≤ 6) && (isU l0 l0.length && (decide (l1.length = l2.length) && decide (l1.length ≤ 32)))
def mayB (l0 : List Int) (l1 l2 : List (List Int)) : Bool := headB l0 l1 l2 && allN (rowP l1 l2 l0.length) l1.length 0
theorem bmay_l (l1 l2 : List (List Int)) (n : Int) (hb1 : ∀ x ∈ l1, x.length ≤ 9223372036854775807) (hb2 : ∀ x ∈ l2, x.length ≤ 9223372036854775807) (he : l1.length = l2.length) (h32 : l1.length ≤ 32) : ∀ (d i : Nat), l1.length - i = d → i ≤ l1.length → Ev (fun q => bank_May.l0 q l1 l2 n (l1.length : Int) i) (allN (rowP l1 l2 n) d i)
  | 0, i, hd, hi => by
    refine Ev.step (fun q => by simp only [bank_May.l0]; rfl) ?_
    exact neg (by omega) (somec rfl)
  | d + 1, i, hd, hi => by
    refine Ev.step (fun q => by simp only [bank_May.l0]; rfl) ?_
    refine pos (by omega) (pos (by omega) (pos (by omega) ?_))
    unfold allN rowP
    refine bnd (is_ _ _ (rowlen hb1 _)) (ite (fun h => ?_) (fun h => ?_))
    · refine pos (by omega) (bnd (is_ _ _ (rowlen hb2 _)) (ite (fun h2 => ?_) (fun h2 => ?_)))
      · refine bndc (fits _ _) (ite (fun h3 => ?_) (fun h3 => ?_))
        · rw [w64 (by omega) (by omega), show ((i : Int) + 1) = ((i + 1 : Nat) : Int) by omega, h, h2, h3]
          exact bmay_l l1 l2 n hb1 hb2 he h32 d (i + 1) (by omega) (by omega)
        · exact somec (by rw [Bool.eq_false_iff.2 h3]; simp)
      · exact somec (by rw [Bool.eq_false_iff.2 h2]; simp)
    · exact somec (by rw [Bool.eq_false_iff.2 h]; simp)
theorem bmay_no (l1 l2 : List (List Int)) (n : Int) : Ev (fun q => bank_May.j0 q l1 l2 n true) false := by
  refine Ev.step (fun q => by simp only [bank_May.j0]; rfl) ?_
  exact pos trivial (somec rfl)
theorem bmay (l0 : List Int) (l1 l2 : List (List Int)) (hb0 : l0.length ≤ 9223372036854775807) (hb1 : ∀ x ∈ l1, x.length ≤ 9223372036854775807) (hb2 : ∀ x ∈ l2, x.length ≤ 9223372036854775807) : Ev (fun q => bank_May.f q l0 l1 l2) (mayB l0 l1 l2) := by
  unfold bank_May.f mayB headB
  refine ite (fun h => eqr (bmay_no _ _ _) ?_) (fun h => bnd (is_ l0 _ hb0) (ite (fun h2 => ite (fun h3 => ?_) (fun h3 => eqr (bmay_no _ _ _) ?_)) (fun h2 => eqr (bmay_no _ _ _) ?_)))
  · rw [decide_eq_false (by omega)]; rfl
  · by_cases h4 : l1.length ≤ 32
    · rw [decide_eq_false (by omega)]
      refine Ev.step (fun q => by simp only [bank_May.j0]; rfl) ?_
      refine neg (by simp) ?_
      rw [decide_eq_true (show l0.length ≤ 6 by omega), h2, decide_eq_true (show l1.length = l2.length by omega), decide_eq_true h4]
      exact eqr (bmay_l l1 l2 _ hb1 hb2 (by omega) h4 l1.length 0 (by omega) (by omega)) (by simp)
    · rw [decide_eq_true (by omega)]
      exact eqr (bmay_no _ _ _) (by rw [decide_eq_false h4]; simp)
  · rw [decide_eq_false (show ¬ l1.length = l2.length by omega)]; simp
  · rw [Bool.eq_false_iff.2 h2]; simp
/-! ### .. the reference's -/
def rowR (l1 l2 : List (List Int)) (n : Int) (i : Nat) : Bool := isU (rd_L1 l1 i) n && isU (rd_L1 l2 i) n
theorem rrows_l (l0 : List Int) (l1 l2 : List (List Int)) (hb1 : ∀ x ∈ l1, x.length ≤ 9223372036854775807) (hb2 : ∀ x ∈ l2, x.length ≤ 9223372036854775807) (he : l1.length = l2.length) (h32 : l1.length ≤ 32) : ∀ (d i : Nat), l1.length - i = d → i ≤ l1.length → Ev (fun q => signalboxref14_rows.l0 q l0 l1 l2 i) (allN (rowR l1 l2 l0.length) d i)
  | 0, i, hd, hi => by
    refine Ev.step (fun q => by simp only [signalboxref14_rows.l0]; rfl) ?_
    exact neg (by omega) (somec rfl)
  | d + 1, i, hd, hi => by
    refine Ev.step (fun q => by simp only [signalboxref14_rows.l0]; rfl) ?_
    refine pos (by omega) (pos (by omega) ?_)
    unfold allN rowR
    refine bnd (ris _ _ (rowlen hb1 _)) (ite (fun h => ?_) (fun h => ?_))
    · refine pos (by omega) (bnd (ris _ _ (rowlen hb2 _)) (ite (fun h2 => ?_) (fun h2 => ?_)))
      · rw [w64 (by omega) (by omega), show ((i : Int) + 1) = ((i + 1 : Nat) : Int) by omega, h, h2]
        exact rrows_l l0 l1 l2 hb1 hb2 he h32 d (i + 1) (by omega) (by omega)
      · exact somec (by rw [Bool.eq_false_iff.2 h2]; simp)
    · exact somec (by rw [Bool.eq_false_iff.2 h]; simp)
theorem rrows_no (l0 : List Int) (l1 l2 : List (List Int)) : Ev (fun q => signalboxref14_rows.j0 q l0 l1 l2 true) false := by
  refine Ev.step (fun q => by simp only [signalboxref14_rows.j0]; rfl) ?_
  exact pos trivial (somec rfl)
theorem rrows (l0 : List Int) (l1 l2 : List (List Int)) (hb0 : l0.length ≤ 9223372036854775807) (hb1 : ∀ x ∈ l1, x.length ≤ 9223372036854775807) (hb2 : ∀ x ∈ l2, x.length ≤ 9223372036854775807) : Ev (fun q => signalboxref14_rows.f q l0 l1 l2) (headB l0 l1 l2 && allN (rowR l1 l2 l0.length) l1.length 0) := by
  unfold signalboxref14_rows.f headB
  refine ite (fun h => eqr (rrows_no _ _ _) ?_) (fun h => bnd (ris l0 _ hb0) (ite (fun h2 => ite (fun h3 => ?_) (fun h3 => eqr (rrows_no _ _ _) ?_)) (fun h2 => eqr (rrows_no _ _ _) ?_)))
  · rw [decide_eq_false (by omega)]; rfl
  · by_cases h4 : l1.length ≤ 32
    · rw [decide_eq_false (by omega)]
      refine Ev.step (fun q => by simp only [signalboxref14_rows.j0]; rfl) ?_
      refine neg (by simp) ?_
      rw [decide_eq_true (show l0.length ≤ 6 by omega), h2, decide_eq_true (show l1.length = l2.length by omega), decide_eq_true h4]
      exact eqr (rrows_l l0 l1 l2 hb1 hb2 (by omega) h4 l1.length 0 (by omega) (by omega)) (by simp)
    · rw [decide_eq_true (by omega)]
      exact eqr (rrows_no _ _ _) (by rw [decide_eq_false h4]; simp)
  · rw [decide_eq_false (show ¬ l1.length = l2.length by omega)]; simp
  · rw [Bool.eq_false_iff.2 h2]; simp
theorem rmay_l (l1 l2 : List (List Int)) (hb1 : ∀ x ∈ l1, x.length ≤ 9223372036854775807) (he : l1.length = l2.length) (h32 : l1.length ≤ 32) : ∀ (d i : Nat), l1.length - i = d → i ≤ l1.length → Ev (fun q => signalboxref14_May.l0 q l1 l2 i) (allN (fun i => fitsU (rd_L1 l1 i) (rd_L1 l2 i)) d i)
  | 0, i, hd, hi => by
    refine Ev.step (fun q => by simp only [signalboxref14_May.l0]; rfl) ?_
    exact neg (by omega) (somec rfl)
  | d + 1, i, hd, hi => by
    refine Ev.step (fun q => by simp only [signalboxref14_May.l0]; rfl) ?_
    refine pos (by omega) (pos (by omega) (pos (by omega) ?_))
    unfold allN
    refine bnd (rfits _ _ (rowlen hb1 _)) (ite (fun h => ?_) (fun h => ?_))
    · rw [w64 (by omega) (by omega), show ((i : Int) + 1) = ((i + 1 : Nat) : Int) by omega, h]
      exact rmay_l l1 l2 hb1 he h32 d (i + 1) (by omega) (by omega)
    · exact somec (by rw [Bool.eq_false_iff.2 h]; simp)
theorem headB_iff {l0 : List Int} {l1 l2 : List (List Int)} : headB l0 l1 l2 = true ↔ l0.length ≤ 6 ∧ isU l0 l0.length = true ∧ l1.length = l2.length ∧ l1.length ≤ 32 := by
  simp only [headB, Bool.and_eq_true, decide_eq_true_eq]
theorem rmay (l0 : List Int) (l1 l2 : List (List Int)) (hb0 : l0.length ≤ 9223372036854775807) (hb1 : ∀ x ∈ l1, x.length ≤ 9223372036854775807) (hb2 : ∀ x ∈ l2, x.length ≤ 9223372036854775807) : Ev (fun q => signalboxref14_May.f q l0 l1 l2) (mayB l0 l1 l2) := by
  unfold signalboxref14_May.f
  refine bnd (rrows l0 l1 l2 hb0 hb1 hb2) (ite (fun h => ?_) (fun h => somec ?_))
  · have h' := h
    rw [Bool.and_eq_true, headB_iff] at h'
    obtain ⟨⟨q1, q2, q3, q4⟩, q5⟩ := h'
    refine eqr (rmay_l l1 l2 hb1 q3 q4 l1.length 0 (by omega) (by omega)) ?_
    have hh : headB l0 l1 l2 = true := headB_iff.2 ⟨q1, q2, q3, q4⟩
    unfold mayB
    rw [hh, Bool.true_and, Bool.eq_iff_iff, allN_iff, allN_iff]
    rw [allN_iff] at q5
    constructor
    · intro k j h1 h2
      have := q5 j h1 h2
      unfold rowR at this
      rw [Bool.and_eq_true] at this
      unfold rowP
      rw [this.1, this.2, k j h1 h2]; rfl
    · intro k j h1 h2
      have := k j h1 h2
      unfold rowP at this
      rw [Bool.and_eq_true, Bool.and_eq_true] at this
      exact this.2.2
  · rw [Bool.not_eq_true] at h
    symm
    rw [← Bool.not_eq_true]
    intro k
    unfold mayB at k
    rw [Bool.and_eq_true, allN_iff] at k
    rw [← Bool.not_eq_true] at h
    apply h
    rw [Bool.and_eq_true, allN_iff]
    refine ⟨k.1, fun j h1 h2 => ?_⟩
    have := k.2 j h1 h2
    unfold rowP at this
    rw [Bool.and_eq_true, Bool.and_eq_true] at this
    unfold rowR
    rw [this.1, this.2.1]; rfl
/-- What a state's yes says. -/
theorem mayB_ok {l0 : List Int} {l1 l2 : List (List Int)} (h : mayB l0 l1 l2 = true) : bank_Ok l0 l1 l2 := by
  unfold mayB at h
  rw [Bool.and_eq_true, headB_iff, allN_iff] at h
  obtain ⟨⟨h1, h2, h3, h4⟩, h5⟩ := h
  have num : ∀ {l : List Int} {n : Int}, isU l n = true → (l.length : Int) = n ∧ ∀ j : Nat, j < l.length → 0 ≤ rd l j ∧ rd l j ≤ 1000 := by
    intro l n k
    rw [isU_iff] at k
    exact ⟨k.1, fun j hj => k.2 _ (rd_mem hj)⟩
  refine ⟨h1, (num h2).2, h3, h4, fun i hi => ?_, fun i hi => ?_⟩
  · have k := h5 i (by omega) (by omega)
    unfold rowP at k
    rw [Bool.and_eq_true, Bool.and_eq_true] at k
    have := num k.1
    exact ⟨by omega, fun j hj => this.2 j (by omega)⟩
  · have k := h5 i (by omega) (by omega)
    unfold rowP at k
    rw [Bool.and_eq_true, Bool.and_eq_true] at k
    have := num k.2.1
    exact ⟨by omega, fun j hj => this.2 j (by omega)⟩
/-! ### the reference's steps -/
theorem has_l (l : List Int) (x : Int) (hb : l.length ≤ 9223372036854775807) : ∀ (d i : Nat), l.length - i = d → i ≤ l.length → Ev (fun q => signalboxref1_Has.l0 q l x i) (decide (x ∈ l.drop i))
  | 0, i, hd, hi => by
    refine Ev.step (fun q => by simp only [signalboxref1_Has.l0]; rfl) ?_
    exact neg (by omega) (somec (by rw [drop_end (by omega)]; simp))
  | d + 1, i, hd, hi => by
    refine Ev.step (fun q => by simp only [signalboxref1_Has.l0]; rfl) ?_
    refine pos (by omega) (pos (by omega) ?_)
    rw [drop_cons (by omega)]
    refine ite (fun h => somec ?_) (fun h => ?_)
    · rw [decide_eq_true]; rw [h]; exact List.mem_cons_self
    · rw [w64 (by omega) (by omega), show ((i : Int) + 1) = ((i + 1 : Nat) : Int) by omega]
      refine eqr (has_l l x hb d (i + 1) (by omega) (by omega)) ?_
      have : ¬ x = rd l i := fun e => h e.symm
      rw [decide_eq_decide, List.mem_cons]
      exact ⟨.inr, fun q => q.resolve_left this⟩
theorem has (l : List Int) (x : Int) (hb : l.length ≤ 9223372036854775807) : Ev (fun q => signalboxref1_Has.f q l x) (decide (x ∈ l)) := by
  unfold signalboxref1_Has.f
  have := has_l l x hb l.length 0 (by omega) (by omega)
  simpa using this
theorem canTo_iff {t h c : List Int} {k : Nat} : canTo t h c k = true ↔ ∀ j : Nat, j < k → rd c j - rd h j ≤ rd t j := by
  simp [canTo, List.all_eq_true]
theorem rfit_l (t h c : List Int) (h1 : h.length = t.length) (h2 : c.length = t.length) (h6 : t.length ≤ 6) (hc : ∀ j : Nat, j < t.length → -1000000 ≤ rd c j - rd h j ∧ rd c j - rd h j ≤ 1000000) : ∀ (d i : Nat), t.length - i = d → i ≤ t.length → Ev (fun q => signalboxref14_fits.l0 q t c h i) (allN (fun j => decide (rd c j - rd h j ≤ rd t j)) d i)
  | 0, i, hd, hi => by
    refine Ev.step (fun q => by simp only [signalboxref14_fits.l0]; rfl) ?_
    exact neg (by omega) (somec rfl)
  | d + 1, i, hd, hi => by
    refine Ev.step (fun q => by simp only [signalboxref14_fits.l0]; rfl) ?_
    refine pos (by omega) (pos (by omega) (pos (by omega) (pos (by omega) ?_)))
    have hi' := hc i (by omega)
    unfold allN
    rw [w64 (x := rd c i - rd h i) (by omega) (by omega), w64 (x := (i : Int) + 1) (by omega) (by omega), show ((i : Int) + 1) = ((i + 1 : Nat) : Int) by omega]
    refine ite (fun q => somec ?_) (fun q => ?_)
    · rw [decide_eq_false (by omega)]; rfl
    · rw [decide_eq_true (by omega), Bool.true_and]
      exact rfit_l t h c h1 h2 h6 hc d (i + 1) (by omega) (by omega)
theorem rfit (t h c : List Int) (h1 : h.length = t.length) (h2 : c.length = t.length) (h6 : t.length ≤ 6) (hc : ∀ j : Nat, j < t.length → -1000000 ≤ rd c j - rd h j ∧ rd c j - rd h j ≤ 1000000) : Ev (fun q => signalboxref14_fits.f q t c h) (canTo t h c c.length) := by
  unfold signalboxref14_fits.f
  refine eqr (rfit_l t h c h1 h2 h6 hc t.length 0 (by omega) (by omega)) ?_
  rw [Bool.eq_iff_iff, allN_iff, canTo_iff]
  constructor
  · intro k j hj
    have := k j (by omega) (by omega)
    simpa using this
  · intro k j h1 h2
    simpa using k j (by omega)
theorem more_l (t v : List Int) (h1 : v.length = t.length) (h6 : t.length ≤ 6) (hc : ∀ j : Nat, j < t.length → -1000000 ≤ rd t j + rd v j ∧ rd t j + rd v j ≤ 1000000) : ∀ (d i : Nat), t.length - i = d → i ≤ t.length → Ev (fun q => signalboxref14_more.l0 q v (addN t v i) i) (addN t v t.length)
  | 0, i, hd, hi => by
    refine Ev.step (fun q => by simp only [signalboxref14_more.l0]; rfl) ?_
    have e : i = t.length := by omega
    exact neg (by rw [addN_len]; omega) (somec (by rw [e]))
  | d + 1, i, hd, hi => by
    refine Ev.step (fun q => by simp only [signalboxref14_more.l0]; rfl) ?_
    refine pos (by rw [addN_len]; omega) (pos (by omega) (pos (by omega) ?_))
    have hi' := hc i (by omega)
    have e : rd (addN t v i) i = rd t i := by rw [addN_at, if_neg (by omega)]
    rw [e, w64 (x := rd t i + rd v i) (by omega) (by omega), w64 (x := (i : Int) + 1) (by omega) (by omega), show ((i : Int) + 1) = ((i + 1 : Nat) : Int) by omega, Int.toNat_natCast]
    have e2 : (addN t v i).set i (rd t i + rd v i) = addN t v (i + 1) := rfl
    rw [e2]
    exact more_l t v h1 h6 hc d (i + 1) (by omega) (by omega)
theorem rmore (t v : List Int) (h1 : v.length = t.length) (h6 : t.length ≤ 6) (hc : ∀ j : Nat, j < t.length → -1000000 ≤ rd t j + rd v j ∧ rd t j + rd v j ≤ 1000000) : Ev (fun q => signalboxref14_more.f q t v) (addN t v v.length) := by
  unfold signalboxref14_more.f signalboxref1_Copy.f
  refine bndc (a := t) ?_ ?_
  · simp only [Option.bind_some, List.length_nil, List.nil_append]
    rw [if_pos (by omega)]
  · rw [h1]
    exact more_l t v h1 h6 hc t.length 0 (by omega) (by omega)
/-! ### the order -/
section
variable {l0 : List Int} {l1 l2 : List (List Int)}
/-- What there is, in bounds: m more can come back. -/
def Th (l0 th : List Int) (m : Nat) : Prop := th.length = l0.length ∧ ∀ j : Nat, j < l0.length → 0 ≤ rd th j ∧ rd th j + 1000 * m ≤ 33000
theorem Th.start (ok : bank_Ok l0 l1 l2) : Th l0 l0 l1.length := ⟨rfl, fun j hj => by have := ok.av j hj; have := ok.n32; omega⟩
theorem Th.next (ok : bank_Ok l0 l1 l2) {th : List Int} {m i : Nat} (h : Th l0 th (m + 1)) (hi : i < l1.length) : Th l0 (addN th (rd_L1 l1 i) (rd_L1 l1 i).length) m := by
  obtain ⟨q1, q2⟩ := ok.hl i hi
  refine ⟨by rw [addN_len]; exact h.1, fun j hj => ?_⟩
  have := q2 j hj
  have := h.2 j hj
  rw [addN_at]
  split <;> omega
theorem can_ (ok : bank_Ok l0 l1 l2) {th : List Int} {m i : Nat} (h : Th l0 th m) (hi : i < l1.length) : Ev (fun q => signalboxref14_fits.f q th (rd_L1 l2 i) (rd_L1 l1 i)) (canTo th (rd_L1 l1 i) (rd_L1 l2 i) (rd_L1 l2 i).length) := by
  obtain ⟨q1, q2⟩ := ok.hl i hi
  obtain ⟨q3, q4⟩ := ok.cl i hi
  have := h.1
  have := ok.n6
  refine rfit th _ _ (by omega) (by omega) (by omega) (fun j hj => ?_)
  have := q2 j (by omega)
  have := q4 j (by omega)
  omega
theorem back_ (ok : bank_Ok l0 l1 l2) {th : List Int} {m i : Nat} (h : Th l0 th (m + 1)) (hi : i < l1.length) : Ev (fun q => signalboxref14_more.f q th (rd_L1 l1 i)) (addN th (rd_L1 l1 i) (rd_L1 l1 i).length) := by
  obtain ⟨q1, q2⟩ := ok.hl i hi
  have := h.1
  have := ok.n6
  refine rmore th _ (by omega) (by omega) (fun j hj => ?_)
  have := q2 j (by omega)
  have := h.2 j (by omega)
  omega
end
/-! ### 'small' answers; what, does not matter -/
theorem small_l1 (l2 : List (List Int)) (hm : l2.length ≤ maxLen) (hr : ∀ x ∈ l2, x.length ≤ maxLen) : ∀ (d i : Nat) (n : Int), l2.length - i = d → i ≤ l2.length → ∃ b, Ev (fun q => signalboxlaw14_small.l1 q l2 n i) b
  | 0, i, n, hd, hi => ⟨true, by
    refine Ev.step (fun q => by simp only [signalboxlaw14_small.l1]; rfl) ?_
    exact neg (by omega) (somec rfl)⟩
  | d + 1, i, n, hd, hi => by
    obtain ⟨b, hb⟩ := small_l1 l2 hm hr d (i + 1) (wrap64 (n + ((rd_L1 l2 i).length : Int))) (by omega) (by omega)
    by_cases h : wrap64 (n + ((rd_L1 l2 i).length : Int)) > 800
    · refine ⟨false, ?_⟩
      refine Ev.step (fun q => by simp only [signalboxlaw14_small.l1]; rfl) ?_
      exact pos (by omega) (pos (by omega) (pos h (somec rfl)))
    · refine ⟨b, ?_⟩
      refine Ev.step (fun q => by simp only [signalboxlaw14_small.l1]; rfl) ?_
      refine pos (by omega) (pos (by omega) (neg h ?_))
      unfold maxLen at hm
      rw [w64 (x := (i : Int) + 1) (by omega) (by omega), show ((i : Int) + 1) = ((i + 1 : Nat) : Int) by omega]
      exact hb
theorem small_l0 (l1 l2 : List (List Int)) (hm1 : l1.length ≤ maxLen) (hm2 : l2.length ≤ maxLen) (hr1 : ∀ x ∈ l1, x.length ≤ maxLen) (hr2 : ∀ x ∈ l2, x.length ≤ maxLen) : ∀ (d i : Nat) (n : Int), l1.length - i = d → i ≤ l1.length → ∃ b, Ev (fun q => signalboxlaw14_small.l0 q l1 l2 n i) b
  | 0, i, n, hd, hi => by
    obtain ⟨b, hb⟩ := small_l1 l2 hm2 hr2 l2.length 0 n (by omega) (by omega)
    refine ⟨b, ?_⟩
    refine Ev.step (fun q => by simp only [signalboxlaw14_small.l0]; rfl) ?_
    exact neg (by omega) hb
  | d + 1, i, n, hd, hi => by
    obtain ⟨b, hb⟩ := small_l0 l1 l2 hm1 hm2 hr1 hr2 d (i + 1) (wrap64 (n + ((rd_L1 l1 i).length : Int))) (by omega) (by omega)
    by_cases h : wrap64 (n + ((rd_L1 l1 i).length : Int)) > 400
    · refine ⟨false, ?_⟩
      refine Ev.step (fun q => by simp only [signalboxlaw14_small.l0]; rfl) ?_
      exact pos (by omega) (pos (by omega) (pos h (somec rfl)))
    · refine ⟨b, ?_⟩
      refine Ev.step (fun q => by simp only [signalboxlaw14_small.l0]; rfl) ?_
      refine pos (by omega) (pos (by omega) (neg h ?_))
      unfold maxLen at hm1
      rw [w64 (x := (i : Int) + 1) (by omega) (by omega), show ((i : Int) + 1) = ((i + 1 : Nat) : Int) by omega]
      exact hb
theorem small_ (l0 : List Int) (l1 l2 : List (List Int)) (hm1 : l1.length ≤ maxLen) (hm2 : l2.length ≤ maxLen) (hr1 : ∀ x ∈ l1, x.length ≤ maxLen) (hr2 : ∀ x ∈ l2, x.length ≤ maxLen) : ∃ b, Ev (fun q => signalboxlaw14_small.f q l0 l1 l2) b := by
  obtain ⟨b, hb⟩ := small_l0 l1 l2 hm1 hm2 hr1 hr2 l1.length 0 (wrap64 ((wrap64 ((l0.length : Int) + (l1.length : Int))) + (l2.length : Int))) (by omega) (by omega)
  by_cases h : (wrap64 ((wrap64 ((l0.length : Int) + (l1.length : Int))) + (l2.length : Int))) > 100
  · refine ⟨false, ?_⟩
    unfold signalboxlaw14_small.f
    exact pos h (somec rfl)
  · refine ⟨b, ?_⟩
    unfold signalboxlaw14_small.f
    exact neg h hb
theorem awake : Ev (fun k => signalboxlaw14_awake.f k) true := Ev.of signalboxlaw14_awake.mono (k := 20) (by decide +kernel)
end Go.Proofs.Ytlngcnijlijplaa.BankKit
