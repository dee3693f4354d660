/-
  What the printed functions of the deadlocked sets (and of their reference) come to, as plain lists.
-/
import Derived.Test.YtdbcmmckjlbffaaPHoltOx1
import Derived.Test.YtdbcmmckjlbffaaPHoltOx3
import Derived.Test.YtdbcmmckjlbffaaPHoltOx5
import Derived.Test.YtdbcmmckjlbffaaPHoltOx6
import Derived.Test.YtdbcmmckjlbffaaLists
namespace Go.Proofs.Ytdbcmmckjlbffaa.HoltOKit
open Go.RowKit Go.Proofs.Ytdbcmmckjlbffaa.PHoltO Go.Proofs.Ytdbcmmckjlbffaa.EvKit Go.Proofs.YtdbcmmckjlbffaaW.PrintWords Go.Proofs.YtdbcmmckjlbffaaW.PrintLast
set_option linter.unusedVariables false
set_option linter.unusedSimpArgs false

def okB (x : Int) : Bool := decide (0 ≤ x) && decide (x ≤ 1000)
theorem okB_iff {x : Int} : okB x = true ↔ 0 ≤ x ∧ x ≤ 1000 := by simp [okB]
theorem okB_no {x : Int} : okB x = false ↔ x < 0 ∨ 1000 < x := by
  rw [← Bool.not_eq_true, okB_iff]; omega

theorem ints_l (a b : List Int) (hl : a.length = b.length) (hb : a.length ≤ 9223372036854775807) : ∀ (d i : Nat), a.length - i = d → i ≤ a.length → Ev (fun q => signalboxref1_Ints.l0 q a b i) (decide (a.drop i = b.drop i))
  | 0, i, hd, hi => by
    refine Ev.step (fun q => by simp only [signalboxref1_Ints.l0]; rfl) ?_
    exact neg (by omega) (somec (by rw [drop_end (by omega), drop_end (by omega)]; simp))
  | d + 1, i, hd, hi => by
    refine Ev.step (fun q => by simp only [signalboxref1_Ints.l0]; rfl) ?_
    refine pos (by omega) (pos (by omega) (pos (by omega) ?_))
    rw [drop_cons (l := a) (by omega), drop_cons (l := b) (by omega)]
    refine ite (fun h => ?_) (fun h => ?_)
    · rw [w64 (by omega) (by omega), show ((i : Int) + 1) = ((i + 1 : Nat) : Int) by omega]
      refine eqr (ints_l a b hl hb d (i + 1) (by omega) (by omega)) ?_
      rw [h]; simp
    · refine somec ?_
      simp [h]
theorem ints (a b : List Int) (hb : a.length ≤ 9223372036854775807) : Ev (fun q => signalboxref1_Ints.f q a b) (decide (a = b)) := by
  unfold signalboxref1_Ints.f
  refine ite (fun h => ?_) (fun h => somec ?_)
  · have := ints_l a b (by omega) hb a.length 0 (by omega) (by omega)
    simpa using this
  · have : a ≠ b := fun e => h (by rw [e])
    simp [this]
theorem may_l (l : List Int) (hb : l.length ≤ 9223372036854775807) : ∀ (d i : Nat), l.length - i = d → i ≤ l.length → Ev (fun q => units_may.l0 q l (l.length : Int) i) ((l.drop i).all okB)
  | 0, i, hd, hi => by
    refine Ev.step (fun q => by simp only [units_may.l0]; rfl) ?_
    exact neg (by omega) (somec (by rw [drop_end (by omega)]; rfl))
  | d + 1, i, hd, hi => by
    refine Ev.step (fun q => by simp only [units_may.l0]; rfl) ?_
    refine pos (by omega) (pos (by omega) (pos (by omega) ?_))
    rw [all_drop okB (by omega)]
    refine ite (fun h => somec ?_) (fun h => ite (fun h2 => somec ?_) (fun h2 => ?_))
    · rw [okB_no.2 (.inl h)]; rfl
    · rw [okB_no.2 (.inr h2)]; rfl
    · rw [w64 (by omega) (by omega), show ((i : Int) + 1) = ((i + 1 : Nat) : Int) by omega, okB_iff.2 (by omega), Bool.true_and]
      exact may_l l hb d (i + 1) (by omega) (by omega)
theorem may (l : List Int) (hb : l.length ≤ 9223372036854775807) : Ev (fun q => units_may.f q l) (l.all okB) := by
  unfold units_may.f
  have := may_l l hb l.length 0 (by omega) (by omega)
  simpa using this
/-- Units of so many classes. -/
def isU (l : List Int) (n : Int) : Bool := decide ((l.length : Int) = n) && l.all okB
theorem isU_iff {l : List Int} {n : Int} : isU l n = true ↔ (l.length : Int) = n ∧ ∀ x ∈ l, 0 ≤ x ∧ x ≤ 1000 := by
  simp only [isU, Bool.and_eq_true, decide_eq_true_eq, List.all_eq_true, okB_iff]
theorem is_ (l : List Int) (n : Int) (hb : l.length ≤ 9223372036854775807) : Ev (fun q => units_Is.f q l n) (isU l n) := by
  unfold units_Is.f isU
  refine ite (fun h => ?_) (fun h => somec ?_)
  · refine bnd (may l hb) (somec ?_)
    simp [h]
  · simp [h]
/-- Each at most the other one. -/
def fitsU (a b : List Int) : Bool := (a.zip b).all (fun x => decide (x.1 ≤ x.2)) && decide (a.length = b.length)
theorem fits (a b : List Int) : units_Fits.f a b = some (fitsU a b) := rfl
theorem fitsU_iff {a b : List Int} : fitsU a b = true ↔ a.length = b.length ∧ ∀ i : Nat, i < a.length → rd a i ≤ rd b i := by
  unfold fitsU
  rw [Bool.and_eq_true, decide_eq_true_eq, List.all_eq_true]
  constructor
  · rintro ⟨h1, h2⟩
    refine ⟨h2, fun i hi => ?_⟩
    have hz : i < (a.zip b).length := by rw [List.length_zip]; omega
    have := h1 (a.zip b)[i] (List.getElem_mem hz)
    rw [rd_at hi, rd_at (by omega)]
    simpa using this
  · rintro ⟨h2, h1⟩
    refine ⟨fun x hx => ?_, h2⟩
    obtain ⟨i, hi, rfl⟩ := List.getElem_of_mem hx
    rw [List.length_zip] at hi
    have := h1 i (by omega)
    rw [rd_at (by omega), rd_at (by omega)] at this
    simpa using this
/-! ### all of some numbers, one by one -/
def allN (p : Nat → Bool) : Nat → Nat → Bool
  | 0, _ => true
  | d + 1, i => p i && allN p d (i + 1)
theorem allN_iff {p : Nat → Bool} : ∀ {d i : Nat}, allN p d i = true ↔ ∀ j, i ≤ j → j < i + d → p j = true
  | 0, i => by simp only [allN, true_iff]; intro j h1 h2; omega
  | d + 1, i => by
    simp only [allN, Bool.and_eq_true, allN_iff]
    constructor
    · rintro ⟨h1, h2⟩ j h3 h4
      by_cases e : j = i
      · subst e; exact h1
      · exact h2 j (by omega) (by omega)
    · intro h
      exact ⟨h i (by omega) (by omega), fun j h1 h2 => h j (by omega) (by omega)⟩
theorem rowlen {l : List (List Int)} {b : Nat} (h : ∀ x ∈ l, x.length ≤ b) (i : Int) : (rd_L1 l i).length ≤ b := by
  unfold rd_L1
  rw [List.getD_eq_getElem?_getD]
  cases e : l[i.toNat]? with
  | none => simp
  | some y => exact h y (List.mem_of_getElem? e)
/-! ### whether a state may be -/
def rowR (l1 l2 : List (List Int)) (n : Int) (i : Nat) : Bool := isU (rd_L1 l1 i) n && isU (rd_L1 l2 i) n
def headB (l0 : List Int) (l1 l2 : List (List Int)) : Bool := decide (l0.length ≤ 6) && (isU l0 l0.length && (decide (l1.length = l2.length) && decide (l1.length ≤ 32)))
def mayB (l0 : List Int) (l1 l2 : List (List Int)) : Bool := headB l0 l1 l2 && allN (rowR l1 l2 l0.length) l1.length 0
theorem headB_iff {l0 : List Int} {l1 l2 : List (List Int)} : headB l0 l1 l2 = true ↔ l0.length ≤ 6 ∧ isU l0 l0.length = true ∧ l1.length = l2.length ∧ l1.length ≤ 32 := by
  simp only [headB, Bool.and_eq_true, decide_eq_true_eq]
theorem hmay_l (l1 l2 : List (List Int)) (n : Int) (hb1 : ∀ x ∈ l1, x.length ≤ 9223372036854775807) (hb2 : ∀ x ∈ l2, x.length ≤ 9223372036854775807) (he : l1.length = l2.length) (h32 : l1.length ≤ 32) : ∀ (d i : Nat), l1.length - i = d → i ≤ l1.length → Ev (fun q => holt_May.l0 q l1 l2 n (l1.length : Int) i) (allN (rowR l1 l2 n) d i)
  | 0, i, hd, hi => by
    refine Ev.step (fun q => by simp only [holt_May.l0]; rfl) ?_
    exact neg (by omega) (somec rfl)
  | d + 1, i, hd, hi => by
    refine Ev.step (fun q => by simp only [holt_May.l0]; rfl) ?_
    refine pos (by omega) (pos (by omega) (pos (by omega) ?_))
    unfold allN rowR
    refine bnd (is_ _ _ (rowlen hb1 _)) (ite (fun h => ?_) (fun h => ?_))
    · refine pos (by omega) (bnd (is_ _ _ (rowlen hb2 _)) (ite (fun h2 => ?_) (fun h2 => ?_)))
      · rw [w64 (by omega) (by omega), show ((i : Int) + 1) = ((i + 1 : Nat) : Int) by omega, h, h2]
        exact hmay_l l1 l2 n hb1 hb2 he h32 d (i + 1) (by omega) (by omega)
      · exact somec (by rw [Bool.eq_false_iff.2 h2]; simp)
    · exact somec (by rw [Bool.eq_false_iff.2 h]; simp)
theorem hmay_no (l1 l2 : List (List Int)) (n : Int) : Ev (fun q => holt_May.j0 q l1 l2 n true) false := by
  refine Ev.step (fun q => by simp only [holt_May.j0]; rfl) ?_
  exact pos trivial (somec rfl)
theorem hmay (l0 : List Int) (l1 l2 : List (List Int)) (hb0 : l0.length ≤ 9223372036854775807) (hb1 : ∀ x ∈ l1, x.length ≤ 9223372036854775807) (hb2 : ∀ x ∈ l2, x.length ≤ 9223372036854775807) : Ev (fun q => holt_May.f q l0 l1 l2) (mayB l0 l1 l2) := by
  unfold holt_May.f mayB headB
  refine ite (fun h => eqr (hmay_no _ _ _) ?_) (fun h => bnd (is_ l0 _ hb0) (ite (fun h2 => ite (fun h3 => ?_) (fun h3 => eqr (hmay_no _ _ _) ?_)) (fun h2 => eqr (hmay_no _ _ _) ?_)))
  · rw [decide_eq_false (by omega)]; rfl
  · by_cases h4 : l1.length ≤ 32
    · rw [decide_eq_false (by omega)]
      refine Ev.step (fun q => by simp only [holt_May.j0]; rfl) ?_
      refine neg (by simp) ?_
      rw [decide_eq_true (show l0.length ≤ 6 by omega), h2, decide_eq_true (show l1.length = l2.length by omega), decide_eq_true h4]
      exact eqr (hmay_l l1 l2 _ hb1 hb2 (by omega) h4 l1.length 0 (by omega) (by omega)) (by simp)
    · rw [decide_eq_true (by omega)]
      exact eqr (hmay_no _ _ _) (by rw [decide_eq_false h4]; simp)
  · rw [decide_eq_false (show ¬ l1.length = l2.length by omega)]; simp
  · rw [Bool.eq_false_iff.2 h2]; simp
/-! ### .. the reference's -/
/-- What a state's yes says. -/
theorem mayB_ok {l0 : List Int} {l1 l2 : List (List Int)} (h : mayB l0 l1 l2 = true) : holt_Ok l0 l1 l2 := by
  unfold mayB at h
  rw [Bool.and_eq_true, headB_iff, allN_iff] at h
  obtain ⟨⟨h1, h2, h3, h4⟩, h5⟩ := h
  have num : ∀ {l : List Int} {n : Int}, isU l n = true → (l.length : Int) = n ∧ ∀ j : Nat, j < l.length → 0 ≤ rd l j ∧ rd l j ≤ 1000 := by
    intro l n k
    rw [isU_iff] at k
    exact ⟨k.1, fun j hj => k.2 _ (rd_mem hj)⟩
  refine ⟨h1, (num h2).2, h3, h4, fun i hi => ?_, fun i hi => ?_⟩
  · have k := h5 i (by omega) (by omega)
    unfold rowR at k
    rw [Bool.and_eq_true] at k
    have := num k.1
    exact ⟨by omega, fun j hj => this.2 j (by omega)⟩
  · have k := h5 i (by omega) (by omega)
    unfold rowR at k
    rw [Bool.and_eq_true] at k
    have := num k.2
    exact ⟨by omega, fun j hj => this.2 j (by omega)⟩
/-! ### the reference's steps -/
theorem has_l (l : List Int) (x : Int) (hb : l.length ≤ 9223372036854775807) : ∀ (d i : Nat), l.length - i = d → i ≤ l.length → Ev (fun q => signalboxref1_Has.l0 q l x i) (decide (x ∈ l.drop i))
  | 0, i, hd, hi => by
    refine Ev.step (fun q => by simp only [signalboxref1_Has.l0]; rfl) ?_
    exact neg (by omega) (somec (by rw [drop_end (by omega)]; simp))
  | d + 1, i, hd, hi => by
    refine Ev.step (fun q => by simp only [signalboxref1_Has.l0]; rfl) ?_
    refine pos (by omega) (pos (by omega) ?_)
    rw [drop_cons (by omega)]
    refine ite (fun h => somec ?_) (fun h => ?_)
    · rw [decide_eq_true]; rw [h]; exact List.mem_cons_self
    · rw [w64 (by omega) (by omega), show ((i : Int) + 1) = ((i + 1 : Nat) : Int) by omega]
      refine eqr (has_l l x hb d (i + 1) (by omega) (by omega)) ?_
      have : ¬ x = rd l i := fun e => h e.symm
      rw [decide_eq_decide, List.mem_cons]
      exact ⟨.inr, fun q => q.resolve_left this⟩
theorem has (l : List Int) (x : Int) (hb : l.length ≤ 9223372036854775807) : Ev (fun q => signalboxref1_Has.f q l x) (decide (x ∈ l)) := by
  unfold signalboxref1_Has.f
  have := has_l l x hb l.length 0 (by omega) (by omega)
  simpa using this
/-! ### 'small' answers; what, does not matter -/
theorem awake : Ev (fun k => signalboxlaw15_awake.f k) true := Ev.of signalboxlaw15_awake.mono (k := 20) (by decide +kernel)
end Go.Proofs.Ytdbcmmckjlbffaa.HoltOKit
