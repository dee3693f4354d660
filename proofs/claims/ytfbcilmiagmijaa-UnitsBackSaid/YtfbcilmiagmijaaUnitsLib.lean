/-
  What the printed functions of units (and of their reference) come to, as plain lists.
-/
import Derived.Test.YtfbcilmiagmijaaPUnitsx1
import Derived.Test.YtfbcilmiagmijaaPUnitsx4
import Derived.Test.YtfbcilmiagmijaaPUnitsx5
import Derived.Test.YtfbcilmiagmijaaPUnitsx6
import Derived.Test.YtfbcilmiagmijaaPUnitsx7
import Derived.Test.YtfbcilmiagmijaaPUnitsx8
import Derived.Test.YtfbcilmiagmijaaPUnitsx9
import Derived.Test.YtfbcilmiagmijaaLists
namespace Go.Proofs.Ytfbcilmiagmijaa.UnitsKit
open Go.RowKit Go.Proofs.Ytfbcilmiagmijaa.PUnits Go.Proofs.Ytfbcilmiagmijaa.EvKit Go.Proofs.YtfbcilmiagmijaaW.PrintWords Go.Proofs.YtfbcilmiagmijaaW.PrintLast

def okB (x : Int) : Bool := decide (0 ≤ x) && decide (x ≤ 1000)
theorem okB_iff {x : Int} : okB x = true ↔ 0 ≤ x ∧ x ≤ 1000 := by simp [okB]
theorem okB_no {x : Int} : okB x = false ↔ x < 0 ∨ 1000 < x := by
  rw [← Bool.not_eq_true, okB_iff]; omega

theorem ints_l (a b : List Int) (hl : a.length = b.length) (hb : a.length ≤ 9000000000000000000) : ∀ (d i : Nat), a.length - i = d → i ≤ a.length → Ev (fun q => signalboxref1_Ints.l0 q a b i) (decide (a.drop i = b.drop i))
  | 0, i, hd, hi => by
    refine Ev.step (fun q => by simp only [signalboxref1_Ints.l0]; rfl) ?_
    exact neg (by omega) (somec (by rw [drop_end (by omega), drop_end (by omega)]; simp))
  | d + 1, i, hd, hi => by
    refine Ev.step (fun q => by simp only [signalboxref1_Ints.l0]; rfl) ?_
    refine pos (by omega) (pos (by omega) (pos (by omega) ?_))
    rw [drop_cons (l := a) (by omega), drop_cons (l := b) (by omega)]
    refine ite (fun h => ?_) (fun h => ?_)
    · rw [w64 (by omega) (by omega), show ((i : Int) + 1) = ((i + 1 : Nat) : Int) by omega]
      refine eqr (ints_l a b hl hb d (i + 1) (by omega) (by omega)) ?_
      rw [h]; simp
    · refine somec ?_
      simp [h]
theorem ints (a b : List Int) (hb : a.length ≤ 9000000000000000000) : Ev (fun q => signalboxref1_Ints.f q a b) (decide (a = b)) := by
  unfold signalboxref1_Ints.f
  refine ite (fun h => ?_) (fun h => somec ?_)
  · have := ints_l a b (by omega) hb a.length 0 (by omega) (by omega)
    simpa using this
  · have : a ≠ b := fun e => h (by rw [e])
    simp [this]
theorem may_l (l : List Int) (hb : l.length ≤ 9000000000000000000) : ∀ (d i : Nat), l.length - i = d → i ≤ l.length → Ev (fun q => units_may.l0 q l (l.length : Int) i) ((l.drop i).all okB)
  | 0, i, hd, hi => by
    refine Ev.step (fun q => by simp only [units_may.l0]; rfl) ?_
    exact neg (by omega) (somec (by rw [drop_end (by omega)]; rfl))
  | d + 1, i, hd, hi => by
    refine Ev.step (fun q => by simp only [units_may.l0]; rfl) ?_
    refine pos (by omega) (pos (by omega) (pos (by omega) ?_))
    rw [all_drop okB (by omega)]
    refine ite (fun h => somec ?_) (fun h => ite (fun h2 => somec ?_) (fun h2 => ?_))
    · rw [okB_no.2 (.inl h)]; rfl
    · rw [okB_no.2 (.inr h2)]; rfl
    · rw [w64 (by omega) (by omega), show ((i : Int) + 1) = ((i + 1 : Nat) : Int) by omega, okB_iff.2 (by omega), Bool.true_and]
      exact may_l l hb d (i + 1) (by omega) (by omega)
theorem may (l : List Int) (hb : l.length ≤ 9000000000000000000) : Ev (fun q => units_may.f q l) (l.all okB) := by
  unfold units_may.f
  have := may_l l hb l.length 0 (by omega) (by omega)
  simpa using this
/-- Units of so many classes. -/
def isU (l : List Int) (n : Int) : Bool := decide ((l.length : Int) = n) && l.all okB
theorem isU_iff {l : List Int} {n : Int} : isU l n = true ↔ (l.length : Int) = n ∧ ∀ x ∈ l, 0 ≤ x ∧ x ≤ 1000 := by
  simp only [isU, Bool.and_eq_true, decide_eq_true_eq, List.all_eq_true, okB_iff]
theorem is_ (l : List Int) (n : Int) (hb : l.length ≤ 9000000000000000000) : Ev (fun q => units_Is.f q l n) (isU l n) := by
  unfold units_Is.f isU
  refine ite (fun h => ?_) (fun h => somec ?_)
  · refine bnd (may l hb) (somec ?_)
    simp [h]
  · simp [h]
theorem usum_l (l : List Int) (hb : l.length ≤ 9000000000000000000) : ∀ (d i : Nat) (n : Int), l.length - i = d → i ≤ l.length → Ev (fun q => units_sum.l0 q n l (l.length : Int) i) (sumW n (l.drop i))
  | 0, i, n, hd, hi => by
    refine Ev.step (fun q => by simp only [units_sum.l0]; rfl) ?_
    exact neg (by omega) (somec (by rw [drop_end (by omega)]; rfl))
  | d + 1, i, n, hd, hi => by
    refine Ev.step (fun q => by simp only [units_sum.l0]; rfl) ?_
    refine pos (by omega) (pos (by omega) (pos (by omega) ?_))
    rw [drop_cons (by omega), sumW_cons, w64 (x := (i : Int) + 1) (by omega) (by omega), show ((i : Int) + 1) = ((i + 1 : Nat) : Int) by omega]
    exact usum_l l hb d (i + 1) _ (by omega) (by omega)
/-- The sum of units; of what is no units: 0. -/
def sumU (l : List Int) : Int := if l.all okB = true then sumW 0 l else 0
theorem sum (l : List Int) (hb : l.length ≤ 9000000000000000000) : Ev (fun q => units_Sum.f q l) (sumU l) := by
  unfold units_Sum.f sumU
  refine bnd (may l hb) (ite2 (fun h => ?_) (fun h => somec rfl))
  refine bnd (a := sumW 0 l) ?_ (somec rfl)
  unfold units_sum.f
  have := usum_l l hb l.length 0 0 (by omega) (by omega)
  simpa using this
theorem none_l (l : List Int) (hb : l.length ≤ 9000000000000000000) : ∀ (d i : Nat), l.length - i = d → i ≤ l.length → Ev (fun q => units_None.l0 q l (l.length : Int) i) ((l.drop i).all (fun x => decide (x = 0)))
  | 0, i, hd, hi => by
    refine Ev.step (fun q => by simp only [units_None.l0]; rfl) ?_
    exact neg (by omega) (somec (by rw [drop_end (by omega)]; rfl))
  | d + 1, i, hd, hi => by
    refine Ev.step (fun q => by simp only [units_None.l0]; rfl) ?_
    refine pos (by omega) (pos (by omega) (pos (by omega) ?_))
    rw [all_drop _ (by omega)]
    refine ite (fun h => ?_) (fun h => somec ?_)
    · rw [w64 (by omega) (by omega), show ((i : Int) + 1) = ((i + 1 : Nat) : Int) by omega, decide_eq_true h, Bool.true_and]
      exact none_l l hb d (i + 1) (by omega) (by omega)
    · rw [decide_eq_false h]; rfl
/-- None at all. -/
def noneU (l : List Int) : Bool := l.all (fun x => decide (x = 0))
theorem none_ (l : List Int) (hb : l.length ≤ 9000000000000000000) : Ev (fun q => units_None.f q l) (noneU l) := by
  unfold units_None.f noneU
  have := none_l l hb l.length 0 (by omega) (by omega)
  simpa using this
/-- So many noughts, if there are 1 to 6 classes. -/
def zeroU (n : Int) : List Int := if 1 ≤ n ∧ n ≤ 6 then List.replicate n.toNat 0 else []
theorem zero (n : Int) : units_Zero.f n = some (zeroU n) := by
  unfold units_Zero.f zeroU
  by_cases h : n < 1
  · rw [if_pos h, if_neg (by omega)]
  · by_cases h2 : n > 6
    · rw [if_neg h, if_pos h2, if_neg (by omega)]
    · rw [if_neg h, if_neg h2, if_pos (by omega), if_pos (by omega), if_pos (by omega)]
/-! ### the reference -/
theorem in_ (x a b : Int) : signalboxref1_in.f x a b = some (decide (a ≤ x) && decide (x ≤ b)) := by
  unfold signalboxref1_in.f
  by_cases h : x ≥ a
  · rw [if_pos h, decide_eq_true (show a ≤ x from h), Bool.true_and]
  · rw [if_neg h, decide_eq_false (show ¬ a ≤ x from h), Bool.false_and]
theorem ris_l (l : List Int) (hb : l.length ≤ 9000000000000000000) : ∀ (d i : Nat), l.length - i = d → i ≤ l.length → Ev (fun q => signalboxref1_Is.l0 q l i) ((l.drop i).all okB)
  | 0, i, hd, hi => by
    refine Ev.step (fun q => by simp only [signalboxref1_Is.l0]; rfl) ?_
    exact neg (by omega) (somec (by rw [drop_end (by omega)]; rfl))
  | d + 1, i, hd, hi => by
    refine Ev.step (fun q => by simp only [signalboxref1_Is.l0]; rfl) ?_
    refine pos (by omega) (pos (by omega) (bndc (in_ _ _ _) ?_))
    rw [all_drop okB (by omega)]
    refine ite (fun h => ?_) (fun h => somec ?_)
    · rw [w64 (by omega) (by omega), show ((i : Int) + 1) = ((i + 1 : Nat) : Int) by omega, show okB (rd l i) = true from h, Bool.true_and]
      exact ris_l l hb d (i + 1) (by omega) (by omega)
    · rw [show okB (rd l i) = false from Bool.eq_false_iff.2 h]; rfl
theorem ris (l : List Int) (n : Int) (hb : l.length ≤ 9000000000000000000) : Ev (fun q => signalboxref1_Is.f q l n) (isU l n) := by
  unfold signalboxref1_Is.f isU
  refine ite (fun h => ?_) (fun h => somec ?_)
  · have := ris_l l hb l.length 0 (by omega) (by omega)
    simpa [h] using this
  · simp [h]
theorem rnone_l (l : List Int) (hb : l.length ≤ 9000000000000000000) : ∀ (d i : Nat), l.length - i = d → i ≤ l.length → Ev (fun q => signalboxref1_None.l0 q l i) ((l.drop i).all (fun x => decide (x = 0)))
  | 0, i, hd, hi => by
    refine Ev.step (fun q => by simp only [signalboxref1_None.l0]; rfl) ?_
    exact neg (by omega) (somec (by rw [drop_end (by omega)]; rfl))
  | d + 1, i, hd, hi => by
    refine Ev.step (fun q => by simp only [signalboxref1_None.l0]; rfl) ?_
    refine pos (by omega) (pos (by omega) ?_)
    rw [all_drop _ (by omega)]
    refine ite (fun h => ?_) (fun h => somec ?_)
    · rw [w64 (by omega) (by omega), show ((i : Int) + 1) = ((i + 1 : Nat) : Int) by omega, decide_eq_true h, Bool.true_and]
      exact rnone_l l hb d (i + 1) (by omega) (by omega)
    · rw [decide_eq_false h]; rfl
theorem rnone (l : List Int) (hb : l.length ≤ 9000000000000000000) : Ev (fun q => signalboxref1_None.f q l) (noneU l) := by
  unfold signalboxref1_None.f noneU
  have := rnone_l l hb l.length 0 (by omega) (by omega)
  simpa using this
theorem rsum_l (l : List Int) (hb : l.length ≤ 9000000000000000000) : ∀ (d i : Nat) (n : Int), l.length - i = d → i ≤ l.length → Ev (fun q => signalboxref1_Sum.l0 q l n i) (sumW n (l.drop i))
  | 0, i, n, hd, hi => by
    refine Ev.step (fun q => by simp only [signalboxref1_Sum.l0]; rfl) ?_
    exact neg (by omega) (somec (by rw [drop_end (by omega)]; rfl))
  | d + 1, i, n, hd, hi => by
    refine Ev.step (fun q => by simp only [signalboxref1_Sum.l0]; rfl) ?_
    refine pos (by omega) (pos (by omega) ?_)
    rw [drop_cons (by omega), sumW_cons, w64 (x := (i : Int) + 1) (by omega) (by omega), show ((i : Int) + 1) = ((i + 1 : Nat) : Int) by omega]
    exact rsum_l l hb d (i + 1) _ (by omega) (by omega)
theorem rsum (l : List Int) (hb : l.length ≤ 9000000000000000000) : Ev (fun q => signalboxref1_Sum.f q l) (sumU l) := by
  unfold signalboxref1_Sum.f sumU
  have e : isU l (l.length : Int) = l.all okB := by simp [isU]
  refine bnd (eqr (ris l _ hb) e) (ite2 (fun h => ?_) (fun h => somec rfl))
  have := rsum_l l hb l.length 0 0 (by omega) (by omega)
  simpa using this
theorem rzero (n : Int) : signalboxref1_Zero.f n = some (zeroU n) := by
  unfold signalboxref1_Zero.f zeroU
  rw [in_, Option.bind_some]
  by_cases h : 1 ≤ n ∧ n ≤ 6
  · rw [if_pos (by simp [h]), if_pos (by omega), if_pos (by omega), if_pos h]
  · rw [if_neg (by simp; omega), if_neg h]
/-- Each at most the other one. -/
def fitsU (a b : List Int) : Bool := (a.zip b).all (fun x => decide (x.1 ≤ x.2)) && decide (a.length = b.length)
theorem fits (a b : List Int) : units_Fits.f a b = some (fitsU a b) := rfl
theorem fitsU_iff {a b : List Int} : fitsU a b = true ↔ a.length = b.length ∧ ∀ i : Nat, i < a.length → rd a i ≤ rd b i := by
  unfold fitsU
  rw [Bool.and_eq_true, decide_eq_true_eq, List.all_eq_true]
  constructor
  · rintro ⟨h1, h2⟩
    refine ⟨h2, fun i hi => ?_⟩
    have hz : i < (a.zip b).length := by rw [List.length_zip]; omega
    have := h1 (a.zip b)[i] (List.getElem_mem hz)
    rw [rd_at hi, rd_at (by omega)]
    simpa using this
  · rintro ⟨h2, h1⟩
    refine ⟨fun x hx => ?_, h2⟩
    obtain ⟨i, hi, rfl⟩ := List.getElem_of_mem hx
    rw [List.length_zip] at hi
    have := h1 i (by omega)
    rw [rd_at (by omega), rd_at (by omega)] at this
    simpa using this
theorem rfits_l (a b : List Int) (hl : a.length = b.length) (hb : a.length ≤ 9000000000000000000) : ∀ (d i : Nat), a.length - i = d → i ≤ a.length → Ev (fun q => signalboxref1_Fits.l0 q a b i) (((a.drop i).zip (b.drop i)).all (fun x => decide (x.1 ≤ x.2)))
  | 0, i, hd, hi => by
    refine Ev.step (fun q => by simp only [signalboxref1_Fits.l0]; rfl) ?_
    exact neg (by omega) (somec (by rw [drop_end (by omega)]; rfl))
  | d + 1, i, hd, hi => by
    refine Ev.step (fun q => by simp only [signalboxref1_Fits.l0]; rfl) ?_
    refine pos (by omega) (pos (by omega) (pos (by omega) ?_))
    rw [zip_drop (by omega) (by omega), List.all_cons]
    refine ite (fun h => somec ?_) (fun h => ?_)
    · rw [decide_eq_false (by simp only; omega)]; rfl
    · rw [w64 (by omega) (by omega), show ((i : Int) + 1) = ((i + 1 : Nat) : Int) by omega, decide_eq_true (by simp only; omega), Bool.true_and]
      exact rfits_l a b hl hb d (i + 1) (by omega) (by omega)
theorem rfits (a b : List Int) (hb : a.length ≤ 9000000000000000000) : Ev (fun q => signalboxref1_Fits.f q a b) (fitsU a b) := by
  unfold signalboxref1_Fits.f fitsU
  refine ite (fun h => ?_) (fun h => somec ?_)
  · have := rfits_l a b (by omega) hb a.length 0 (by omega) (by omega)
    rw [decide_eq_true (by omega), Bool.and_true]
    simpa using this
  · rw [decide_eq_false (by omega), Bool.and_false]
/-! ### sums and differences -/
def okG (g : Int → Int → Int) (x : Int × Int) : Bool := (okB x.1 && okB x.2) && okB (g x.1 x.2)
def outG (g : Int → Int → Int) (a b : List Int) : List Int := (a.zip b).map (fun x => g x.1 x.2)
def opU (g : Int → Int → Int) (a b : List Int) : List Int × Bool := if a.length = b.length then (if (a.zip b).all (okG g) = true then (outG g a b, true) else ([], false)) else ([], false)
def plusU := opU (fun x y => x + y)
def lessU := opU (fun x y => x - y)
theorem plus (a b : List Int) (h : a.length < 17592186044416) : units_Plus.f a b = some (plusU a b) := by
  unfold units_Plus.f; rw [if_pos h]; rfl
theorem less (a b : List Int) (h : a.length < 17592186044416) : units_Less.f a b = some (lessU a b) := by
  unfold units_Less.f; rw [if_pos h]; rfl
theorem all_ok (g : Int → Int → Int) : ∀ (a b : List Int), a.length = b.length → (a.zip b).all (okG g) = ((a.all okB && b.all okB) && (outG g a b).all okB)
  | [], [], _ => rfl
  | [], _ :: _, h => by simp at h
  | _ :: _, [], h => by simp at h
  | x :: a, y :: b, h => by
    have ih := all_ok g a b (by simpa using h)
    simp only [outG, List.zip_cons_cons, List.all_cons, List.map_cons] at ih ⊢
    rw [ih]
    simp only [okG]
    cases okB x <;> cases okB y <;> cases okB (g x y) <;> cases a.all okB <;> cases b.all okB <;> rfl
theorem set_grow (p : List Int) (m : Nat) (v : Int) : (p ++ List.replicate (m + 1) 0).set p.length v = (p ++ [v]) ++ List.replicate m 0 := by
  rw [List.set_append_right _ _ (by omega)]; simp [List.replicate_succ]
def part (g : Int → Int → Int) (a b : List Int) (i : Nat) : List Int := ((a.zip b).take i).map (fun x => g x.1 x.2)
theorem part_len {g : Int → Int → Int} {a b : List Int} {i : Nat} (hl : a.length = b.length) (hi : i ≤ a.length) : (part g a b i).length = i := by
  simp [part, hl]; omega
theorem part_step {g : Int → Int → Int} {a b : List Int} {i : Nat} (hl : a.length = b.length) (hi : i < a.length) : part g a b (i + 1) = part g a b i ++ [g (rd a i) (rd b i)] := by
  have hz : i < (a.zip b).length := by rw [List.length_zip]; omega
  unfold part
  rw [List.take_succ_eq_append_getElem hz, List.map_append, rd_at hi, rd_at (by omega)]
  simp
theorem part_set {g : Int → Int → Int} {a b : List Int} {i : Nat} (hl : a.length = b.length) (hi : i < a.length) : (part g a b i ++ List.replicate (a.length - i) 0).set (i : Int).toNat (g (rd a i) (rd b i)) = part g a b (i + 1) ++ List.replicate (a.length - (i + 1)) 0 := by
  have h := set_grow (part g a b i) (a.length - (i + 1)) (g (rd a i) (rd b i))
  rw [part_len hl (by omega), show a.length - (i + 1) + 1 = a.length - i by omega] at h
  rw [part_step hl hi, Int.toNat_natCast, h]
theorem part_all {g : Int → Int → Int} {a b : List Int} (hl : a.length = b.length) : part g a b a.length = outG g a b := by
  unfold part outG
  rw [List.take_of_length_le (by rw [List.length_zip]; omega)]
theorem rplus_l (a b : List Int) (hl : a.length = b.length) (hb : a.length ≤ 1000) (ha : a.all okB = true) (hc : b.all okB = true) : ∀ (d i : Nat), a.length - i = d → i ≤ a.length →
    Ev (fun q => signalboxref1_Plus.l0 q a b (part (fun x y => x + y) a b i ++ List.replicate (a.length - i) 0) i) (if (outG (fun x y => x + y) a b).all okB = true then (outG (fun x y => x + y) a b, true) else ([], false))
  | 0, i, hd, hi => by
    have e : i = a.length := by omega
    subst e
    rw [part_all hl, Nat.sub_self, List.replicate_zero, List.append_nil]
    have hn : (outG (fun x y => x + y) a b).length = a.length := by rw [← part_all hl, part_len hl (by omega)]
    refine Ev.step (fun q => by simp only [signalboxref1_Plus.l0]; rfl) ?_
    refine neg (by omega) ?_
    refine bnd (eqr (ris _ _ (by omega)) (show _ = (outG (fun x y => x + y) a b).all okB by simp [isU])) (ite2 (fun _ => somec rfl) (fun _ => somec rfl))
  | d + 1, i, hd, hi => by
    refine Ev.step (fun q => by simp only [signalboxref1_Plus.l0]; rfl) ?_
    have hn : (part (fun x y => x + y) a b i ++ List.replicate (a.length - i) 0).length = a.length := by rw [List.length_append, part_len hl (by omega), List.length_replicate]; omega
    refine pos (by omega) (pos (by omega) (pos (by omega) (pos (by omega) ?_)))
    have h1 := okB_iff.1 (List.all_eq_true.1 ha _ (rd_mem (l := a) (i := i) (by omega)))
    have h2 := okB_iff.1 (List.all_eq_true.1 hc _ (rd_mem (l := b) (i := i) (by omega)))
    rw [w64 (x := rd a i + rd b i) (by omega) (by omega), part_set (g := fun x y => x + y) hl (by omega), w64 (by omega) (by omega), show ((i : Int) + 1) = ((i + 1 : Nat) : Int) by omega]
    exact rplus_l a b hl hb ha hc d (i + 1) (by omega) (by omega)
theorem rless_l (a b : List Int) (hl : a.length = b.length) (hb : a.length ≤ 1000) (ha : a.all okB = true) (hc : b.all okB = true) : ∀ (d i : Nat), a.length - i = d → i ≤ a.length →
    Ev (fun q => signalboxref1_Less.l0 q a b (part (fun x y => x - y) a b i ++ List.replicate (a.length - i) 0) i) (if (outG (fun x y => x - y) a b).all okB = true then (outG (fun x y => x - y) a b, true) else ([], false))
  | 0, i, hd, hi => by
    have e : i = a.length := by omega
    subst e
    rw [part_all hl, Nat.sub_self, List.replicate_zero, List.append_nil]
    have hn : (outG (fun x y => x - y) a b).length = a.length := by rw [← part_all hl, part_len hl (by omega)]
    refine Ev.step (fun q => by simp only [signalboxref1_Less.l0]; rfl) ?_
    refine neg (by omega) ?_
    refine bnd (eqr (ris _ _ (by omega)) (show _ = (outG (fun x y => x - y) a b).all okB by simp [isU])) (ite2 (fun _ => somec rfl) (fun _ => somec rfl))
  | d + 1, i, hd, hi => by
    refine Ev.step (fun q => by simp only [signalboxref1_Less.l0]; rfl) ?_
    have hn : (part (fun x y => x - y) a b i ++ List.replicate (a.length - i) 0).length = a.length := by rw [List.length_append, part_len hl (by omega), List.length_replicate]; omega
    refine pos (by omega) (pos (by omega) (pos (by omega) (pos (by omega) ?_)))
    have h1 := okB_iff.1 (List.all_eq_true.1 ha _ (rd_mem (l := a) (i := i) (by omega)))
    have h2 := okB_iff.1 (List.all_eq_true.1 hc _ (rd_mem (l := b) (i := i) (by omega)))
    rw [w64 (x := rd a i - rd b i) (by omega) (by omega), part_set (g := fun x y => x - y) hl (by omega), w64 (by omega) (by omega), show ((i : Int) + 1) = ((i + 1 : Nat) : Int) by omega]
    exact rless_l a b hl hb ha hc d (i + 1) (by omega) (by omega)
theorem rplus (a b : List Int) (hb : a.length ≤ 1000) (hb2 : b.length ≤ 1000) : Ev (fun q => signalboxref1_Plus.f q a b) (plusU a b) := by
  unfold signalboxref1_Plus.f plusU opU
  have out : ∀ r, r = (([] : List Int), false) → Ev (fun q => signalboxref1_Plus.j0 q a b true) r := by
    rintro r rfl
    refine Ev.step (fun q => by simp only [signalboxref1_Plus.j0]; rfl) ?_
    exact pos trivial (somec rfl)
  refine bnd (ris a _ (by omega)) (ite (fun h => ?_) (fun h => ?_))
  · refine bnd (ris b _ (by omega)) ?_
    have h1 := isU_iff.1 h
    have hl : a.length = b.length := by omega
    have ha : a.all okB = true := by simpa [isU, hl] using h
    rw [if_pos hl, all_ok _ a b hl, ha, Bool.true_and]
    by_cases h2 : isU b (a.length : Int) = true
    · have hc : b.all okB = true := by simpa [isU, hl] using h2
      rw [h2, hc, Bool.true_and]
      refine Ev.step (fun q => by simp only [signalboxref1_Plus.j0]; rfl) ?_
      refine neg (by simp) (pos (by omega) (pos (by omega) ?_))
      have := rplus_l a b hl hb ha hc a.length 0 (by omega) (by omega)
      simpa [part] using this
    · have hc : b.all okB = false := by simpa [isU, hl] using h2
      rw [Bool.eq_false_iff.2 h2, hc, Bool.false_and]
      exact out _ (by simp)
  · refine out _ ?_
    by_cases hl : a.length = b.length
    · have ha : a.all okB = false := by simpa [isU, hl] using h
      rw [if_pos hl, all_ok _ a b hl, ha]; rfl
    · rw [if_neg hl]
theorem rless (a b : List Int) (hb : a.length ≤ 1000) (hb2 : b.length ≤ 1000) : Ev (fun q => signalboxref1_Less.f q a b) (lessU a b) := by
  unfold signalboxref1_Less.f lessU opU
  have out : ∀ r, r = (([] : List Int), false) → Ev (fun q => signalboxref1_Less.j0 q a b true) r := by
    rintro r rfl
    refine Ev.step (fun q => by simp only [signalboxref1_Less.j0]; rfl) ?_
    exact pos trivial (somec rfl)
  refine bnd (ris a _ (by omega)) (ite (fun h => ?_) (fun h => ?_))
  · refine bnd (ris b _ (by omega)) ?_
    have h1 := isU_iff.1 h
    have hl : a.length = b.length := by omega
    have ha : a.all okB = true := by simpa [isU, hl] using h
    rw [if_pos hl, all_ok _ a b hl, ha, Bool.true_and]
    by_cases h2 : isU b (a.length : Int) = true
    · have hc : b.all okB = true := by simpa [isU, hl] using h2
      rw [h2, hc, Bool.true_and]
      refine Ev.step (fun q => by simp only [signalboxref1_Less.j0]; rfl) ?_
      refine neg (by simp) (pos (by omega) (pos (by omega) ?_))
      have := rless_l a b hl hb ha hc a.length 0 (by omega) (by omega)
      simpa [part] using this
    · have hc : b.all okB = false := by simpa [isU, hl] using h2
      rw [Bool.eq_false_iff.2 h2, hc, Bool.false_and]
      exact out _ (by simp)
  · refine out _ ?_
    by_cases hl : a.length = b.length
    · have ha : a.all okB = false := by simpa [isU, hl] using h
      rw [if_pos hl, all_ok _ a b hl, ha]; rfl
    · rw [if_neg hl]
theorem awake : Ev (fun k => signalboxlaw13_awake.f k) true := Ev.of signalboxlaw13_awake.mono (k := 10) (by decide +kernel)
end Go.Proofs.Ytfbcilmiagmijaa.UnitsKit
