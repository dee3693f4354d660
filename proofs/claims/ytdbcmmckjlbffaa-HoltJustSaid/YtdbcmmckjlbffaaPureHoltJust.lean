/-
  Reduction leaves just the processes that are in some deadlocked set, none wrongly and none missed: the pure statement of HoltJust.
-/
import Derived.Test.YtdbcmmckjlbffaaPHoltx11
import Derived.Test.YtdbcmmckjlbffaaHoltStLib
import Derived.Test.YtdbcmmckjlbffaaHoltThLib
namespace Go.Proofs.Ytdbcmmckjlbffaa.Pure
open Go.RowKit Go.Proofs.Ytdbcmmckjlbffaa.PHolt Go.Proofs.Ytdbcmmckjlbffaa.EvKit Go.Proofs.Ytdbcmmckjlbffaa.HoltKit Go.Proofs.YtdbcmmckjlbffaaW.PrintWords Go.Proofs.YtdbcmmckjlbffaaW.PrintLast Go.Proofs.YtdbcmmckjlbffaaW.PrintMore
set_option linter.unusedVariables false
set_option linter.unusedSimpArgs false

namespace JustKit
theorem bit_ : ∀ m : Nat, m < 128 → ∀ i : Nat, i < 7 → (Go.bits .and .i64 (shr .i64 (m : Int) (i : Int)) 1 = 1 ↔ m.testBit i = true) := by decide +kernel
theorem shl_ : ∀ n : Nat, n < 8 → shl .i64 1 (n : Int) = ((2 ^ n : Nat) : Int) := by decide +kernel
theorem mask_ (p : Nat → Bool) : ∀ n : Nat, ∃ m : Nat, m < 2 ^ n ∧ ∀ i, i < n → m.testBit i = p i
  | 0 => ⟨0, by simp, fun i hi => absurd hi (Nat.not_lt_zero i)⟩
  | n + 1 => by
    obtain ⟨m, hm, h⟩ := mask_ p n
    cases e : p n with
    | true =>
      refine ⟨2 ^ n + m, by rw [Nat.pow_succ]; omega, fun i hi => ?_⟩
      by_cases q : i = n
      · subst q
        rw [Nat.testBit_two_pow_add_eq, Nat.testBit_lt_two_pow hm, e]; rfl
      · rw [Nat.testBit_two_pow_add_gt (by omega), h i (by omega)]
    | false =>
      refine ⟨m, by rw [Nat.pow_succ]; omega, fun i hi => ?_⟩
      by_cases q : i = n
      · subst q
        rw [Nat.testBit_lt_two_pow hm, e]
      · exact h i (by omega)
def setM (m n : Nat) : List Nat := (List.range n).filter (fun j => m.testBit j)
theorem mem_setM {m n j : Nat} : j ∈ setM m n ↔ j < n ∧ m.testBit j = true := by simp [setM]
theorem left_congr {L L' : List Nat} {i d : Nat} (h : ∀ j, i ≤ j → j < i + d → (j ∈ L ↔ j ∈ L')) : left L i d = left L' i d := by
  unfold left
  congr 1
  refine List.filter_congr (fun j hj => ?_)
  obtain ⟨h1, h2⟩ := List.mem_range'_1.1 hj
  exact decide_eq_decide.2 (h j h1 h2)
def mark : List Bool → List Int → List Bool
  | g, [] => g
  | g, x :: s => mark (g.set x.toNat true) s
theorem mark_len : ∀ (s : List Int) (g : List Bool), (mark g s).length = g.length
  | [], _ => rfl
  | x :: s, g => by rw [mark, mark_len s, List.length_set]
theorem mark_rd : ∀ (s : List Int) (g : List Bool) (i : Nat), i < g.length → (∀ x ∈ s, 0 ≤ x) → (rdOf false (mark g s) (i : Int) = true ↔ rdOf false g (i : Int) = true ∨ (i : Int) ∈ s)
  | [], g, i, hi, h => by simp [mark]
  | x :: s, g, i, hi, h => by
    have hx := h x (by simp)
    rw [mark, mark_rd s _ i (by rw [List.length_set]; exact hi) (fun y hy => h y (by simp [hy]))]
    have e : rdOf false (g.set x.toNat true) (i : Int) = true ↔ rdOf false g (i : Int) = true ∨ (i : Int) = x := by
      unfold rdOf
      rw [Int.toNat_natCast, List.getD_eq_getElem?_getD, List.getD_eq_getElem?_getD, List.getElem?_set]
      by_cases q : x.toNat = i
      · rw [if_pos q, if_pos (by omega)]
        simp only [Option.getD_some, true_iff]
        exact .inr (by omega)
      · rw [if_neg q]
        exact ⟨.inl, fun z => z.resolve_right (by omega)⟩
    rw [e, List.mem_cons, or_assoc]
theorem Dead_congr {l0 : List Int} {H K : Nat → List Int} {n : Nat} {p p' : Nat → Bool} (h : ∀ i, i < n → p i = p' i) (D : Dead l0 H K n p) : Dead l0 H K n p' := fun th hv i hi hp =>
  D th ⟨hv.1, fun j hj => by rw [hv.2 j hj]; congr 1; exact sumR_congr n (fun q hq => by rw [h q hq])⟩ i hi (by rw [h i hi]; exact hp)
section
variable {A : List Int} {H K : List (List Int)} {n : Nat} (hn : n ≤ 7) (hA : A.length ≤ 9223372036854775807) (hH : ∀ x ∈ H, x.length ≤ 9223372036854775807) (hK : ∀ x ∈ K, x.length ≤ 9223372036854775807) (hl : H.length = n) (hm : mayB A H K = true)
/-- Which are told after the masks below m. -/
def InRel (A : List Int) (H K : List (List Int)) (n : Nat) (g : List Bool) (m : Nat) : Prop := g.length = n ∧ ∀ i : Nat, i < n → (rdOf false g (i : Int) = true ↔ ∃ q, 1 ≤ q ∧ q < m ∧ deadB A H K (left (setM q n) 0 n) = true ∧ q.testBit i = true)
include hn in
theorem l1_ {m : Nat} (hm2 : m < 2 ^ n) {g : List Bool} {R : Bool} : ∀ (d i : Nat) (acc : List Int), n - i = d → i ≤ n → acc.length ≤ i →
    Ev (fun q => (holt_Deadlocked.f q A H K (acc ++ left (setM m n) i d)).bind fun t => if t = true then signalboxlaw15_HoltJust.l2 q (n : Int) A H K g (m : Int) (acc ++ left (setM m n) i d) 0 else signalboxlaw15_HoltJust.l0 q (n : Int) A H K g (wrap64 ((m : Int) + 1))) R →
    Ev (fun q => signalboxlaw15_HoltJust.l1 q (n : Int) A H K g (m : Int) acc (i : Int)) R
  | 0, i, acc, hd, hi, ha, h => by
    refine Ev.step (fun q => by simp only [signalboxlaw15_HoltJust.l1]; rfl) ?_
    rw [left_zero, List.append_nil] at h
    exact neg (by omega) h
  | d + 1, i, acc, hd, hi, ha, h => by
    have h128 : m < 128 := Nat.lt_of_lt_of_le hm2 (Nat.pow_le_pow_right (by decide) hn)
    refine Ev.step (fun q => by simp only [signalboxlaw15_HoltJust.l1]; rfl) ?_
    refine pos (by omega) (pos (by omega) ?_)
    have e3 : wrap64 ((i : Int) + 1) = ((i + 1 : Nat) : Int) := by rw [w64 (by omega) (by omega)]; omega
    rw [e3]
    by_cases c : m.testBit i = true
    · refine pos ((bit_ m h128 i (by omega)).2 c) (pos (by omega) (l1_ hm2 d (i + 1) (acc ++ [(i : Int)]) (by omega) (by omega) (by simp; omega) ?_))
      rw [left_yes (mem_setM.2 ⟨by omega, c⟩)] at h
      rw [List.append_assoc]
      exact h
    · refine neg (fun z => c ((bit_ m h128 i (by omega)).1 z)) (l1_ hm2 d (i + 1) acc (by omega) (by omega) (by omega) ?_)
      rw [left_no (fun z => c (mem_setM.1 z).2)] at h
      exact h
theorem l2_ {m : Nat} {s : List Int} (hs : s.length ≤ 100) {R : Bool} : ∀ (d j : Nat) (g : List Bool), s.length - j = d → j ≤ s.length → (∀ q : Nat, q < s.length → 0 ≤ rd s (q : Int) ∧ rd s (q : Int) < (g.length : Int)) →
    Ev (fun q => signalboxlaw15_HoltJust.l0 q (n : Int) A H K (mark g (s.drop j)) (wrap64 ((m : Int) + 1))) R → Ev (fun q => signalboxlaw15_HoltJust.l2 q (n : Int) A H K g (m : Int) s (j : Int)) R
  | 0, j, g, hd, hj, hb, h => by
    refine Ev.step (fun q => by simp only [signalboxlaw15_HoltJust.l2]; rfl) ?_
    rw [drop_end (by omega)] at h
    exact neg (by omega) h
  | d + 1, j, g, hd, hj, hb, h => by
    have hz := hb j (by omega)
    refine Ev.step (fun q => by simp only [signalboxlaw15_HoltJust.l2]; rfl) ?_
    refine pos (by omega) (pos (by omega) (pos (by omega) (pos (by omega) ?_)))
    have e3 : wrap64 ((j : Int) + 1) = ((j + 1 : Nat) : Int) := by rw [w64 (by omega) (by omega)]; omega
    rw [e3]
    rw [drop_cons (by omega), mark] at h
    exact l2_ hs d (j + 1) _ (by omega) (by omega) (fun q hq => by rw [List.length_set]; exact hb q hq) h
theorem l3_ {g : List Bool} {R : Bool} (hn : n ≤ 7) (hg : g.length = n) : ∀ (d i : Nat) (acc : List Int), n - i = d → i ≤ n → acc.length ≤ i →
    Ev (fun q => (holt_Stuck.f q A H K).bind fun t => (signalboxref1_Ints.f q t (acc ++ left ((List.range n).filter (fun j => rdOf false g (j : Int))) i d)).bind fun t381 => if t381 = true then ((signalboxlaw15_awake.f q).bind fun t382 => some t382) else some false) R →
    Ev (fun q => signalboxlaw15_HoltJust.l3 q (n : Int) A H K g acc (i : Int)) R
  | 0, i, acc, hd, hi, ha, h => by
    refine Ev.step (fun q => by simp only [signalboxlaw15_HoltJust.l3]; rfl) ?_
    rw [left_zero, List.append_nil] at h
    exact neg (by omega) h
  | d + 1, i, acc, hd, hi, ha, h => by
    refine Ev.step (fun q => by simp only [signalboxlaw15_HoltJust.l3]; rfl) ?_
    refine pos (by omega) (pos (by omega) (pos (by omega) ?_))
    have e3 : wrap64 ((i : Int) + 1) = ((i + 1 : Nat) : Int) := by rw [w64 (by omega) (by omega)]; omega
    rw [e3]
    by_cases c : rdOf false g (i : Int) = true
    · refine pos c (pos (by omega) (l3_ hn hg d (i + 1) (acc ++ [(i : Int)]) (by omega) (by omega) (by simp; omega) ?_))
      rw [left_yes (by simp [c]; omega)] at h
      rw [List.append_assoc]
      exact h
    · refine neg c (l3_ hn hg d (i + 1) acc (by omega) (by omega) (by omega) ?_)
      rw [left_no (by simp [c])] at h
      exact h
include hl hm in
theorem same_ {L : List Nat} (hL : stuckL A H K = left L 0 n) (h1 : DeadL A H K (fun q => decide (q ∈ L))) (h2 : ∀ p, DeadL A H K p → ∀ i, i < n → p i = true → i ∈ L) {i : Nat} (hi : i < n) :
    i ∈ L ↔ ∃ q, 1 ≤ q ∧ q < 2 ^ n ∧ deadB A H K (left (setM q n) 0 n) = true ∧ q.testBit i = true := by
  have ok := mayB_ok hm
  have deadq (q : Nat) (hne : (left (setM q n) 0 n).length ≠ 0) : deadB A H K (left (setM q n) 0 n) = true ↔ DeadL A H K (fun x => q.testBit x) := by
    unfold deadB
    rw [if_pos hm, if_neg hne, dead_iff ok (by rw [hl]; exact (left_srt _ _ _ _ (by omega)).1)]
    have e : ∀ x, x < H.length → decide ((x : Int) ∈ left (setM q n) 0 n) = q.testBit x := fun x hx => by
      rw [Bool.eq_iff_iff, decide_eq_true_eq, mem_lefts]
      constructor
      · rintro ⟨j, e, _, _, hj⟩
        obtain rfl : x = j := by omega
        exact (mem_setM.1 hj).2
      · intro z
        exact ⟨x, rfl, Nat.zero_le _, by omega, mem_setM.2 ⟨by omega, z⟩⟩
    exact ⟨fun D => Dead_congr e D, fun D => Dead_congr (fun x hx => (e x hx).symm) D⟩
  have ne (q : Nat) (hq : q.testBit i = true) : (left (setM q n) 0 n).length ≠ 0 := fun z => by
    have : (i : Int) ∈ left (setM q n) 0 n := mem_lefts.2 ⟨i, rfl, Nat.zero_le _, by omega, mem_setM.2 ⟨hi, hq⟩⟩
    rw [List.length_eq_zero_iff.1 z] at this
    cases this
  constructor
  · intro h
    obtain ⟨q, hq, hb⟩ := mask_ (fun x => decide (x ∈ L)) n
    have hqi : q.testBit i = true := by rw [hb i hi]; simpa using h
    refine ⟨q, ?_, hq, (deadq q (ne q hqi)).2 (Dead_congr (fun x hx => (hb x (by omega)).symm) h1), hqi⟩
    rcases Nat.eq_zero_or_pos q with z | z
    · subst z; simp at hqi
    · exact z
  · rintro ⟨q, _, _, hd, hqi⟩
    exact h2 _ ((deadq q (ne q hqi)).1 hd) i hi hqi
include hn hA hH hK hl hm in
theorem l0_ : ∀ (d m : Nat) (g : List Bool), 2 ^ n - m = d → 1 ≤ m → m ≤ 2 ^ n → InRel A H K n g m → Ev (fun q => signalboxlaw15_HoltJust.l0 q (n : Int) A H K g (m : Int)) true
  | 0, m, g, hd, h1, hmn, hR => by
    have p128 : 2 ^ n ≤ 128 := Nat.le_trans (Nat.pow_le_pow_right (by decide) hn) (by decide)
    obtain rfl : m = 2 ^ n := by omega
    refine Ev.step (fun q => by simp only [signalboxlaw15_HoltJust.l0]; rfl) ?_
    rw [shl_ n (by omega)]
    refine pos (by omega) (neg (by omega) (l3_ hn hR.1 n 0 [] (by omega) (by omega) (by simp) ?_))
    have ok := mayB_ok hm
    obtain ⟨L, a1, a2, a3, a4⟩ := stuck_is ok
    rw [hl] at a2
    have S := hstuck (l0 := A) (l1 := H) (l2 := K) hA hH hK
    have eS : stuckB A H K = left L 0 n := by unfold stuckB; rw [if_pos hm, a2]
    have eL : left ((List.range n).filter (fun j => rdOf false g (j : Int))) 0 n = left L 0 n := left_congr (fun j _ hj => by
      rw [Nat.zero_add] at hj
      rw [same_ hl hm a2 a3 (fun p D i hi => a4 p D i (by omega)) hj, ← hR.2 j hj]
      simp [hj])
    rw [eS] at S
    rw [List.nil_append, eL]
    refine bnd S (bnd (ints _ _ (Nat.le_trans (left_len _ _ _) (by omega))) (pos (by simp) (bnd awake (somec rfl))))
  | d + 1, m, g, hd, h1, hmn, hR => by
    have p128 : 2 ^ n ≤ 128 := Nat.le_trans (Nat.pow_le_pow_right (by decide) hn) (by decide)
    refine Ev.step (fun q => by simp only [signalboxlaw15_HoltJust.l0]; rfl) ?_
    rw [shl_ n (by omega)]
    refine pos (by omega) (pos (by omega) (l1_ hn (by omega) n 0 [] (by omega) (by omega) (by simp) ?_))
    rw [List.nil_append]
    have e3 : wrap64 ((m : Int) + 1) = ((m + 1 : Nat) : Int) := by rw [w64 (by omega) (by omega)]; omega
    have hs := left_srt (setM m n) n 0 n (by omega)
    have hln : (left (setM m n) 0 n).length ≤ 100 := Nat.le_trans (left_len _ _ _) (by omega)
    refine bnd (hdead (l0 := A) (l1 := H) (l2 := K) hA hH hK) (ite (fun c => ?_) (fun c => ?_))
    · refine l2_ hln (left (setM m n) 0 n).length 0 g (by omega) (by omega) (fun q hq => ⟨(hs.1 q hq).1, by rw [hR.1]; exact (hs.1 q hq).2.1⟩) ?_
      rw [List.drop_zero, e3]
      refine l0_ d (m + 1) _ (by omega) (by omega) (by omega) ⟨by rw [mark_len]; exact hR.1, fun i hi => ?_⟩
      rw [mark_rd _ _ i (by rw [hR.1]; exact hi) (fun x hx => by
        obtain ⟨q, hq, rfl⟩ := mem_rd.1 hx
        exact (hs.1 q hq).1), hR.2 i hi]
      constructor
      · rintro (⟨q, z1, z2, z3, z4⟩ | z)
        · exact ⟨q, z1, by omega, z3, z4⟩
        · obtain ⟨j, e, _, _, hj⟩ := mem_lefts.1 z
          obtain rfl : i = j := by omega
          exact ⟨m, h1, by omega, c, (mem_setM.1 hj).2⟩
      · rintro ⟨q, z1, z2, z3, z4⟩
        by_cases e : q = m
        · subst e
          exact .inr (mem_lefts.2 ⟨i, rfl, Nat.zero_le _, by omega, mem_setM.2 ⟨hi, z4⟩⟩)
        · exact .inl ⟨q, z1, by omega, z3, z4⟩
    · rw [e3]
      refine l0_ d (m + 1) _ (by omega) (by omega) (by omega) ⟨hR.1, fun i hi => ?_⟩
      rw [hR.2 i hi]
      constructor
      · rintro ⟨q, z1, z2, z3, z4⟩
        exact ⟨q, z1, by omega, z3, z4⟩
      · rintro ⟨q, z1, z2, z3, z4⟩
        by_cases e : q = m
        · subst e; exact absurd z3 c
        · exact ⟨q, z1, by omega, z3, z4⟩
end
end JustKit
open JustKit in
theorem HoltJust : signalboxlaw15_HoltJust.Pure := by
  intro a0 l1 hw hm1 _ _
  refine Ev.rounds (show Ev (fun q => signalboxlaw15_HoltJust.f q a0 l1) true from ?_)
  have far : Ev (fun q => signalboxlaw15_HoltJust.j0 q a0 l1 true) true := by
    refine Ev.step (fun q => by simp only [signalboxlaw15_HoltJust.j0]; rfl) ?_
    exact pos trivial (bnd awake (somec rfl))
  unfold signalboxlaw15_HoltJust.f
  refine ite (fun _ => far) (fun h0 => ite (fun _ => far) (fun h7 => ?_))
  by_cases h60 : (l1.length : Int) > 60
  · rw [decide_eq_true h60]; exact far
  rw [decide_eq_false h60]
  obtain ⟨n, rfl⟩ : ∃ n : Nat, a0 = (n : Int) := ⟨a0.toNat, by omega⟩
  refine Ev.step (fun q => by simp only [signalboxlaw15_HoltJust.j0]; rfl) ?_
  refine neg (by simp) (bnd (state_ l1 n (by omega)) (pos (by omega) (pos (by omega) ?_)))
  rw [Int.toNat_natCast]
  refine l0_ (by omega) (stA_len l1) (mH_row l1 n) (mK_row l1 n) (mH_len l1 n) (st_may l1 (by omega)) (2 ^ n - 1) 1 _ rfl (Nat.le_refl _) Nat.one_le_two_pow ⟨by simp, fun i hi => ?_⟩
  constructor
  · intro h
    simp [rdOf, hi] at h
  · rintro ⟨q, z1, z2, _⟩
    omega
end Go.Proofs.Ytdbcmmckjlbffaa.Pure
