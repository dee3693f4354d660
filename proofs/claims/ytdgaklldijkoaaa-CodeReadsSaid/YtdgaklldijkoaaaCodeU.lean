import Derived.Test.YtdgaklldijkoaaaPCodex0
import Derived.Test.YtdgaklldijkoaaaCodeR
import Derived.Test.YtdgaklldijkoaaaCodeT
import Derived.BigQuiet
import Derived.IntWalk
import Derived.WalkMore
import Derived.Laws.EntriesVeiled
import Derived.StillTailTactics
import Derived.Laws.BitsAllLaws
import Derived.Laws.BitsLemmas
import Derived.Laws.Strings
namespace Go.Proofs.Ytdgaklldijkoaaa.PCode
open Go.RowKit Go.Proofs.YtdgaklldijkoaaaW.PrintWords Go.Proofs.YtdgaklldijkoaaaW.PrintLast Go.Proofs.YtdgaklldijkoaaaW.PrintMore
attribute [local go_sem] max2_int min2_int max_two min_two max_three min_three max_four min_four
set_option linter.unusedVariables false
set_option linter.unusedSimpArgs false
/-! The reference's comparison of two lists of numbers. -/
theorem eq49_l {l m : List Int} (hl : l.length = m.length) (hb : l.length ≤ 9223372036854775807) : ∀ k i : Nat, l.length + 1 ≤ k + i → i ≤ l.length → ∃ r, signalboxref1_Ints.l0 k l m (i : Int) = some r ∧ (r = true ↔ l.drop i = m.drop i)
  | 0, i, h1, h2 => by omega
  | k + 1, i, h1, h2 => by
    rw [signalboxref1_Ints.l0]
    by_cases q : (i : Int) < (l.length : Int)
    · have hi : i < l.length := by omega
      have hj : i < m.length := by omega
      have e1 : rd l (i : Int) = l[i] := rdD l 0 hi
      have e2 : rd m (i : Int) = m[i] := rdD m 0 hj
      have hd := drop_iff hi hj
      rw [if_pos q, if_pos (by omega), if_pos (by omega), e1, e2, IntWalk.wrap64_in _ (by omega)]
      by_cases c : l[i] = m[i]
      · rw [if_pos c]
        obtain ⟨r, h, hr⟩ := eq49_l hl hb k (i + 1) (by omega) (by omega)
        exact ⟨r, h, by rw [hr, hd]; exact ⟨fun x => ⟨c, x⟩, fun x => x.2⟩⟩
      · rw [if_neg c]
        exact ⟨false, rfl, by rw [hd]; exact ⟨fun x => (by cases x), fun x => absurd x.1 c⟩⟩
    · rw [if_neg q]
      exact ⟨true, rfl, by rw [List.drop_of_length_le (by omega), List.drop_of_length_le (by omega)]; simp⟩
/-! What the printed Same of the reference answers. -/
theorem ne2_ {x0 x1 y0 y1 : Int} (c : ¬(x0 = y0 ∧ x1 = y1)) : (!(x0 == y0) || (!(x1 == y1))) = true := by
  cases h0 : (x0 == y0) <;> cases h1 : (x1 == y1) <;> first | rfl | exact absurd ⟨eq_of_beq h0, eq_of_beq h1⟩ c
theorem ne3_ {x0 x1 x2 y0 y1 y2 : Int} (c : ¬(x0 = y0 ∧ x1 = y1 ∧ x2 = y2)) : (!(x0 == y0) || (!(x1 == y1) || (!(x2 == y2)))) = true := by
  cases h0 : (x0 == y0) <;> cases h1 : (x1 == y1) <;> cases h2 : (x2 == y2) <;> first | rfl | exact absurd ⟨eq_of_beq h0, eq_of_beq h1, eq_of_beq h2⟩ c
theorem eq49_v {l m : List Int} (hb : l.length ≤ 9223372036854775807) (k : Nat) (hk : l.length + 1 ≤ k) : ∃ r, signalboxref1_Ints.f k l m = some r ∧ (r = true ↔ l = m) := by
  unfold signalboxref1_Ints.f
  by_cases q : (l.length : Int) = (m.length : Int)
  · rw [if_pos q]
    exact eq49_l (by omega) hb k 0 (by omega) (Nat.zero_le _)
  · rw [if_neg q]
    exact ⟨false, rfl, ⟨fun x => (by cases x), fun x => absurd (by rw [x]) q⟩⟩
theorem sl4 {p q : Pg} (hl4 : p.h.length = q.h.length) (hz : Sz p) : ∀ k i : Nat, p.h.length + 1 ≤ k + i → i ≤ p.h.length → ∃ r, signalboxref1_Same.l4 k (i : Int) p.a p.b p.c p.d p.e p.f p.g p.h p.i q.a q.b q.c q.d q.e q.f q.g q.h q.i = some r ∧ (r = true ↔ p.h.drop i = q.h.drop i)
  | 0, i, h1, h2 => by omega
  | k + 1, i, h1, h2 => by
    have hb := hz.h
    rw [signalboxref1_Same.l4]
    by_cases q_ : (i : Int) < (p.h.length : Int)
    · have hi : i < p.h.length := by omega
      have hj : i < q.h.length := by omega
      have z2_ : p.h.length + 1 ≤ k + (i + 1) := by omega
      have z3_ : i + 1 ≤ p.h.length := hi
      have z0_ : (0 : Int) ≤ (i : Int) := Int.natCast_nonneg i
      have z1_ : (i : Int) < (q.h.length : Int) := Int.ofNat_lt.mpr hj
      have e1 : rd_T65 p.h (i : Int) = p.h[i] := rdD p.h z65 hi
      have e2 : rd_T65 q.h (i : Int) = q.h[i] := rdD q.h z65 hj
      have hd := drop_iff hi hj
      have hw : wrap64 ((i : Int) + 1) = ((i + 1 : Nat) : Int) := IntWalk.wrap64_in _ (by omega)
      rw [if_pos q_, if_pos z0_, if_pos z1_, e1, e2, hw]
      by_cases c : p.h[i] = q.h[i]
      · rw [if_neg (by rw [c]; simp)]
        obtain ⟨r, h, hr⟩ := sl4 hl4 hz k (i + 1) z2_ z3_
        exact ⟨r, h, by rw [hr, hd]; exact ⟨fun x => ⟨c, x⟩, fun x => x.2⟩⟩
      · rw [if_pos (by generalize p.h[i] = x at c ⊢; generalize q.h[i] = y at c ⊢; obtain ⟨x0, x1⟩ := x; obtain ⟨y0, y1⟩ := y; simp only [S65.mk.injEq] at c; exact ne2_ c)]
        exact ⟨false, rfl, by rw [hd]; exact ⟨fun x => (by cases x), fun x => absurd x.1 c⟩⟩
    · rw [if_neg q_]
      exact ⟨true, rfl, by rw [List.drop_of_length_le (by omega), List.drop_of_length_le (by omega)]; simp⟩
theorem sl3 {p q : Pg} (hl3 : p.g.length = q.g.length) (hl4 : p.h.length = q.h.length) (hz : Sz p) {B : Nat} (hB : ∀ x ∈ p.g, x.length + 1 ≤ B) : ∀ k i : Nat, p.g.length + 1 + p.h.length + 1 + B ≤ k + i → i ≤ p.g.length → ∃ r, signalboxref1_Same.l3 k (i : Int) p.a p.b p.c p.d p.e p.f p.g p.h p.i q.a q.b q.c q.d q.e q.f q.g q.h q.i = some r ∧ (r = true ↔ p.g.drop i = q.g.drop i ∧ p.h = q.h)
  | 0, i, h1, h2 => by omega
  | k + 1, i, h1, h2 => by
    have hb := hz.g
    rw [signalboxref1_Same.l3]
    by_cases q_ : (i : Int) < (p.g.length : Int)
    · have hi : i < p.g.length := by omega
      have hj : i < q.g.length := by omega
      have z2_ : p.g.length + 1 + p.h.length + 1 + B ≤ k + (i + 1) := by omega
      have z3_ : i + 1 ≤ p.g.length := hi
      have z0_ : (0 : Int) ≤ (i : Int) := Int.natCast_nonneg i
      have z1_ : (i : Int) < (q.g.length : Int) := Int.ofNat_lt.mpr hj
      have e1 : rd_L1 p.g (i : Int) = p.g[i] := rdD p.g [] hi
      have e2 : rd_L1 q.g (i : Int) = q.g[i] := rdD q.g [] hj
      have hd := drop_iff hi hj
      have hw : wrap64 ((i : Int) + 1) = ((i + 1 : Nat) : Int) := IntWalk.wrap64_in _ (by omega)
      rw [if_pos q_, if_pos z0_, if_pos z1_, e1, e2, hw]
      obtain ⟨r, hr, hq⟩ := eq49_v (l := p.g[i]) (m := q.g[i]) (by have := hz.v _ (List.getElem_mem hi); omega) k (by have := hB _ (List.getElem_mem hi); omega)
      rw [hr]
      simp only [Option.bind_some]
      by_cases c : p.g[i] = q.g[i]
      · rw [if_pos (hq.2 c)]
        obtain ⟨r, h, hr⟩ := sl3 hl3 hl4 hz hB k (i + 1) z2_ z3_
        exact ⟨r, h, by rw [hr, hd]; exact ⟨fun x => ⟨⟨c, x.1⟩, x.2⟩, fun x => ⟨x.1.2, x.2⟩⟩⟩
      · rw [if_neg (fun z => c (hq.1 z))]
        exact ⟨false, rfl, by rw [hd]; exact ⟨fun x => (by cases x), fun x => absurd x.1.1 c⟩⟩
    · rw [if_neg q_]
      obtain ⟨r, h, hr⟩ := sl4 hl4 hz k 0 (by omega) (Nat.zero_le _)
      exact ⟨r, h, by rw [hr, List.drop_zero, List.drop_zero]; rw [List.drop_of_length_le (by omega), List.drop_of_length_le (by omega)]; simp⟩
theorem sl2 {p q : Pg} (hl2 : p.c.length = q.c.length) (hl3 : p.g.length = q.g.length) (hl4 : p.h.length = q.h.length) (hz : Sz p) {B : Nat} (hB : ∀ x ∈ p.g, x.length + 1 ≤ B) : ∀ k i : Nat, p.c.length + 1 + p.g.length + 1 + p.h.length + 1 + B ≤ k + i → i ≤ p.c.length → ∃ r, signalboxref1_Same.l2 k (i : Int) p.a p.b p.c p.d p.e p.f p.g p.h p.i q.a q.b q.c q.d q.e q.f q.g q.h q.i = some r ∧ (r = true ↔ p.c.drop i = q.c.drop i ∧ p.g = q.g ∧ p.h = q.h)
  | 0, i, h1, h2 => by omega
  | k + 1, i, h1, h2 => by
    have hb := hz.c
    rw [signalboxref1_Same.l2]
    by_cases q_ : (i : Int) < (p.c.length : Int)
    · have hi : i < p.c.length := by omega
      have hj : i < q.c.length := by omega
      have z2_ : p.c.length + 1 + p.g.length + 1 + p.h.length + 1 + B ≤ k + (i + 1) := by omega
      have z3_ : i + 1 ≤ p.c.length := hi
      have z0_ : (0 : Int) ≤ (i : Int) := Int.natCast_nonneg i
      have z1_ : (i : Int) < (q.c.length : Int) := Int.ofNat_lt.mpr hj
      have e1 : rd_T56 p.c (i : Int) = p.c[i] := rdD p.c z56 hi
      have e2 : rd_T56 q.c (i : Int) = q.c[i] := rdD q.c z56 hj
      have hd := drop_iff hi hj
      have hw : wrap64 ((i : Int) + 1) = ((i + 1 : Nat) : Int) := IntWalk.wrap64_in _ (by omega)
      rw [if_pos q_, if_pos z0_, if_pos z1_, e1, e2, hw]
      by_cases c : p.c[i] = q.c[i]
      · rw [if_neg (by rw [c]; simp)]
        obtain ⟨r, h, hr⟩ := sl2 hl2 hl3 hl4 hz hB k (i + 1) z2_ z3_
        exact ⟨r, h, by rw [hr, hd]; exact ⟨fun x => ⟨⟨c, x.1⟩, x.2⟩, fun x => ⟨x.1.2, x.2⟩⟩⟩
      · rw [if_pos (by generalize p.c[i] = x at c ⊢; generalize q.c[i] = y at c ⊢; obtain ⟨x0, x1⟩ := x; obtain ⟨y0, y1⟩ := y; simp only [S56.mk.injEq] at c; exact ne2_ c)]
        exact ⟨false, rfl, by rw [hd]; exact ⟨fun x => (by cases x), fun x => absurd x.1.1 c⟩⟩
    · rw [if_neg q_]
      obtain ⟨r, h, hr⟩ := sl3 hl3 hl4 hz hB k 0 (by omega) (Nat.zero_le _)
      exact ⟨r, h, by rw [hr, List.drop_zero, List.drop_zero]; rw [List.drop_of_length_le (by omega), List.drop_of_length_le (by omega)]; simp⟩
theorem sl1 {p q : Pg} (hl1 : p.b.length = q.b.length) (hl2 : p.c.length = q.c.length) (hl3 : p.g.length = q.g.length) (hl4 : p.h.length = q.h.length) (hz : Sz p) {B : Nat} (hB : ∀ x ∈ p.g, x.length + 1 ≤ B) : ∀ k i : Nat, p.b.length + 1 + p.c.length + 1 + p.g.length + 1 + p.h.length + 1 + B ≤ k + i → i ≤ p.b.length → ∃ r, signalboxref1_Same.l1 k (i : Int) p.a p.b p.c p.d p.e p.f p.g p.h p.i q.a q.b q.c q.d q.e q.f q.g q.h q.i = some r ∧ (r = true ↔ p.b.drop i = q.b.drop i ∧ p.c = q.c ∧ p.g = q.g ∧ p.h = q.h)
  | 0, i, h1, h2 => by omega
  | k + 1, i, h1, h2 => by
    have hb := hz.b
    rw [signalboxref1_Same.l1]
    by_cases q_ : (i : Int) < (p.b.length : Int)
    · have hi : i < p.b.length := by omega
      have hj : i < q.b.length := by omega
      have z2_ : p.b.length + 1 + p.c.length + 1 + p.g.length + 1 + p.h.length + 1 + B ≤ k + (i + 1) := by omega
      have z3_ : i + 1 ≤ p.b.length := hi
      have z0_ : (0 : Int) ≤ (i : Int) := Int.natCast_nonneg i
      have z1_ : (i : Int) < (q.b.length : Int) := Int.ofNat_lt.mpr hj
      have e1 : rd_T46 p.b (i : Int) = p.b[i] := rdD p.b z46 hi
      have e2 : rd_T46 q.b (i : Int) = q.b[i] := rdD q.b z46 hj
      have hd := drop_iff hi hj
      have hw : wrap64 ((i : Int) + 1) = ((i + 1 : Nat) : Int) := IntWalk.wrap64_in _ (by omega)
      rw [if_pos q_, if_pos z0_, if_pos z1_, e1, e2, hw]
      by_cases c : p.b[i] = q.b[i]
      · rw [if_neg (by rw [c]; simp)]
        obtain ⟨r, h, hr⟩ := sl1 hl1 hl2 hl3 hl4 hz hB k (i + 1) z2_ z3_
        exact ⟨r, h, by rw [hr, hd]; exact ⟨fun x => ⟨⟨c, x.1⟩, x.2⟩, fun x => ⟨x.1.2, x.2⟩⟩⟩
      · rw [if_pos (by generalize p.b[i] = x at c ⊢; generalize q.b[i] = y at c ⊢; obtain ⟨x0, x1, x2⟩ := x; obtain ⟨y0, y1, y2⟩ := y; simp only [S46.mk.injEq] at c; exact ne3_ c)]
        exact ⟨false, rfl, by rw [hd]; exact ⟨fun x => (by cases x), fun x => absurd x.1.1 c⟩⟩
    · rw [if_neg q_]
      obtain ⟨r, h, hr⟩ := sl2 hl2 hl3 hl4 hz hB k 0 (by omega) (Nat.zero_le _)
      exact ⟨r, h, by rw [hr, List.drop_zero, List.drop_zero]; rw [List.drop_of_length_le (by omega), List.drop_of_length_le (by omega)]; simp⟩
theorem sl0 {p q : Pg} (hl0 : p.a.length = q.a.length) (hl1 : p.b.length = q.b.length) (hl2 : p.c.length = q.c.length) (hl3 : p.g.length = q.g.length) (hl4 : p.h.length = q.h.length) (hz : Sz p) {B : Nat} (hB : ∀ x ∈ p.g, x.length + 1 ≤ B) : ∀ k i : Nat, p.a.length + 1 + p.b.length + 1 + p.c.length + 1 + p.g.length + 1 + p.h.length + 1 + B ≤ k + i → i ≤ p.a.length → ∃ r, signalboxref1_Same.l0 k (i : Int) p.a p.b p.c p.d p.e p.f p.g p.h p.i q.a q.b q.c q.d q.e q.f q.g q.h q.i = some r ∧ (r = true ↔ p.a.drop i = q.a.drop i ∧ p.b = q.b ∧ p.c = q.c ∧ p.g = q.g ∧ p.h = q.h)
  | 0, i, h1, h2 => by omega
  | k + 1, i, h1, h2 => by
    have hb := hz.a
    rw [signalboxref1_Same.l0]
    by_cases q_ : (i : Int) < (p.a.length : Int)
    · have hi : i < p.a.length := by omega
      have hj : i < q.a.length := by omega
      have z2_ : p.a.length + 1 + p.b.length + 1 + p.c.length + 1 + p.g.length + 1 + p.h.length + 1 + B ≤ k + (i + 1) := by omega
      have z3_ : i + 1 ≤ p.a.length := hi
      have z0_ : (0 : Int) ≤ (i : Int) := Int.natCast_nonneg i
      have z1_ : (i : Int) < (q.a.length : Int) := Int.ofNat_lt.mpr hj
      have e1 : rd_T44 p.a (i : Int) = p.a[i] := rdD p.a z44 hi
      have e2 : rd_T44 q.a (i : Int) = q.a[i] := rdD q.a z44 hj
      have hd := drop_iff hi hj
      have hw : wrap64 ((i : Int) + 1) = ((i + 1 : Nat) : Int) := IntWalk.wrap64_in _ (by omega)
      rw [if_pos q_, if_pos z0_, if_pos z1_, e1, e2, hw]
      by_cases c : p.a[i] = q.a[i]
      · rw [if_neg (by rw [c]; simp)]
        obtain ⟨r, h, hr⟩ := sl0 hl0 hl1 hl2 hl3 hl4 hz hB k (i + 1) z2_ z3_
        exact ⟨r, h, by rw [hr, hd]; exact ⟨fun x => ⟨⟨c, x.1⟩, x.2⟩, fun x => ⟨x.1.2, x.2⟩⟩⟩
      · rw [if_pos (by generalize p.a[i] = x at c ⊢; generalize q.a[i] = y at c ⊢; obtain ⟨x0, x1, x2⟩ := x; obtain ⟨y0, y1, y2⟩ := y; simp only [S44.mk.injEq] at c; exact ne3_ c)]
        exact ⟨false, rfl, by rw [hd]; exact ⟨fun x => (by cases x), fun x => absurd x.1.1 c⟩⟩
    · rw [if_neg q_]
      obtain ⟨r, h, hr⟩ := sl1 hl1 hl2 hl3 hl4 hz hB k 0 (by omega) (Nat.zero_le _)
      exact ⟨r, h, by rw [hr, List.drop_zero, List.drop_zero]; rw [List.drop_of_length_le (by omega), List.drop_of_length_le (by omega)]; simp⟩
theorem lens_max : ∀ g : List (List Int), ∃ B : Nat, ∀ x ∈ g, x.length + 1 ≤ B
  | [] => ⟨0, fun x h => by cases h⟩
  | y :: g => by
    obtain ⟨B, h⟩ := lens_max g
    refine ⟨B + y.length + 1, fun x hx => ?_⟩
    rcases List.mem_cons.1 hx with e | hx
    · subst e; omega
    · have := h x hx; omega
theorem rsame_val {p q : Pg} (hz : Sz p) : ∃ k r, signalboxref1_Same.f k p.a p.b p.c p.d p.e p.f p.g p.h p.i q.a q.b q.c q.d q.e q.f q.g q.h q.i = some r ∧ (r = true ↔ p = q) := by
  obtain ⟨B, hB⟩ := lens_max p.g
  refine ⟨p.a.length + 1 + p.b.length + 1 + p.c.length + 1 + p.g.length + 1 + p.h.length + 1 + B + p.e.length + p.f.length + 10, ?_⟩
  have hk0 : ∃ K, p.a.length + 1 + p.b.length + 1 + p.c.length + 1 + p.g.length + 1 + p.h.length + 1 + B + p.e.length + p.f.length + 10 = K + 1 ∧ p.e.length + 1 ≤ K + 1 ∧ p.f.length + 1 ≤ K + 1 ∧ p.a.length + 1 + p.b.length + 1 + p.c.length + 1 + p.g.length + 1 + p.h.length + 1 + B ≤ K := ⟨_, rfl, by omega, by omega, by omega⟩
  obtain ⟨K, eK, k4, k5, kL⟩ := hk0
  rw [eK]
  clear eK
  unfold signalboxref1_Same.f
  have hj : signalboxref1_Same.j0 (K + 1) true p.a p.b p.c p.d p.e p.f p.g p.h p.i q.a q.b q.c q.d q.e q.f q.g q.h q.i = some false := by rw [signalboxref1_Same.j0]; rfl
  by_cases h0 : (p.a.length : Int) = (q.a.length : Int)
  rotate_left
  · rw [if_neg h0]
    exact ⟨false, hj, ⟨fun x => (by cases x), fun x => absurd (by rw [x]) h0⟩⟩
  rw [if_pos h0]
  by_cases h1 : (p.b.length : Int) = (q.b.length : Int)
  rotate_left
  · rw [if_neg h1]
    exact ⟨false, hj, ⟨fun x => (by cases x), fun x => absurd (by rw [x]) h1⟩⟩
  rw [if_pos h1]
  by_cases h2 : (p.c.length : Int) = (q.c.length : Int)
  rotate_left
  · rw [if_neg h2]
    exact ⟨false, hj, ⟨fun x => (by cases x), fun x => absurd (by rw [x]) h2⟩⟩
  rw [if_pos h2]
  by_cases h3 : p.d = q.d
  rotate_left
  · rw [if_neg h3]
    exact ⟨false, hj, ⟨fun x => (by cases x), fun x => absurd (by rw [x]) h3⟩⟩
  rw [if_pos h3]
  obtain ⟨r4, v4, w4⟩ := eq49_v (l := p.e) (m := q.e) (by have := hz.e; omega) (K + 1) k4
  rw [v4]
  simp only [Option.bind_some]
  by_cases h4 : p.e = q.e
  rotate_left
  · rw [if_neg (fun z => h4 (w4.1 z))]
    exact ⟨false, hj, ⟨fun x => (by cases x), fun x => absurd (by rw [x]) h4⟩⟩
  rw [if_pos (w4.2 h4)]
  obtain ⟨r5, v5, w5⟩ := eq49_v (l := p.f) (m := q.f) (by have := hz.f; omega) (K + 1) k5
  rw [v5]
  simp only [Option.bind_some]
  by_cases h5 : p.f = q.f
  rotate_left
  · rw [if_neg (fun z => h5 (w5.1 z))]
    exact ⟨false, hj, ⟨fun x => (by cases x), fun x => absurd (by rw [x]) h5⟩⟩
  rw [if_pos (w5.2 h5)]
  by_cases h6 : (p.g.length : Int) = (q.g.length : Int)
  rotate_left
  · rw [if_neg h6]
    exact ⟨false, hj, ⟨fun x => (by cases x), fun x => absurd (by rw [x]) h6⟩⟩
  rw [if_pos h6]
  by_cases h7 : (p.h.length : Int) = (q.h.length : Int)
  rotate_left
  · rw [if_neg h7]
    exact ⟨false, hj, ⟨fun x => (by cases x), fun x => absurd (by rw [x]) h7⟩⟩
  rw [if_pos h7]
  rw [signalboxref1_Same.j0]
  by_cases h8 : p.i = q.i
  rotate_left
  · rw [if_pos (by simpa using h8)]
    exact ⟨false, rfl, ⟨fun x => (by cases x), fun x => absurd (by rw [x]) h8⟩⟩
  rw [if_neg (by simpa using h8)]
  obtain ⟨r, h, hr⟩ := sl0 (p := p) (q := q) (by omega) (by omega) (by omega) (by omega) (by omega) hz hB K 0 (by omega) (Nat.zero_le _)
  refine ⟨r, h, ?_⟩
  rw [hr, List.drop_zero, List.drop_zero]
  constructor
  · rintro ⟨a0, a1, a2, a6, a7⟩
    cases p; cases q; simp only [Pg.mk.injEq]; exact ⟨a0, a1, a2, h3, h4, h5, a6, a7, h8⟩
  · intro e; rw [e]; exact ⟨rfl, rfl, rfl, rfl, rfl⟩
theorem rsame_any {w : World} {u v : Value} {p q : Pg} {t : Bool} (ht : t = true ↔ p = q) (hp : PR w u p) (hq : PR w v q) : Calls Try.prog 15 #[u, v] w fun e w' => e = .returned (.bool t) ∧ Below w.heap.size w w' := by
  obtain ⟨A0, c0, A1, c1, A2, c2, A4, c4, A5, c5, A6, c6, A7, c7, rfl, hpx⟩ := hp
  obtain ⟨B0, d0, B1, d1, B2, d2, B4, d4, B5, d5, B6, d6, B7, d7, rfl, hqx⟩ := hq
  obtain ⟨k, r, hf, hr⟩ := rsame_val (q := q) hpx.sz
  have e : r = t := by cases r <;> cases t <;> simp_all
  subst e
  exact signalboxref1_Same.calls k A0 c0 p.a A1 c1 p.b A2 c2 p.c p.d A4 c4 p.e A5 c5 p.f A6 c6 p.g A7 c7 p.h p.i B0 d0 q.a B1 d1 q.b B2 d2 q.c q.d B4 d4 q.e B5 d5 q.f B6 d6 q.g B7 d7 q.h q.i r w hpx.a.2 hpx.a.1 hpx.b.2 hpx.b.1 hpx.c.2 hpx.c.1 hpx.e.2 hpx.e.1 hpx.f.2 hpx.f.1 hpx.g.2 hpx.g.1 hpx.h.2 hpx.h.1 hqx.a.2 hqx.a.1 hqx.b.2 hqx.b.1 hqx.c.2 hqx.c.1 hqx.e.2 hqx.e.1 hqx.f.2 hqx.f.1 hqx.g.2 hqx.g.1 hqx.h.2 hqx.h.1 hf

end Go.Proofs.Ytdgaklldijkoaaa.PCode
