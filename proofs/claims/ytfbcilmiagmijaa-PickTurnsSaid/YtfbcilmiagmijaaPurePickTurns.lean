/-
  By turns each one is picked once in as many steps as there are: the pure statement of PickTurns.
-/
import Derived.Test.YtfbcilmiagmijaaPPickx3
import Derived.Test.YtfbcilmiagmijaaEv
namespace Go.Proofs.Ytfbcilmiagmijaa.Pure
open Go.RowKit Go.Proofs.Ytfbcilmiagmijaa.PPick Go.Proofs.Ytfbcilmiagmijaa.EvKit Go.Proofs.YtfbcilmiagmijaaW.PrintWords Go.Proofs.YtfbcilmiagmijaaW.PrintLast

namespace PickTurnsKit
theorem awake : Ev (fun k => signalboxlaw9_awake.f k) true := Ev.of signalboxlaw9_awake.mono (k := 10) (by decide +kernel)

theorem rd_set {l : List Int} {i : Int} {v : Int} (j : Int) (h0 : 0 ≤ i) (h1 : i < l.length) (h2 : 0 ≤ j) : rd (l.set i.toNat v) j = if i = j then v else rd l j := by
  unfold rd
  rw [List.getD_eq_getElem?_getD, List.getD_eq_getElem?_getD, List.getElem?_set]
  by_cases e : i = j
  · subst e
    rw [if_pos rfl, if_pos rfl, if_pos (by omega)]
    rfl
  · rw [if_neg (by omega), if_neg e]
theorem rd_snoc {l : List Int} {v : Int} (j : Int) (h0 : 0 ≤ j) (h1 : j < l.length + 1) : rd (l ++ [v]) j = if j < l.length then rd l j else v := by
  unfold rd
  rw [List.getD_eq_getElem?_getD, List.getD_eq_getElem?_getD]
  by_cases e : j < l.length
  · rw [if_pos e, List.getElem?_append_left (by omega)]
  · rw [if_neg e, List.getElem?_append_right (by omega), show j.toNat - l.length = 0 by omega]; rfl

/-- What 'best' tells of the first i numbers. -/
theorem best_spec (p : Int → Bool) (l : List Int) : ∀ i : Nat,
    (pick_Turn.best p l i = -1 ∧ ∀ j : Int, 0 ≤ j → j < i → ¬ p (rd l j) = true) ∨
    (0 ≤ pick_Turn.best p l i ∧ pick_Turn.best p l i < i ∧ p (rd l (pick_Turn.best p l i)) = true ∧ ∀ j : Int, 0 ≤ j → j < i → p (rd l j) = true → rd l (pick_Turn.best p l i) ≤ rd l j)
  | 0 => .inl ⟨rfl, fun j h0 h1 => by omega⟩
  | i + 1 => by
    by_cases hp : p (rd l i) = true
    · rcases best_spec p l i with ⟨h1, h2⟩ | ⟨h1, h2, h3, h4⟩
      · rw [pick_Turn.best_first h1 hp (by omega)]
        refine .inr ⟨by omega, by omega, hp, fun j j0 j1 hj => ?_⟩
        by_cases e : j = i
        · subst e; exact Int.le_refl _
        · exact absurd hj (h2 j j0 (by omega))
      · rcases Int.lt_or_le (rd l i) (rd l (pick_Turn.best p l i)) with hc | hc
        · rw [pick_Turn.best_less rfl hp h1 hc]
          refine .inr ⟨by omega, by omega, hp, fun j j0 j1 hj => ?_⟩
          by_cases e : j = i
          · subst e; exact Int.le_refl _
          · have := h4 j j0 (by omega) hj; omega
        · rw [pick_Turn.best_keep rfl hp h1 hc]
          refine .inr ⟨h1, by omega, h3, fun j j0 j1 hj => ?_⟩
          by_cases e : j = i
          · subst e; exact hc
          · exact h4 j j0 (by omega) hj
    · rw [pick_Turn.best_skip rfl hp]
      rcases best_spec p l i with ⟨h1, h2⟩ | ⟨h1, h2, h3, h4⟩
      · refine .inl ⟨h1, fun j j0 j1 => ?_⟩
        by_cases e : j = i
        · subst e; exact hp
        · exact h2 j j0 (by omega)
      · refine .inr ⟨h1, by omega, h3, fun j j0 j1 hj => ?_⟩
        by_cases e : j = i
        · subst e; exact absurd hj hp
        · exact h4 j j0 (by omega) hj

/-- The list is so: its numbers fall by the gap, down to 1. -/
def Falls (l : List Int) (n : Nat) (g : Int) : Prop := l.length = n ∧ ∀ j : Int, 0 ≤ j → j < n → rd l j = 1 + (n - 1 - j) * g
theorem mul_lt {g a b : Int} (hg : 1 ≤ g) (h : a < b) : a * g < b * g := Int.mul_lt_mul_of_pos_right h (by omega)
theorem lt_of {g a b : Int} (hg : 1 ≤ g) (h : a * g < b * g) : a < b := by
  rcases Int.lt_or_le a b with h1 | h1
  · exact h1
  · have := Int.mul_le_mul_of_nonneg_right h1 (by omega : 0 ≤ g); omega
theorem le_of {g a b : Int} (hg : 1 ≤ g) (h : a * g ≤ b * g) : a ≤ b := by
  rcases Int.lt_or_le b a with h1 | h1
  · have := mul_lt hg h1; omega
  · exact h1

/-- Whoever is picked behind 'a': the one of the least number above a; where there is none, that of the least number. -/
theorem turn {l : List Int} {n : Nat} {g : Int} (hF : Falls l n g) (hg : 1 ≤ g) (hn : 1 ≤ n) (a : Int) :
    ∃ w : Nat, w < n ∧ pick_Turn.f l a = some ((n : Int) - 1 - w, true) ∧ ((a < 1 + w * g ∧ ∀ v : Nat, v < n → a < 1 + v * g → w ≤ v) ∨ (w = 0 ∧ ∀ v : Nat, v < n → 1 + v * g ≤ a)) := by
  have hl := hF.1
  unfold pick_Turn.f
  rw [if_neg (by omega), hl]
  rcases best_spec (fun x => decide (a < x)) l n with ⟨h1, h2⟩ | ⟨h1, h2, h3, h4⟩
  · rw [h1, if_neg (by omega)]
    rcases best_spec (fun _ => true) l n with ⟨k1, k2⟩ | ⟨k1, k2, k3, k4⟩
    · exact absurd rfl (k2 0 (by omega) (by omega))
    · have hz := k4 (n - 1) (by omega) (by omega) rfl
      rw [hF.2 _ k1 k2, hF.2 _ (by omega) (by omega)] at hz
      have hz' := le_of hg (by omega : (n - 1 - pick_Turn.best (fun _ => true) l n : Int) * g ≤ (n - 1 - (n - 1) : Int) * g)
      refine ⟨0, by omega, ?_, .inr ⟨rfl, fun v hv => ?_⟩⟩
      · rw [show pick_Turn.best (fun _ => true) l n = (n : Int) - 1 - (0 : Nat) by omega]
      · have := h2 (n - 1 - v) (by omega) (by omega)
        rw [hF.2 _ (by omega) (by omega), show ((n : Int) - 1 - (n - 1 - v)) = v by omega] at this
        simpa using this
  · rw [if_pos h1]
    generalize hb : pick_Turn.best (fun x => decide (a < x)) l n = b at h1 h2 h3 h4 ⊢
    have e : rd l b = 1 + ((n - 1 - b).toNat : Int) * g := by rw [hF.2 _ h1 h2, show ((n - 1 - b).toNat : Int) = n - 1 - b by omega]
    refine ⟨(n - 1 - b).toNat, by omega, by rw [show b = (n : Int) - 1 - (n - 1 - b).toNat by omega]; simp; omega, .inl ⟨?_, fun v hv ha => ?_⟩⟩
    · rw [e] at h3; simpa using h3
    · have hv' := h4 (n - 1 - v) (by omega) (by omega) (by
        rw [hF.2 _ (by omega) (by omega), show ((n : Int) - 1 - (n - 1 - v)) = v by omega]; simpa using ha)
      rw [e, hF.2 _ (by omega) (by omega), show ((n : Int) - 1 - (n - 1 - v)) = v by omega] at hv'
      have := le_of hg (by omega : ((n - 1 - b).toNat : Int) * g ≤ (v : Int) * g)
      omega

theorem turn_next {l : List Int} {n : Nat} {g : Int} (hF : Falls l n g) (hg : 1 ≤ g) (u : Nat) (hu : u < n) :
    pick_Turn.f l (1 + u * g) = some ((n : Int) - 1 - ((u + 1) % n : Nat), true) := by
  obtain ⟨w, hw, hf, h⟩ := turn hF hg (by omega) (1 + u * g)
  rw [hf]
  have : w = (u + 1) % n := by
    rcases h with ⟨h1, h2⟩ | ⟨rfl, h2⟩
    · have h3 := lt_of hg (by omega : (u : Int) * g < (w : Int) * g)
      have h4 : w ≤ u + 1 := by
        by_cases e : u + 1 < n
        · refine h2 (u + 1) e ?_
          have := mul_lt hg (by omega : (u : Int) < ((u + 1 : Nat) : Int))
          omega
        · omega
      rw [Nat.mod_eq_of_lt (by omega)]; omega
    · by_cases e : u + 1 < n
      · have h3 := h2 (u + 1) e
        have := mul_lt hg (by omega : (u : Int) < ((u + 1 : Nat) : Int))
        omega
      · rw [show u + 1 = n by omega, Nat.mod_self]
  rw [this]

theorem has_not {l : List Int} {x : Int} (hb : l.length ≤ 1000) (h : ∀ j : Int, 0 ≤ j → j < l.length → rd l j ≠ x) :
    ∀ (d : Nat) (i : Int), 0 ≤ i → i ≤ l.length → l.length - i = d → Ev (fun q => signalboxref1_Has.l0 q l x i) false
  | 0, i, h0, h1, hd => by
    refine Ev.step (fun q => by simp only [signalboxref1_Has.l0]; rfl) ?_
    exact neg (by omega) (Ev.now _)
  | d + 1, i, h0, h1, hd => by
    refine Ev.step (fun q => by simp only [signalboxref1_Has.l0]; rfl) ?_
    refine pos (by omega) (pos h0 (neg (h i h0 (by omega)) ?_))
    rw [w64 (by omega) (by omega)]
    exact has_not hb h d (i + 1) (by omega) (by omega) (by omega)

theorem apart {s i j n : Nat} (h1 : j < i) (h2 : i < n) : (s + j) % n ≠ (s + i) % n := by
  intro e
  have h := Nat.sub_mod_eq_zero_of_mod_eq e.symm
  rw [show s + i - (s + j) = i - j by omega, Nat.mod_eq_of_lt (by omega)] at h
  omega

theorem goes {l : List Int} {n : Nat} {g : Int} (hF : Falls l n g) (hg : 1 ≤ g) (hb : n ≤ 40) (hn : 1 ≤ n) (s : Nat) :
    ∀ (d i : Nat) (last : Int) (seen : List Int), n - i = d → i ≤ n → seen.length = i → (∀ j : Nat, j < i → rd seen j = 1 + ((s + j) % n : Nat) * g) →
      pick_Turn.f l last = some ((n : Int) - 1 - ((s + i) % n : Nat), true) → Ev (fun q => signalboxlaw9_PickTurns.l1 q n last l seen i) true
  | 0, i, last, seen, hd, h1, hs, hr, ht => by
    refine Ev.step (fun q => by simp only [signalboxlaw9_PickTurns.l1]; rfl) ?_
    exact neg (by omega) (pos (by omega) (Ev.bind awake (Ev.now _)))
  | d + 1, i, last, seen, hd, h1, hs, hr, ht => by
    refine Ev.step (fun q => by simp only [signalboxlaw9_PickTurns.l1]; rfl) ?_
    have hl := hF.1
    have hw : (s + i) % n < n := Nat.mod_lt _ (by omega)
    obtain ⟨w, hww⟩ : ∃ w : Nat, w = (s + i) % n := ⟨_, rfl⟩
    rw [← hww] at hw ht
    have hat : rd l ((n : Int) - 1 - w) = 1 + w * g := by rw [hF.2 _ (by omega) (by omega), show ((n : Int) - 1 - (n - 1 - w)) = w by omega]
    refine pos (by omega) (bndc ht (pos rfl (neg (by show ¬ ((n : Int) - 1 - w < 0); omega) (neg (by show ¬ ((n : Int) - 1 - w ≥ n); omega) (pos (by show 0 ≤ (n : Int) - 1 - w; omega) (pos (by show (n : Int) - 1 - w < _; omega) ?_))))))
    simp only [hat]
    refine bnd (a := false) ?_ (neg (by simp) (pos (by omega) ?_))
    · unfold signalboxref1_Has.f
      refine has_not (by omega) ?_ i 0 (by omega) (by omega) (by omega)
      intro j j0 j1 e
      obtain ⟨j, rfl⟩ := Int.eq_ofNat_of_zero_le j0
      rw [hr j (by omega)] at e
      have e1 : (((s + j) % n : Nat) : Int) = w := by
        have e2 : (((s + j) % n : Nat) : Int) * g = w * g := by omega
        exact Int.eq_of_mul_eq_mul_right (by omega) e2
      rw [hww] at e1
      exact apart (by omega) (by omega) (by omega : (s + j) % n = (s + i) % n)
    · rw [w64 (by omega) (by omega), show ((i : Int) + 1) = ((i + 1 : Nat) : Int) by omega]
      refine goes hF hg hb hn s d (i + 1) _ _ (by omega) (by omega) (by simp; omega) ?_ ?_
      · intro j hj
        rw [rd_snoc (j : Int) (by omega) (by omega)]
        by_cases e : j < i
        · rw [if_pos (by omega)]; exact hr j e
        · rw [if_neg (by omega), show j = i by omega, hww]
      · rw [turn_next hF hg w hw, hww, Nat.mod_add_mod, Nat.add_assoc]

theorem build {n : Nat} {g a : Int} (hg : 1 ≤ g) (hg2 : g ≤ 1000) (hb : (n : Int) ≤ 40) (hn : 1 ≤ n) :
    ∀ (d : Nat) (i : Int) (l : List Int), 0 ≤ i → i ≤ n → n - i = d → l.length = n → (∀ j : Int, n - i ≤ j → j < n → rd l j = 1 + (n - 1 - j) * g) → Ev (fun q => signalboxlaw9_PickTurns.l0 q n g a l i) true
  | 0, i, l, h0, h1, hd, hl, hr => by
    refine Ev.step (fun q => by simp only [signalboxlaw9_PickTurns.l0]; rfl) ?_
    have hF : Falls l n g := ⟨hl, fun j j0 j1 => hr j (by omega) j1⟩
    obtain ⟨s, hs, ht, _⟩ := turn hF hg hn a
    refine neg (by omega) ?_
    exact goes hF hg (by omega) hn s n 0 a [] (by omega) (by omega) rfl (fun j hj => by omega) (by rw [ht, Nat.add_zero, Nat.mod_eq_of_lt hs])
  | d + 1, i, l, h0, h1, hd, hl, hr => by
    refine Ev.step (fun q => by simp only [signalboxlaw9_PickTurns.l0]; rfl) ?_
    have hm : 0 ≤ i * g ∧ i * g ≤ 40000 := by
      constructor
      · exact Int.mul_nonneg h0 (by omega)
      · calc i * g ≤ 40 * 1000 := Int.mul_le_mul (by omega) hg2 (by omega) (by omega)
          _ = 40000 := rfl
    have e1 : wrap64 (wrap64 ((n : Int) - 1) - i) = n - 1 - i := by rw [w64 (x := (n : Int) - 1) (by omega) (by omega), w64 (by omega) (by omega)]
    rw [e1]
    refine pos (by omega) (pos (by omega) (pos (by omega) ?_))
    rw [w64 (x := i * g) (by omega) (by omega), w64 (x := 1 + i * g) (by omega) (by omega), w64 (x := i + 1) (by omega) (by omega)]
    refine build hg hg2 hb hn d (i + 1) _ (by omega) (by omega) (by omega) (by simpa using hl) ?_
    intro j j0 j1
    rw [rd_set j (by omega) (by omega) (by omega)]
    by_cases e : (n : Int) - 1 - i = j
    · rw [if_pos e, ← e, show ((n : Int) - 1 - (n - 1 - i)) = i by omega]
    · rw [if_neg e]; exact hr j (by omega) j1
end PickTurnsKit
open PickTurnsKit

theorem PickTurns : signalboxlaw9_PickTurns.Pure := by
  intro n g a wn wg wa
  have hn := wf64 wn
  have hg := wf64 wg
  refine Ev.rounds (g := fun q => signalboxlaw9_PickTurns.f q n g a) ?_
  unfold signalboxlaw9_PickTurns.f
  have yes : Ev (fun q => signalboxlaw9_PickTurns.j0 q n g a true) true := by
    refine Ev.step (fun q => by simp only [signalboxlaw9_PickTurns.j0]; rfl) ?_
    exact pos (by trivial) (Ev.bind awake (Ev.now _))
  refine ite (fun _ => yes) (fun h1 => ite (fun _ => yes) (fun h2 => ite (fun _ => yes) (fun h3 => ?_)))
  refine Ev.step (fun q => by simp only [signalboxlaw9_PickTurns.j0]; rfl) ?_
  refine ite (fun _ => Ev.bind awake (Ev.now _)) (fun h6 => ?_)
  have h6' : g ≤ 1000 := by simpa using h6
  obtain ⟨m, rfl⟩ : ∃ m : Nat, n = m := ⟨n.toNat, by omega⟩
  refine pos (by omega) (pos (by omega) ?_)
  refine build (by omega) h6' (by omega) (by omega) m 0 _ (by omega) (by omega) (by omega) (by simp) ?_
  intro j j0 j1
  omega

end Go.Proofs.Ytfbcilmiagmijaa.Pure
