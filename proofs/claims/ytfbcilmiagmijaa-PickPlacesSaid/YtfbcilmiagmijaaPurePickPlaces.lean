/-
  Who is picked by its place: the pure statement of PickPlaces.
-/
import Derived.Test.YtfbcilmiagmijaaPPickx2
import Derived.Test.YtfbcilmiagmijaaEv
namespace Go.Proofs.Ytfbcilmiagmijaa.Pure
open Go.RowKit Go.Proofs.Ytfbcilmiagmijaa.PPick Go.Proofs.Ytfbcilmiagmijaa.EvKit Go.Proofs.YtfbcilmiagmijaaW.PrintWords Go.Proofs.YtfbcilmiagmijaaW.PrintLast

namespace PickPlacesKit
theorem awake : Ev (fun k => signalboxlaw9_awake.f k) true := Ev.of signalboxlaw9_awake.mono (k := 10) (by decide +kernel)

theorem rd_set {l : List Int} {i : Int} {v : Int} (j : Int) (h0 : 0 ≤ i) (h1 : i < l.length) (h2 : 0 ≤ j) : rd (l.set i.toNat v) j = if i = j then v else rd l j := by
  unfold rd
  rw [List.getD_eq_getElem?_getD, List.getD_eq_getElem?_getD, List.getElem?_set]
  by_cases e : i = j
  · subst e
    rw [if_pos rfl, if_pos rfl, if_pos (by omega)]
    rfl
  · rw [if_neg (by omega), if_neg e]

theorem of_at {l : List Int} {n : Nat} (hn : l.length = n) (i : Int) (h0 : 0 ≤ i) (h1 : i < n) (hb : (n : Int) ≤ 1000) : pick_Of.f l i = some (rd l i, true) := by
  have e1 : Int.tmod i (n : Int) = i := by
    rw [Int.tmod_eq_emod_of_nonneg h0]; exact Int.emod_eq_of_lt h0 h1
  have e2 : Int.tmod (i + n) (n : Int) = i := by
    rw [Int.tmod_eq_emod_of_nonneg (by omega), Int.add_emod_right]; exact Int.emod_eq_of_lt h0 h1
  unfold pick_Of.f
  rw [hn, e1, w64 (by omega) (by omega), e2, if_neg (by omega), if_pos h0, if_pos h1]
theorem of_back {l : List Int} {n : Nat} (hn : l.length = n) (i : Int) (h0 : 0 ≤ i) (h1 : i < n) (hb : (n : Int) ≤ 1000) : pick_Of.f l (i - n) = some (rd l i, true) := by
  have e1 : Int.tmod (i - n) (n : Int) + n = if i = 0 then (n : Int) else i := by
    by_cases e : i = 0
    · subst e
      rw [if_pos rfl, show (0 : Int) - n = -(n : Int) by omega, Int.neg_tmod, Int.tmod_self]; omega
    · rw [if_neg e, show (i : Int) - n = -((n : Int) - i) by omega, Int.neg_tmod, Int.tmod_eq_emod_of_nonneg (by omega), Int.emod_eq_of_lt (by omega) (by omega)]; omega
  have e2 : Int.tmod (if i = 0 then (n : Int) else i) (n : Int) = i := by
    by_cases e : i = 0
    · subst e; rw [if_pos rfl, Int.tmod_self]
    · rw [if_neg e, Int.tmod_eq_emod_of_nonneg h0]; exact Int.emod_eq_of_lt h0 h1
  have e3 : wrap64 (if i = 0 then (n : Int) else i) = if i = 0 then (n : Int) else i := by
    split <;> exact w64 (by omega) (by omega)
  unfold pick_Of.f
  rw [hn, e1, e3, e2, if_neg (by omega), if_pos h0, if_pos h1]

/-- The list is so: its numbers rise by the gap. -/
def Rises (l : List Int) (n : Nat) (g : Int) : Prop := l.length = n ∧ ∀ j : Int, 0 ≤ j → j < n → rd l j = 1 + j * g
theorem Rises.inj {l : List Int} {n : Nat} {g : Int} (h : Rises l n g) (hg : 1 ≤ g) {i j : Int} (i0 : 0 ≤ i) (i1 : i < n) (j0 : 0 ≤ j) (j1 : j < n) : rd l i = rd l j ↔ i = j := by
  rw [h.2 i i0 i1, h.2 j j0 j1]
  constructor
  · intro e
    have e1 : i * g = j * g := by omega
    exact Int.eq_of_mul_eq_mul_right (by omega) e1
  · rintro rfl; rfl

theorem place {l : List Int} {n : Nat} {g k : Int} (hR : Rises l n g) (hg : 1 ≤ g) (hb : (n : Int) ≤ 1000) (k0 : 0 ≤ k) (k1 : k < n) :
    ∀ (d : Nat) (i : Int), 0 ≤ i → i ≤ k → k - i = d → Ev (fun q => pick_Place.l0 q l (rd l k) (l.length : Int) i) (k, true)
  | 0, i, h0, h1, hd => by
    refine Ev.step (fun q => by simp only [pick_Place.l0]; rfl) ?_
    have := hR.1
    refine pos (by omega) (pos h0 (pos (by omega) (pos ?_ (somec ?_))))
    · rw [show i = k by omega]
    · rw [show i = k by omega]
  | d + 1, i, h0, h1, hd => by
    refine Ev.step (fun q => by simp only [pick_Place.l0]; rfl) ?_
    have := hR.1
    refine pos (by omega) (pos h0 (pos (by omega) (neg ?_ ?_)))
    · rw [hR.inj hg h0 (by omega) k0 k1]; omega
    · rw [w64 (by omega) (by omega)]
      exact place hR hg hb k0 k1 d (i + 1) (by omega) (by omega) (by omega)

theorem each {l : List Int} {n : Nat} {g k : Int} (hR : Rises l n g) (hg : 1 ≤ g) (hb : (n : Int) ≤ 1000) (k0 : 0 ≤ k) (k1 : k < n) :
    ∀ (d : Nat) (i : Int), 0 ≤ i → i ≤ n → n - i = d → Ev (fun q => signalboxlaw9_PickPlaces.l1 q n k l k i) true
  | 0, i, h0, h1, hd => by
    refine Ev.step (fun q => by simp only [signalboxlaw9_PickPlaces.l1]; rfl) ?_
    refine neg (by omega) (Ev.bind awake (Ev.now _))
  | d + 1, i, h0, h1, hd => by
    refine Ev.step (fun q => by simp only [signalboxlaw9_PickPlaces.l1]; rfl) ?_
    have hl := hR.1
    refine pos (by omega) (bndc (of_at hR.1 i h0 (by omega) hb) ?_)
    rw [w64 (by omega) (by omega)]
    refine bndc (of_back hR.1 i h0 (by omega) hb) (pos rfl (pos rfl (pos rfl (pos k0 (pos (by omega) (neg ?_ ?_))))))
    · have := hR.inj hg h0 (by omega : i < n) k0 k1
      have h2 : (rd l i == rd l k) = (i == k) := by rw [Bool.eq_iff_iff]; simpa using this
      rw [h2]; simp
    · rw [w64 (by omega) (by omega)]
      exact each hR hg hb k0 k1 d (i + 1) (by omega) (by omega) (by omega)

theorem build {n : Nat} {g k : Int} (hg : 1 ≤ g) (hg2 : g ≤ 1000) (hb : (n : Int) ≤ 60) (k0 : 0 ≤ k) (k1 : k < n) :
    ∀ (d : Nat) (i : Int) (l : List Int), 0 ≤ i → i ≤ n → n - i = d → l.length = n → (∀ j : Int, 0 ≤ j → j < i → rd l j = 1 + j * g) → Ev (fun q => signalboxlaw9_PickPlaces.l0 q n g k l i) true
  | 0, i, l, h0, h1, hd, hl, hr => by
    refine Ev.step (fun q => by simp only [signalboxlaw9_PickPlaces.l0]; rfl) ?_
    have hR : Rises l n g := ⟨hl, fun j j0 j1 => hr j j0 (by omega)⟩
    refine neg (by omega) (pos k0 (pos (by omega) (bnd (a := (k, true)) ?_ (pos rfl ?_))))
    · exact place hR hg (by omega) k0 k1 k.toNat 0 (by omega) (by omega) (by omega)
    · refine Ev.step (fun q => by simp only [signalboxlaw9_PickPlaces.j2]; rfl) ?_
      refine neg (by simp) ?_
      exact each hR hg (by omega) k0 k1 n 0 (by omega) (by omega) (by omega)
  | d + 1, i, l, h0, h1, hd, hl, hr => by
    refine Ev.step (fun q => by simp only [signalboxlaw9_PickPlaces.l0]; rfl) ?_
    have hm : 0 ≤ i * g ∧ i * g ≤ 60000 := by
      constructor
      · exact Int.mul_nonneg h0 (by omega)
      · calc i * g ≤ 60 * 1000 := Int.mul_le_mul (by omega) hg2 (by omega) (by omega)
          _ = 60000 := rfl
    refine pos (by omega) (pos h0 (pos (by omega) ?_))
    rw [w64 (x := i * g) (by omega) (by omega), w64 (x := 1 + i * g) (by omega) (by omega), w64 (x := i + 1) (by omega) (by omega)]
    refine build hg hg2 hb k0 k1 d (i + 1) _ (by omega) (by omega) (by omega) (by simpa using hl) ?_
    intro j j0 j1
    rw [rd_set j h0 (by omega) j0]
    by_cases e : i = j
    · subst e; rw [if_pos rfl]
    · rw [if_neg e]; exact hr j j0 (by omega)
end PickPlacesKit
open PickPlacesKit

theorem PickPlaces : signalboxlaw9_PickPlaces.Pure := by
  intro n g k wn wg wk
  have hn := wf64 wn
  have hg := wf64 wg
  have hk := wf64 wk
  refine Ev.rounds (g := fun q => signalboxlaw9_PickPlaces.f q n g k) ?_
  unfold signalboxlaw9_PickPlaces.f
  have yes : Ev (fun q => signalboxlaw9_PickPlaces.j0 q n g k true) true := by
    refine Ev.step (fun q => by simp only [signalboxlaw9_PickPlaces.j0]; rfl) ?_
    exact pos (by trivial) (Ev.bind awake (Ev.now _))
  refine ite (fun _ => yes) (fun h1 => ite (fun _ => yes) (fun h2 => ite (fun _ => yes) (fun h3 => ite (fun _ => yes) (fun h4 => ite (fun _ => yes) (fun h5 => ?_)))))
  refine Ev.step (fun q => by simp only [signalboxlaw9_PickPlaces.j0]; rfl) ?_
  refine ite (fun _ => Ev.bind awake (Ev.now _)) (fun h6 => ?_)
  have h6' : k < n := by simpa using h6
  obtain ⟨m, rfl⟩ : ∃ m : Nat, n = m := ⟨n.toNat, by omega⟩
  refine pos (by omega) (pos (by omega) ?_)
  refine build (by omega) (by omega) (by omega) (by omega) h6' m 0 _ (by omega) (by omega) (by omega) (by simp) ?_
  intro j j0 j1
  omega

end Go.Proofs.Ytfbcilmiagmijaa.Pure
