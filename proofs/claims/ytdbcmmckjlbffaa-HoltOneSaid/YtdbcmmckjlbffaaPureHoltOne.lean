/-
  Those that are left are a deadlocked set themselves; in which order the processes stand does not matter; with more to be had none is left that was not: the pure statement of HoltOne.
-/
import Derived.Test.YtdbcmmckjlbffaaPHoltOx7
import Derived.Test.YtdbcmmckjlbffaaHoltOStLib
import Derived.Test.YtdbcmmckjlbffaaHoltOThLib
namespace Go.Proofs.Ytdbcmmckjlbffaa.Pure
open Go.RowKit Go.Proofs.Ytdbcmmckjlbffaa.PHoltO Go.Proofs.Ytdbcmmckjlbffaa.EvKit Go.Proofs.Ytdbcmmckjlbffaa.HoltOKit Go.Proofs.YtdbcmmckjlbffaaW.PrintWords Go.Proofs.YtdbcmmckjlbffaaW.PrintLast Go.Proofs.YtdbcmmckjlbffaaW.PrintMore
set_option linter.unusedVariables false
set_option linter.unusedSimpArgs false

namespace OneKit
theorem sumR_split (f : Nat → Int) (a : Nat) : ∀ b : Nat, sumR f (a + b) = sumR f a + sumR (fun i => f (a + i)) b
  | 0 => by simp [sumR]
  | b + 1 => by
    have e := sumR_split f a b
    rw [← Nat.add_assoc, sumR, e, sumR]
    omega
theorem sumR_rot (f : Nat → Int) {n k : Nat} (h : k ≤ n) : sumR (fun i => f ((i + k) % n)) n = sumR f n := by
  have e1 := sumR_split (fun i => f ((i + k) % n)) (n - k) k
  have e2 := sumR_split f k (n - k)
  rw [show n - k + k = n by omega] at e1
  rw [show k + (n - k) = n by omega] at e2
  rw [e1, e2]
  have a : sumR (fun i => f ((i + k) % n)) (n - k) = sumR (fun i => f (k + i)) (n - k) := sumR_congr _ (fun q hq => by
    rw [Nat.mod_eq_of_lt (by omega), Nat.add_comm])
  have b : sumR (fun i => f ((n - k + i + k) % n)) k = sumR f k := sumR_congr _ (fun q hq => by
    rw [show n - k + q + k = q + n by omega, Nat.add_mod_right, Nat.mod_eq_of_lt (by omega)])
  rw [a, b]; omega
theorem dead_rot {l0 : List Int} {H K H' K' : Nat → List Int} {n k : Nat} (hk : k ≤ n) (hH : ∀ i, i < n → H' i = H ((i + k) % n)) (hK : ∀ i, i < n → K' i = K ((i + k) % n)) {p : Nat → Bool} (D : Dead l0 H K n p) : Dead l0 H' K' n (fun i => p ((i + k) % n)) := by
  intro th hv i hi hp
  rw [hK i hi]
  refine D th ⟨hv.1, fun j hj => ?_⟩ _ (Nat.mod_lt _ (by omega)) hp
  rw [hv.2 j hj]
  congr 1
  rw [← sumR_rot (fun q => if p q = true then 0 else rd (H q) j) hk]
  exact sumR_congr n (fun q hq => by rw [hH q hq])
theorem dead_more {l0 l0' : List Int} {H K : Nat → List Int} {n : Nat} (hl : l0.length = l0'.length) (h : ∀ j : Nat, j < l0.length → rd l0 j ≤ rd l0' j) {p : Nat → Bool} (D : Dead l0' H K n p) : Dead l0 H K n p := by
  intro th hv i hi hp
  obtain ⟨tv, hv'⟩ := Vl.some (l0 := l0') (H := H) (n := n) p
  have h1 := D tv hv' i hi hp
  cases q : fitsU (K i) th with
  | false => rfl
  | true =>
    rw [fits_mono (by rw [hv.1, hv'.1, hl]) (fun j hj => by
      rw [hv.1] at hj
      rw [hv.2 j hj, hv'.2 j (by omega)]
      have := h j hj
      omega) q] at h1
    cases h1
theorem left_sum (L : List Nat) : ∀ (d i : Nat), ((left L i d).length : Int) = sumR (fun q => if (i + q) ∈ L then 1 else 0) d
  | 0, i => rfl
  | d + 1, i => by
    have e := left_sum L d (i + 1)
    have s := sumR_split (fun q => if (i + q) ∈ L then (1 : Int) else 0) 1 d
    rw [Nat.add_comm 1 d] at s
    rw [s]
    have c : sumR (fun q => if (i + (1 + q)) ∈ L then (1 : Int) else 0) d = sumR (fun q => if (i + 1 + q) ∈ L then 1 else 0) d := sumR_congr d (fun q _ => by rw [Nat.add_assoc])
    rw [c, ← e]
    by_cases h : i ∈ L
    · rw [left_yes h]
      simp [sumR, h]; omega
    · rw [left_no h]
      simp [sumR, h]
theorem rot_at (l : List (List Int)) {n k i : Nat} (hl : l.length = n) (hk : k ≤ n) (hi : i < n) : rd_L1 (l.drop k ++ l.take k) (i : Int) = rd_L1 l (((i + k) % n : Nat) : Int) := by
  simp only [rd_L1, Int.toNat_natCast, List.getD_eq_getElem?_getD]
  by_cases h : i < n - k
  · rw [List.getElem?_append_left (by rw [List.length_drop]; omega), List.getElem?_drop, Nat.mod_eq_of_lt (by omega), Nat.add_comm]
  · rw [List.getElem?_append_right (by rw [List.length_drop]; omega), List.length_drop, hl, List.getElem?_take, if_pos (by omega)]
    rw [show i + k = (i - (n - k)) + n by omega, Nat.add_mod_right, Nat.mod_eq_of_lt (by omega)]
theorem rot_len (l : List (List Int)) {n k : Nat} (hl : l.length = n) (hk : k ≤ n) : (l.drop k ++ l.take k).length = n := by
  rw [List.length_append, List.length_drop, List.length_take]; omega
theorem mod_back {n k i : Nat} (hk : k ≤ n) (hi : i < n) : ((i + k) % n + (n - k)) % n = i ∧ ((i + (n - k)) % n + k) % n = i := by
  constructor
  · rw [Nat.mod_add_mod, show i + k + (n - k) = i + n by omega, Nat.add_mod_right, Nat.mod_eq_of_lt hi]
  · rw [Nat.mod_add_mod, show i + (n - k) + k = i + n by omega, Nat.add_mod_right, Nat.mod_eq_of_lt hi]
section
variable {x0 x3 x13 : Int} {A : List Int} {H K : List (List Int)}
theorem l1_ {S : List Int} (hS : S.length ≤ 100) (U : List Int) (hU : U.length ≤ 100) (h : ∀ x ∈ U, x ∈ S) : ∀ (d i : Nat), U.length - i = d → i ≤ U.length → Ev (fun q => signalboxlaw15_HoltOne.l1 q S U (i : Int)) true
  | 0, i, hd, hi => by
    refine Ev.step (fun q => by simp only [signalboxlaw15_HoltOne.l1]; rfl) ?_
    exact neg (by omega) (bnd awake (somec rfl))
  | d + 1, i, hd, hi => by
    refine Ev.step (fun q => by simp only [signalboxlaw15_HoltOne.l1]; rfl) ?_
    have e3 : wrap64 ((i : Int) + 1) = ((i + 1 : Nat) : Int) := by rw [w64 (by omega) (by omega)]; omega
    rw [e3]
    exact pos (by omega) (pos (by omega) (bnd (has S _ (by omega)) (pos (by simpa using h _ (rd_mem (by omega))) (l1_ hS U hU h d (i + 1) (by omega) (by omega)))))
theorem l0_ {n k : Nat} (hn : 1 ≤ n) (hn12 : n ≤ 12) (hk : k < n) {S : List Int} (hS : S.length ≤ 100) (T : List Int) (hT : T.length ≤ 100) (h : ∀ x ∈ T, ∃ j : Nat, x = (j : Int) ∧ j < n ∧ (((j + k) % n : Nat) : Int) ∈ S)
    (hend : Ev (fun q => (if 0 < (A.length : Int) then ((signalboxlaw15_next.f (([x3] : List Int)) 0 5).bind fun t320 => (if 1 < (A.length : Int) then ((holt_Stuck.f q (([wrap64 ((rd A 0) + t320), rd A 1] : List Int)) H K).bind fun t325 => (signalboxlaw15_HoltOne.l1 q S t325 0)) else (none))) else (none))) true) :
    ∀ (d i : Nat), T.length - i = d → i ≤ T.length → Ev (fun q => signalboxlaw15_HoltOne.l0 q (n : Int) x3 A H K S (k : Int) T (i : Int)) true
  | 0, i, hd, hi => by
    refine Ev.step (fun q => by simp only [signalboxlaw15_HoltOne.l0]; rfl) ?_
    exact neg (by omega) hend
  | d + 1, i, hd, hi => by
    refine Ev.step (fun q => by simp only [signalboxlaw15_HoltOne.l0]; rfl) ?_
    have e3 : wrap64 ((i : Int) + 1) = ((i + 1 : Nat) : Int) := by rw [w64 (by omega) (by omega)]; omega
    obtain ⟨j, ej, hj, hm⟩ := h _ (rd_mem (l := T) (i := i) (by omega))
    have e4 : Int.tmod (wrap64 (rd T (i : Int) + (k : Int))) (n : Int) = (((j + k) % n : Nat) : Int) := by
      rw [ej, w64 (by omega) (by omega), tmod_is (by omega), if_neg (by omega)]
      have : (j : Int) + (k : Int) = ((j + k : Nat) : Int) := by omega
      rw [this]
      rfl
    rw [e3, e4]
    exact pos (by omega) (pos (by omega) (neg (by omega) (bnd (has S _ (by omega)) (pos (by simpa using hm) (l0_ hn hn12 hk hS T hT h hend d (i + 1) (by omega) (by omega))))))
end
theorem row_drop {l : List (List Int)} {k : Nat} (h : ∀ x ∈ l, x.length ≤ 9223372036854775807) : ∀ x ∈ l.drop k ++ l.take k, x.length ≤ 9223372036854775807 := by
  intro x hx
  rcases List.mem_append.1 hx with z | z
  · exact h x (List.mem_of_mem_drop z)
  · exact h x (List.mem_of_mem_take z)
end OneKit
open OneKit in
theorem HoltOne : signalboxlaw15_HoltOne.Pure := by
  intro a0 zs a2 a3 hw hm1 _ _ hw2 hw3
  refine Ev.rounds (show Ev (fun q => signalboxlaw15_HoltOne.f q a0 zs a2 a3) true from ?_)
  have far : Ev (fun q => signalboxlaw15_HoltOne.j0 q a0 zs a2 a3 true) true := by
    refine Ev.step (fun q => by simp only [signalboxlaw15_HoltOne.j0]; rfl) ?_
    exact pos trivial (bnd awake (somec rfl))
  unfold signalboxlaw15_HoltOne.f
  refine ite (fun _ => far) (fun h0 => ite (fun _ => far) (fun h12 => ?_))
  by_cases h100 : (zs.length : Int) > 100
  · rw [decide_eq_true h100]; exact far
  rw [decide_eq_false h100]
  obtain ⟨n, rfl⟩ : ∃ n : Nat, a0 = (n : Int) := ⟨a0.toNat, by omega⟩
  have hn1 : 1 ≤ n := by omega
  have hn12 : n ≤ 12 := by omega
  have hA := stA_len zs
  have hH := mH_row zs n
  have hK := mK_row zs n
  have hm := st_may zs hn12
  have ok := mayB_ok hm
  obtain ⟨L, a1, e1, D1, G1⟩ := stuck_is ok
  rw [mH_len] at a1 e1 G1
  have D1' : Dead (stA zs) (fun i => rd_L1 (mH zs n) (i : Int)) (fun i => rd_L1 (mK zs n) (i : Int)) n (fun q => decide (q ∈ L)) := by have := D1; unfold DeadL at this; rw [mH_len] at this; exact this
  have S1 := hstuck (l0 := stA zs) (l1 := mH zs n) (l2 := mK zs n) hA hH hK
  have eS : stuckB (stA zs) (mH zs n) (mK zs n) = left L 0 n := by unfold stuckB; rw [if_pos hm, e1]
  rw [eS] at S1
  have lS : (left L 0 n).length ≤ 100 := Nat.le_trans (left_len _ _ _) (by omega)
  -- the turned state
  obtain ⟨k, hk, ek⟩ : ∃ k : Nat, k < n ∧ nxt [a2] 0 (n : Int) = (k : Int) := by
    have q1 := nxt_lo [a2] 0 (most := (n : Int)) (by omega)
    have q2 := nxt_hi [a2] 0 (most := (n : Int)) (by omega)
    exact ⟨(nxt [a2] 0 (n : Int)).toNat, by omega, by omega⟩
  have lH := rot_len (mH zs n) (mH_len zs n) (Nat.le_of_lt hk)
  have lK := rot_len (mK zs n) (mK_len zs n) (Nat.le_of_lt hk)
  have b0 := nxt_lo zs 0 (most := 2) (by decide)
  have b1 := nxt_hi zs 0 (most := 2) (by decide)
  have b2 := nxt_lo zs 1 (most := 2) (by decide)
  have b3 := nxt_hi zs 1 (most := 2) (by decide)
  have hm2 : mayB (stA zs) ((mH zs n).drop k ++ (mH zs n).take k) ((mK zs n).drop k ++ (mK zs n).take k) = true := by
    refine may2 _ _ _ _ (by omega) (by omega) (by rw [lH, lK]) (by rw [lH]; omega) (fun i hi => ?_)
    rw [lH] at hi
    have hz : (i + k) % n < n := Nat.mod_lt _ (by omega)
    unfold rowR
    rw [rot_at _ (mH_len zs n) (Nat.le_of_lt hk) hi, rot_at _ (mK_len zs n) (Nat.le_of_lt hk) hi, mH_at zs hz, mK_at zs hz, (st_two zs _).1, (st_two zs _).2]; rfl
  obtain ⟨L2, a2', e2, D2, G2⟩ := stuck_is (mayB_ok hm2)
  rw [lH] at a2' e2 G2
  have D2' : Dead (stA zs) (fun i => rd_L1 ((mH zs n).drop k ++ (mH zs n).take k) (i : Int)) (fun i => rd_L1 ((mK zs n).drop k ++ (mK zs n).take k) (i : Int)) n (fun q => decide (q ∈ L2)) := by have := D2; unfold DeadL at this; rw [lH] at this; exact this
  have G2' : ∀ p, Dead (stA zs) (fun i => rd_L1 ((mH zs n).drop k ++ (mH zs n).take k) (i : Int)) (fun i => rd_L1 ((mK zs n).drop k ++ (mK zs n).take k) (i : Int)) n p → ∀ i, i < n → p i = true → i ∈ L2 := fun p D => G2 p (by unfold DeadL; rw [lH]; exact D)
  have G1' : ∀ p, Dead (stA zs) (fun i => rd_L1 (mH zs n) (i : Int)) (fun i => rd_L1 (mK zs n) (i : Int)) n p → ∀ i, i < n → p i = true → i ∈ L := fun p D => G1 p (by unfold DeadL; rw [mH_len]; exact D)
  have turn : ∀ i, i < n → (i ∈ L2 ↔ (i + k) % n ∈ L) := by
    intro i hi
    constructor
    · intro h
      have D3 := dead_rot (k := n - k) (H' := fun i => rd_L1 (mH zs n) (i : Int)) (K' := fun i => rd_L1 (mK zs n) (i : Int)) (by omega) (fun i hi => by
        rw [rot_at _ (mH_len zs n) (Nat.le_of_lt hk) (Nat.mod_lt _ (by omega)), (mod_back (Nat.le_of_lt hk) hi).2]) (fun i hi => by
        rw [rot_at _ (mK_len zs n) (Nat.le_of_lt hk) (Nat.mod_lt _ (by omega)), (mod_back (Nat.le_of_lt hk) hi).2]) D2'
      refine G1' _ D3 _ (Nat.mod_lt _ (by omega)) ?_
      show decide (((i + k) % n + (n - k)) % n ∈ L2) = true
      rw [(mod_back (Nat.le_of_lt hk) hi).1]
      simpa using h
    · intro h
      have D3 := dead_rot (k := k) (H' := fun i => rd_L1 ((mH zs n).drop k ++ (mH zs n).take k) (i : Int)) (K' := fun i => rd_L1 ((mK zs n).drop k ++ (mK zs n).take k) (i : Int)) (Nat.le_of_lt hk) (fun i hi => rot_at _ (mH_len zs n) (Nat.le_of_lt hk) hi) (fun i hi => rot_at _ (mK_len zs n) (Nat.le_of_lt hk) hi) D1'
      exact G2' _ D3 i hi (by simpa using h)
  have S2 := hstuck (l0 := stA zs) (l1 := (mH zs n).drop k ++ (mH zs n).take k) (l2 := (mK zs n).drop k ++ (mK zs n).take k) hA (row_drop hH) (row_drop hK)
  have eS2 : stuckB (stA zs) ((mH zs n).drop k ++ (mH zs n).take k) ((mK zs n).drop k ++ (mK zs n).take k) = left L2 0 n := by unfold stuckB; rw [if_pos hm2, e2]
  rw [eS2] at S2
  have len : ((left L2 0 n).length : Int) = ((left L 0 n).length : Int) := by
    rw [left_sum, left_sum, ← sumR_rot (fun q => if 0 + q ∈ L then (1 : Int) else 0) (Nat.le_of_lt hk)]
    refine sumR_congr n (fun q hq => ?_)
    rw [Nat.zero_add, Nat.zero_add]
    have := turn q hq
    by_cases c : q ∈ L2
    · rw [if_pos c, if_pos (this.1 c)]
    · rw [if_neg c, if_neg (fun z => c (this.2 z))]
  -- more to be had
  have c0 := nxt_lo [a3] 0 (most := 5) (by decide)
  have c1 := nxt_hi [a3] 0 (most := 5) (by decide)
  have hA3 : ([wrap64 (rd (stA zs) 0 + nxt [a3] 0 5), rd (stA zs) 1] : List Int) = [nxt zs 0 2 + nxt [a3] 0 5, nxt zs 1 2] := by
    have : wrap64 (rd (stA zs) 0 + nxt [a3] 0 5) = nxt zs 0 2 + nxt [a3] 0 5 := w64 (by show _ ≤ nxt zs 0 2 + _; omega) (by show nxt zs 0 2 + _ ≤ _; omega)
    rw [this]; rfl
  have hm3 : mayB [nxt zs 0 2 + nxt [a3] 0 5, nxt zs 1 2] (mH zs n) (mK zs n) = true := by
    refine may2 _ _ _ _ (by omega) (by omega) (by rw [mH_len, mK_len]) (by rw [mH_len]; omega) (fun i hi => ?_)
    rw [mH_len] at hi
    unfold rowR
    rw [mH_at zs hi, mK_at zs hi, (st_two zs _).1, (st_two zs _).2]; rfl
  obtain ⟨L3, a3', e3, D3, G3⟩ := stuck_is (mayB_ok hm3)
  rw [mH_len] at a3' e3
  have S3 := hstuck (l0 := [nxt zs 0 2 + nxt [a3] 0 5, nxt zs 1 2]) (l1 := mH zs n) (l2 := mK zs n) (by simp) hH hK
  have eS3 : stuckB [nxt zs 0 2 + nxt [a3] 0 5, nxt zs 1 2] (mH zs n) (mK zs n) = left L3 0 n := by unfold stuckB; rw [if_pos hm3, e3]
  rw [eS3] at S3
  have less : ∀ x ∈ left L3 0 n, x ∈ left L 0 n := by
    intro x hx
    obtain ⟨j, rfl, _, hj, hL⟩ := mem_lefts.1 hx
    have D4 : DeadL (stA zs) (mH zs n) (mK zs n) (fun q => decide (q ∈ L3)) := dead_more (l0 := stA zs) (l0' := [nxt zs 0 2 + nxt [a3] 0 5, nxt zs 1 2]) rfl (fun j hj => by
      have hj2 : j < 2 := hj
      rcases (by omega : j = 0 ∨ j = 1) with rfl | rfl
      · show nxt zs 0 2 ≤ nxt zs 0 2 + nxt [a3] 0 5; omega
      · exact Int.le_refl _) D3
    exact mem_lefts.2 ⟨j, rfl, Nat.zero_le _, hj, G1 _ D4 j (by omega) (by simpa using hL)⟩
  -- the walk
  have J1 : Ev (fun q => signalboxlaw15_HoltOne.j1 q (n : Int) a2 a3 (stA zs) (mH zs n) (mK zs n) (left L 0 n) false) true := by
    refine Ev.step (fun q => by simp only [signalboxlaw15_HoltOne.j1]; rfl) ?_
    refine neg (by simp) (bndc (next_ [a2] 0 (n : Int) (by omega) (by omega)) ?_)
    rw [ek]
    have lm := mH_len zs n
    have lm2 := mK_len zs n
    refine bndc rfl (pos (by omega) (pos (by omega) (bndc rfl (pos ?_ (bndc rfl (bndc rfl (pos ?_ (bndc rfl (pos (by omega) (bndc rfl (pos ?_ (bndc rfl (bndc rfl (pos ?_ ?_))))))))))))))
    · rw [Int.toNat_natCast, List.length_drop]; simp; omega
    · rw [Int.toNat_natCast, List.nil_append, List.length_drop, List.length_take]; omega
    · rw [Int.toNat_natCast, List.length_drop]; simp; omega
    · rw [Int.toNat_natCast, List.nil_append, List.length_drop, List.length_take]; omega
    · rw [Int.toNat_natCast, List.nil_append, List.nil_append]
      refine bnd S2 (pos len ?_)
      refine l0_ hn1 hn12 hk lS _ (Nat.le_trans (left_len _ _ _) (by omega)) (fun x hx => ?_) ?_ (left L2 0 n).length 0 (by omega) (Nat.zero_le _)
      · obtain ⟨j, rfl, _, hj, hL⟩ := mem_lefts.1 hx
        rw [Nat.zero_add] at hj
        exact ⟨j, rfl, hj, mem_lefts.2 ⟨_, rfl, Nat.zero_le _, by rw [Nat.zero_add]; exact Nat.mod_lt _ (by omega), (turn j hj).1 hL⟩⟩
      · refine pos (by simp [stA]) (bndc (next_ [a3] 0 5 (by omega) (by omega)) (pos (by simp [stA]) ?_))
        rw [hA3]
        exact bnd S3 (l1_ lS _ (Nat.le_trans (left_len _ _ _) (by omega)) less _ 0 rfl (Nat.zero_le _))
  refine Ev.step (fun q => by simp only [signalboxlaw15_HoltOne.j0]; rfl) ?_
  refine neg (by simp) (bnd (state_ zs n (by omega)) (bnd S1 (ite (fun c => ?_) (fun c => J1))))
  have hd : deadB (stA zs) (mH zs n) (mK zs n) (left L 0 n) = true := by
    unfold deadB
    rw [if_pos hm, if_neg (by omega), dead_iff ok (by rw [mH_len]; exact (left_srt _ _ _ _ (by omega)).1)]
    refine Dead_congr (fun x hx => ?_) D1
    rw [mH_len] at hx
    rw [Bool.eq_iff_iff, decide_eq_true_eq, decide_eq_true_eq, mem_lefts]
    constructor
    · intro z; exact ⟨x, rfl, Nat.zero_le _, by omega, z⟩
    · rintro ⟨j, e, _, _, hj⟩
      obtain rfl : x = j := by omega
      exact hj
  have HD := hdead (l0 := stA zs) (l1 := mH zs n) (l2 := mK zs n) hA hH hK (s := left L 0 n)
  rw [hd] at HD
  exact bnd HD J1
end Go.Proofs.Ytdbcmmckjlbffaa.Pure
