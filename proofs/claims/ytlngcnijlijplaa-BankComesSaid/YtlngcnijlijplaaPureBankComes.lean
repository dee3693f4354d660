/-
  What is safe stays so with a process more that holds nothing, and claims no more than there is in all; and with more to be had: the pure statement of BankComes.
-/
import Derived.Test.YtlngcnijlijplaaComesB
import Derived.Test.YtlngcnijlijplaaBankSafeLib
namespace Go.Proofs.Ytlngcnijlijplaa.Pure
open Go.RowKit Go.Proofs.Ytlngcnijlijplaa.PBank Go.Proofs.Ytlngcnijlijplaa.EvKit Go.Proofs.Ytlngcnijlijplaa.BankKit Go.Proofs.YtlngcnijlijplaaW.PrintWords Go.Proofs.YtlngcnijlijplaaW.PrintLast
set_option linter.unusedVariables false

namespace ComesKit
def sumL (f : Nat → Int) : List Nat → Int
  | [] => 0
  | x :: l => f x + sumL f l
theorem sumL_erase (f : Nat → Int) {k : Nat} : ∀ {L : List Nat}, k ∈ L → sumL f L = f k + sumL f (L.erase k)
  | x :: l, h => by
    by_cases e : x = k
    · subst e; rw [List.erase_cons_head]; rfl
    · have e' : ¬ (x == k) = true := by simpa using e
      have hk : k ∈ l := (List.mem_cons.1 h).resolve_left (fun q => e q.symm)
      rw [List.erase_cons_tail e', sumL, sumL, sumL_erase f hk]
      omega
theorem sumL_snoc (f : Nat → Int) (x : Nat) : ∀ L : List Nat, sumL f (L ++ [x]) = sumL f L + f x
  | [] => by simp [sumL]
  | y :: l => by rw [List.cons_append, sumL, sumL, sumL_snoc f x l]; omega
theorem sumL_bd (f : Nat → Int) (b : Int) : ∀ L : List Nat, (∀ i ∈ L, 0 ≤ f i ∧ f i ≤ b) → 0 ≤ sumL f L ∧ sumL f L ≤ b * L.length
  | [], _ => by simp [sumL]
  | x :: l, h => by
    have h1 := h x (by simp)
    have h2 := sumL_bd f b l (fun i hi => h i (by simp [hi]))
    have e : b * ((x :: l).length : Int) = b * (l.length : Int) + b := by rw [List.length_cons, Int.natCast_add, Int.mul_add]; simp
    rw [sumL, e]
    omega
/-- One more at the end: when all others have completed, there is all that they held. -/
theorem comp_last {d n : Nat} {H C H' C' : Nat → List Int} : ∀ (t th : List Int) (L : List Nat), Go.Proofs.Ytlngcnijlijplaa.BankKit.Good d H C L → (∀ i ∈ L, H' i = H i ∧ C' i = C i) → n ∉ L → th.length = d → t.length = L.length → (C' n).length = d → (∀ j : Nat, j < d → rd (C' n) j - rd (H' n) j ≤ rd th j + sumL (fun i => rd (H i) j) L) → bank_comp H C t th L = true → bank_comp H' C' (t ++ [(n : Int)]) th (L ++ [n]) = true
  | [], th, L, g, ha, hn, hth, hl, hc, hs, h => by
    obtain rfl := List.length_eq_zero_iff.1 hl.symm
    have q : canTo th (H' n) (C' n) (C' n).length = true := by
      rw [canTo_iff]
      intro j hj
      have := hs j (by omega)
      simpa [sumL] using this
    rw [List.nil_append, List.nil_append, bank_comp_yes (by simp) q]
    rfl
  | x :: t, th, L, g, ha, hn, hth, hl, hc, hs, h => by
    obtain ⟨k, rfl, hk, hcan, hr⟩ := comp_cons h
    obtain ⟨g1, g2, g3⟩ := g k hk
    obtain ⟨a1, a2⟩ := ha k hk
    rw [List.cons_append, bank_comp_yes (by simp [hk]) (by rw [a1, a2]; exact hcan), List.erase_append_left _ hk, a1]
    refine comp_last t _ _ (g.less k) (fun i hi => ha i (List.mem_of_mem_erase hi)) (fun q => hn (List.mem_of_mem_erase q)) (by rw [addN_len]; exact hth) ?_ hc (fun j hj => ?_) hr
    · rw [List.length_erase_of_mem hk, ← hl]; rfl
    · have h1 := hs j hj
      rw [sumL_erase (fun i => rd (H i) j) hk] at h1
      rw [addN_rd hth g1 hj]
      omega
theorem safe_ {A : List Int} {H C : List (List Int)} (hA : A.length ≤ 6) (hH : ∀ x ∈ H, x.length ≤ 9223372036854775807) (hC : ∀ x ∈ C, x.length ≤ 9223372036854775807) (hm : mayB A H C = true) : Ev (fun q => bank_Safe.f q A H C) (bank_run (fun i => rd_L1 H i) (fun i => rd_L1 C i) H.length H.length A (List.range H.length) []).2 := by
  have M := bmay A H C (by omega) hH hC
  rw [hm] at M
  unfold bank_Safe.f bank_Order.f
  exact bnd (bnd M (pos rfl (Ev.now _))) (Ev.now _)
theorem safe_yes {A : List Int} {H C : List (List Int)} (hA : A.length ≤ 6) (hH : ∀ x ∈ H, x.length ≤ 9223372036854775807) (hC : ∀ x ∈ C, x.length ≤ 9223372036854775807) (hm : mayB A H C = true) {t : List Int} (ht : t.length = H.length) (hc : bank_comp (fun i => rd_L1 H i) (fun i => rd_L1 C i) t A (List.range H.length) = true) : Ev (fun q => bank_Safe.f q A H C) true := by
  have S := safe_ hA hH hC hm
  rw [(run_iff (n := H.length) (th := A) (ok_good (mayB_ok hm)) rfl).2 ⟨t, ht, hc⟩] at S
  exact S
theorem rd_snoc_lt {l : List (List Int)} {x : List Int} {i : Nat} (h : i < l.length) : rd_L1 (l ++ [x]) (i : Int) = rd_L1 l (i : Int) := by
  simp only [rd_L1, Int.toNat_natCast, List.getD_eq_getElem?_getD]
  rw [List.getElem?_append_left h]
theorem rd_snoc_eq {l : List (List Int)} {x : List Int} {n : Nat} (h : l.length = n) : rd_L1 (l ++ [x]) (n : Int) = x := by
  subst h
  simp [rd_L1, List.getD_eq_getElem?_getD]
theorem tmod_bd {a m : Int} (ha : 0 < a) (hm : 0 < m) : 0 ≤ a.tmod m ∧ a.tmod m < m := by
  rw [tmod_is hm, if_neg (by omega)]
  exact ⟨Int.emod_nonneg _ (by omega), Int.emod_lt_of_pos _ hm⟩
theorem two_at (zs : List Int) {n : Nat} (i : Nat) (h : i < n) : rd (rd_L1 (mH zs n) (i : Int)) 0 = nxt zs (4 * i + 2) 3 ∧ rd (rd_L1 (mH zs n) (i : Int)) 1 = nxt zs (4 * i + 3) 3 ∧ (rd_L1 (mH zs n) (i : Int)).length = 2 := by
  rw [mH_at zs h]; exact ⟨rfl, rfl, rfl⟩
section
variable (zs : List Int) {n : Nat} (hn : n ≤ 12)
include hn
/-- What the law tries when the state is safe. -/
theorem rest_ (a b m : Int) {t : List Int} (ht : t.length = (mH zs n).length) (hc : bank_comp (fun i => rd_L1 (mH zs n) i) (fun i => rd_L1 (mC zs n) i) t (stA zs) (List.range (mH zs n).length) = true) (x y : Int)
    (hx : x = rd (stA zs) 0 + sumL (fun i => rd (rd_L1 (mH zs n) (i : Int)) 0) (List.range n)) (hy : y = rd (stA zs) 1 + sumL (fun i => rd (rd_L1 (mH zs n) (i : Int)) 1) (List.range n)) (p q : Int) (hp : 0 ≤ p ∧ p ≤ x) (hq : 0 ≤ q ∧ q ≤ y) : Ev (fun k => signalboxlaw14_BankComes.j3 k m (stA zs) (mH zs n) (mC zs n) p q) true := by
  have a0 := nxt_lo zs 0 (most := 4) (by decide)
  have a1 := nxt_hi zs 0 (most := 4) (by decide)
  have b0 := nxt_lo zs 1 (most := 4) (by decide)
  have b1 := nxt_hi zs 1 (most := 4) (by decide)
  have s0 := sumL_bd (fun i => rd (rd_L1 (mH zs n) (i : Int)) 0) 2 (List.range n) (fun i hi => by
    have e := (two_at zs i (List.mem_range.1 hi)).1
    simp only [e]
    have := nxt_lo zs (4 * i + 2) (most := 3) (by decide)
    have := nxt_hi zs (4 * i + 2) (most := 3) (by decide)
    omega)
  have s1 := sumL_bd (fun i => rd (rd_L1 (mH zs n) (i : Int)) 1) 2 (List.range n) (fun i hi => by
    have e := (two_at zs i (List.mem_range.1 hi)).2.1
    simp only [e]
    have := nxt_lo zs (4 * i + 3) (most := 3) (by decide)
    have := nxt_hi zs (4 * i + 3) (most := 3) (by decide)
    omega)
  rw [List.length_range] at s0 s1
  have eA0 : rd (stA zs) 0 = nxt zs 0 4 := rfl
  have eA1 : rd (stA zs) 1 = nxt zs 1 4 := rfl
  rw [eA0] at hx
  rw [eA1] at hy
  have lH := mH_len zs n
  have lC := mC_len zs n
  have hmay := st_may zs hn
  have hm1 : mayB (stA zs) (mH zs n ++ [[0, 0]]) (mC zs n ++ [[p, q]]) = true := by
    refine may2 _ _ _ _ (by omega) (by omega) (by simp [lH, lC]) (by simp [lH]; omega) (fun i hi => ?_)
    simp only [List.length_append, List.length_cons, List.length_nil, lH] at hi
    unfold rowP
    by_cases e : i < n
    · rw [rd_snoc_lt (by omega), rd_snoc_lt (by omega)]
      exact st_row zs e
    · obtain rfl : i = n := by omega
      rw [rd_snoc_eq lH, rd_snoc_eq lC, Go.Proofs.Ytlngcnijlijplaa.BankKit.two_ _ _ (by omega) (by omega), Go.Proofs.Ytlngcnijlijplaa.BankKit.two_ _ _ (by omega) (by omega), fits2 _ _ _ _ (by omega) (by omega)]; rfl
  have S1 : Ev (fun k => bank_Safe.f k (stA zs) (mH zs n ++ [[0, 0]]) (mC zs n ++ [[p, q]])) true := by
    refine safe_yes (by simp [stA]) ?_ ?_ hm1 (t := t ++ [(n : Int)]) (by simp [ht]) ?_
    · intro z hz
      rcases List.mem_append.1 hz with hz | hz
      · exact mH_row zs n z hz
      · rw [List.mem_singleton.1 hz]; simp
    · intro z hz
      rcases List.mem_append.1 hz with hz | hz
      · exact mC_row zs n z hz
      · rw [List.mem_singleton.1 hz]; simp
    · have e : List.range (mH zs n ++ [[0, 0]]).length = List.range (mH zs n).length ++ [n] := by rw [List.length_append, lH]; exact List.range_succ
      rw [e]
      refine comp_last (d := 2) t (stA zs) (List.range (mH zs n).length) (ok_good (mayB_ok hmay)) (fun i hi => ?_) (by simp [lH]) rfl (by rw [ht, List.length_range]) ?_ (fun j hj => ?_) hc
      · have hi' := List.mem_range.1 hi
        exact ⟨rd_snoc_lt hi', rd_snoc_lt (by rw [lC]; rw [lH] at hi'; exact hi')⟩
      · show (rd_L1 (mC zs n ++ [[p, q]]) (n : Int)).length = 2
        rw [rd_snoc_eq lC]; rfl
      · show rd (rd_L1 (mC zs n ++ [[p, q]]) (n : Int)) j - rd (rd_L1 (mH zs n ++ [[0, 0]]) (n : Int)) j ≤ _
        rw [rd_snoc_eq lC, rd_snoc_eq lH, lH]
        rcases (by omega : j = 0 ∨ j = 1) with rfl | rfl
        · show p - 0 ≤ rd (stA zs) 0 + sumL (fun i => rd (rd_L1 (mH zs n) (i : Int)) 0) (List.range n)
          rw [eA0]; omega
        · show q - 0 ≤ rd (stA zs) 1 + sumL (fun i => rd (rd_L1 (mH zs n) (i : Int)) 1) (List.range n)
          rw [eA1]; omega
  have S2 : ∀ v : Int, 0 ≤ v ∧ v ≤ 19 → Ev (fun k => bank_Safe.f k [wrap64 (rd (stA zs) 0 + v), rd (stA zs) 1] (mH zs n) (mC zs n)) true := by
    intro v hv
    rw [eA0, eA1, w64 (by omega) (by omega)]
    refine safe_yes (by simp) (mH_row zs n) (mC_row zs n) ?_ (t := t) ht ?_
    · refine may2 _ _ _ _ (by omega) (by omega) (by rw [lH, lC]) (by rw [lH]; omega) (fun i hi => st_row zs (by rw [lH] at hi; exact hi))
    · refine comp_mono (d := 2) t (stA zs) _ _ (ok_good (mayB_ok hmay)) ⟨rfl, rfl, fun j hj => ?_⟩ hc
      rcases (by omega : j = 0 ∨ j = 1) with rfl | rfl
      · show rd (stA zs) 0 ≤ nxt zs 0 4 + v
        rw [eA0]; omega
      · show rd (stA zs) 1 ≤ nxt zs 1 4
        rw [eA1]; omega
  refine Ev.step (fun k => by simp only [signalboxlaw14_BankComes.j3]; rfl) ?_
  refine bndc (a := ([] : List (List Int))) rfl (pos (by rw [lH]; simp; omega) (bndc (a := mH zs n) (by simp) (pos (by rw [lH]; omega) (bndc (a := ([] : List (List Int))) rfl (pos (by rw [lC]; simp; omega) (bndc (a := mC zs n) (by simp) (pos (by rw [lC]; omega) (bnd S1 (pos rfl ?_)))))))))
  refine ite (fun h => ?_) (fun h => ?_)
  · have := tmod_bd h (m := 20) (by decide)
    refine Ev.step (fun k => by simp only [signalboxlaw14_BankComes.j4]; rfl) ?_
    exact pos (by simp [stA]) (pos (by simp [stA]) (bnd (S2 _ (by omega)) (pos rfl (bnd awake (somec rfl)))))
  · refine Ev.step (fun k => by simp only [signalboxlaw14_BankComes.j4]; rfl) ?_
    exact pos (by simp [stA]) (pos (by simp [stA]) (bnd (S2 _ (by omega)) (pos rfl (bnd awake (somec rfl)))))
/-- The sums, and the end. -/
theorem loop_ (a b m : Int) {t : List Int} (ht : t.length = (mH zs n).length) (hc : bank_comp (fun i => rd_L1 (mH zs n) i) (fun i => rd_L1 (mC zs n) i) t (stA zs) (List.range (mH zs n).length) = true) : ∀ (d i : Nat) (x y : Int), n - i = d → i ≤ n → x = rd (stA zs) 0 + sumL (fun i => rd (rd_L1 (mH zs n) (i : Int)) 0) (List.range i) → y = rd (stA zs) 1 + sumL (fun i => rd (rd_L1 (mH zs n) (i : Int)) 1) (List.range i) → 0 ≤ x ∧ x ≤ 3 + 2 * i ∧ 0 ≤ y ∧ y ≤ 3 + 2 * i →
    Ev (fun k => signalboxlaw14_BankComes.l0 k (n : Int) a b m (stA zs) (mH zs n) (mC zs n) x y i) true
  | 0, i, x, y, hd, hi, hx, hy, hb => by
    have e : i = n := by omega
    subst e
    have w1 : wrap64 (x + 1) = x + 1 := w64 (by omega) (by omega)
    have w2 : wrap64 (y + 1) = y + 1 := w64 (by omega) (by omega)
    have fin : ∀ p : Int, 0 ≤ p ∧ p ≤ x → Ev (fun k => signalboxlaw14_BankComes.j2 k b m (stA zs) (mH zs i) (mC zs i) y p) true := by
      intro p hp
      refine Ev.step (fun k => by simp only [signalboxlaw14_BankComes.j2]; rfl) ?_
      rw [w2]
      refine ite (fun h => neg (by omega) ?_) (fun h => ?_)
      · have := tmod_bd h (m := y + 1) (by omega)
        exact rest_ zs hn a b m ht hc x y hx hy p _ hp (by omega)
      · exact rest_ zs hn a b m ht hc x y hx hy p 0 hp (by omega)
    refine Ev.step (fun k => by simp only [signalboxlaw14_BankComes.l0]; rfl) ?_
    refine neg (by omega) ?_
    rw [w1]
    refine ite (fun h => neg (by omega) ?_) (fun h => ?_)
    · have := tmod_bd h (m := x + 1) (by omega)
      exact fin _ (by omega)
    · exact fin 0 (by omega)
  | d + 1, i, x, y, hd, hi, hx, hy, hb => by
    have hil : i < n := by omega
    obtain ⟨e0, e1, e2⟩ := two_at zs i hil
    have p0 := nxt_lo zs (4 * i + 2) (most := 3) (by decide)
    have p1 := nxt_hi zs (4 * i + 2) (most := 3) (by decide)
    have q0 := nxt_lo zs (4 * i + 3) (most := 3) (by decide)
    have q1 := nxt_hi zs (4 * i + 3) (most := 3) (by decide)
    have lH := mH_len zs n
    refine Ev.step (fun k => by simp only [signalboxlaw14_BankComes.l0]; rfl) ?_
    rw [e0, e1, e2, w64 (x := x + nxt zs (4 * i + 2) 3) (by omega) (by omega), w64 (x := y + nxt zs (4 * i + 3) 3) (by omega) (by omega), w64 (x := (i : Int) + 1) (by omega) (by omega), show ((i : Int) + 1) = ((i + 1 : Nat) : Int) by omega]
    refine pos (by omega) (pos (by omega) (pos (by omega) (pos (by decide) (pos (by decide) ?_))))
    refine loop_ a b m ht hc d (i + 1) _ _ (by omega) (by omega) ?_ ?_ (by omega)
    · rw [List.range_succ, sumL_snoc, e0]; omega
    · rw [List.range_succ, sumL_snoc, e1]; omega
end
end ComesKit
open ComesKit
theorem BankComes : signalboxlaw14_BankComes.Pure := by
  intro a0 zs a b m _ _ _ _ _ _ _
  refine Ev.rounds (show Ev (fun q => signalboxlaw14_BankComes.f q a0 zs a b m) true from ?_)
  have far : Ev (fun q => signalboxlaw14_BankComes.j0 q a0 zs a b m true) true := by
    refine Ev.step (fun q => by simp only [signalboxlaw14_BankComes.j0]; rfl) ?_
    exact pos trivial (bnd awake (somec rfl))
  unfold signalboxlaw14_BankComes.f
  refine ite (fun _ => far) (fun h1 => ite (fun _ => far) (fun h2 => ?_))
  by_cases h3 : (zs.length : Int) > 100
  · rw [decide_eq_true h3]; exact far
  rw [decide_eq_false h3]
  obtain ⟨n, rfl⟩ : ∃ n : Nat, a0 = (n : Int) := ⟨a0.toNat, by omega⟩
  have hn : n ≤ 12 := by omega
  have hm := st_may zs hn
  have st : signalboxlaw14_state.f (n : Int) zs = some (stA zs, mH zs n, mC zs n) := by
    unfold signalboxlaw14_state.f
    rw [if_pos ⟨by omega, by omega, by omega⟩]
    rfl
  refine Ev.step (fun q => by simp only [signalboxlaw14_BankComes.j0]; rfl) ?_
  refine neg (by simp) (bndc st ?_)
  have S := safe_ (A := stA zs) (by simp [stA]) (mH_row zs n) (mC_row zs n) hm
  refine bnd S (ite (fun h => ?_) (fun h => bnd awake (somec rfl)))
  obtain ⟨t, ht, hc⟩ := (run_iff (n := (mH zs n).length) (th := stA zs) (ok_good (mayB_ok hm)) rfl).1 h
  have a0 := nxt_lo zs 0 (most := 4) (by decide)
  have a1 := nxt_hi zs 0 (most := 4) (by decide)
  have b0 := nxt_lo zs 1 (most := 4) (by decide)
  have b1 := nxt_hi zs 1 (most := 4) (by decide)
  have eA0 : rd (stA zs) 0 = nxt zs 0 4 := rfl
  have eA1 : rd (stA zs) 1 = nxt zs 1 4 := rfl
  refine pos (by simp [stA]) (pos (by simp [stA]) ?_)
  exact loop_ zs hn a b m ht hc n 0 _ _ (by omega) (by omega) (by simp [sumL]) (by simp [sumL]) (by rw [eA0, eA1]; omega)
end Go.Proofs.Ytlngcnijlijplaa.Pure
