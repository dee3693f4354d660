/-
  A state is safe just if some order of its processes completes: what a call of BankSafe comes to.
-/
import Derived.Test.YtlngcnijlijplaaWalkBankSafe
import Derived.Test.YtlngcnijlijplaaBankSafeLib
import Derived.Test.YtlngcnijlijplaaSafeB
import Derived.Test.YtlngcnijlijplaaPBankx9
namespace Go.Proofs.Ytlngcnijlijplaa.Pure
open Go.RowKit Go.Proofs.Ytlngcnijlijplaa.PBank Go.Proofs.Ytlngcnijlijplaa.EvKit Go.Proofs.Ytlngcnijlijplaa.BankKit Go.Proofs.YtlngcnijlijplaaW.PrintWords Go.Proofs.YtlngcnijlijplaaW.PrintLast

namespace SafeKit
theorem comp_nodup {H C : Nat → List Int} : ∀ (l th : List Int) (L : List Nat), L.Nodup → bank_comp H C l th L = true → l.Nodup ∧ ∀ x ∈ l, ∃ i ∈ L, x = ((i : Nat) : Int)
  | [], _, _, _, _ => ⟨List.nodup_nil, fun _ h => by cases h⟩
  | x :: l, th, L, hn, h => by
    obtain ⟨k, rfl, hk, _, hr⟩ := comp_cons h
    obtain ⟨h1, h2⟩ := comp_nodup l _ _ (hn.erase k) hr
    refine ⟨List.nodup_cons.2 ⟨fun q => ?_, h1⟩, fun y hy => ?_⟩
    · obtain ⟨i, hi, e⟩ := h2 _ q
      obtain rfl : k = i := by omega
      exact (hn.mem_erase_iff.1 hi).1 rfl
    · rcases List.mem_cons.1 hy with rfl | hy
      · exact ⟨k, hk, rfl⟩
      · obtain ⟨i, hi, e⟩ := h2 _ hy
        exact ⟨i, List.mem_of_mem_erase hi, e⟩
section
variable {A : List Int} {H C : List (List Int)}
/-- From i on: some process that is not there yet goes next, and the rest completes. -/
theorem some_l {ord : List Int} {m : Nat} (hn : H.length ≤ 32) (ho : ord.length ≤ 32) {p : Nat → Prop}
    (ih : ∀ j : Nat, j < H.length → ∃ b, Ev (fun q => signalboxlaw14_some.f q A H C (ord ++ [(j : Int)])) b ∧ (b = true ↔ p j)) : ∀ (d i : Nat), H.length - i = d → i ≤ H.length → ∃ b, Ev (fun q => signalboxlaw14_some.l0 q A H C ord i) b ∧ (b = true ↔ ∃ j : Nat, i ≤ j ∧ j < H.length ∧ ¬ (j : Int) ∈ ord ∧ p j)
  | 0, i, hd, hi => by
    refine ⟨false, ?_, ?_⟩
    · refine Ev.step (fun q => by simp only [signalboxlaw14_some.l0]; rfl) ?_
      exact neg (by omega) (somec rfl)
    · constructor
      · intro h; cases h
      · rintro ⟨j, h1, h2, _⟩; omega
  | d + 1, i, hd, hi => by
    obtain ⟨b, hb, hbi⟩ := some_l (m := m) hn ho ih d (i + 1) (by omega) (by omega)
    have hil : i < H.length := by omega
    have w : wrap64 ((i : Int) + 1) = ((i + 1 : Nat) : Int) := by rw [w64 (by omega) (by omega)]; omega
    by_cases hin : (i : Int) ∈ ord
    · refine ⟨b, ?_, hbi.trans ⟨fun ⟨j, h1, h2⟩ => ⟨j, by omega, h2⟩, fun ⟨j, h1, h2, h3, h4⟩ => ⟨j, by
        rcases Nat.lt_or_ge i j with q | q
        · exact q
        · obtain rfl : i = j := by omega
          exact absurd hin h3, h2, h3, h4⟩⟩⟩
      refine Ev.step (fun q => by simp only [signalboxlaw14_some.l0]; rfl) ?_
      refine pos (by omega) (bnd (has ord i (by omega)) (pos (decide_eq_true hin) ?_))
      rw [w]; exact hb
    · obtain ⟨c, hc, hci⟩ := ih i hil
      have cp : signalboxref1_Copy.f ord = some ord := by
        unfold signalboxref1_Copy.f
        simp only [Option.bind_some, List.length_nil, List.nil_append]
        rw [if_pos (by omega)]
      cases c with
      | true =>
        refine ⟨true, ?_, ⟨fun _ => ⟨i, Nat.le_refl _, hil, hin, hci.1 rfl⟩, fun _ => rfl⟩⟩
        refine Ev.step (fun q => by simp only [signalboxlaw14_some.l0]; rfl) ?_
        exact pos (by omega) (bnd (has ord i (by omega)) (neg (by simp [hin]) (bndc cp (pos (by omega) (bnd hc (pos rfl (somec rfl)))))))
      | false =>
        refine ⟨b, ?_, hbi.trans ⟨fun ⟨j, h1, h2⟩ => ⟨j, by omega, h2⟩, fun ⟨j, h1, h2, h3, h4⟩ => ⟨j, by
          rcases Nat.lt_or_ge i j with q | q
          · exact q
          · obtain rfl : i = j := by omega
            exact absurd (hci.2 h4) (by decide), h2, h3, h4⟩⟩⟩
        refine Ev.step (fun q => by simp only [signalboxlaw14_some.l0]; rfl) ?_
        refine pos (by omega) (bnd (has ord i (by omega)) (neg (by simp [hin]) (bndc cp (pos (by omega) (bnd hc (neg (by decide) ?_))))))
        rw [w]; exact hb
theorem some_ (hn : H.length ≤ 32) (K : ∀ ord : List Int, ord.length = H.length → Ev (fun q => bank_Completes.f q A H C ord) (bank_comp (fun i => rd_L1 H i) (fun i => rd_L1 C i) ord A (List.range H.length))) :
    ∀ (m : Nat) (ord : List Int), ord.length + m = H.length → ∃ b, Ev (fun q => signalboxlaw14_some.f q A H C ord) b ∧ (b = true ↔ ∃ t : List Int, t.length = m ∧ bank_comp (fun i => rd_L1 H i) (fun i => rd_L1 C i) (ord ++ t) A (List.range H.length) = true)
  | 0, ord, ho => by
    refine ⟨bank_comp (fun i => rd_L1 H i) (fun i => rd_L1 C i) ord A (List.range H.length), ?_, ?_⟩
    · refine Ev.step (fun q => by simp only [signalboxlaw14_some.f]; rfl) ?_
      exact pos (by omega) (bnd (K ord (by omega)) (somec rfl))
    · constructor
      · intro h; exact ⟨[], rfl, by rw [List.append_nil]; exact h⟩
      · rintro ⟨t, ht, h⟩
        obtain rfl := List.length_eq_zero_iff.1 ht
        rw [List.append_nil] at h; exact h
  | m + 1, ord, ho => by
    obtain ⟨b, hb, hbi⟩ := some_l (A := A) (H := H) (C := C) (ord := ord) (m := m) hn (by omega) (fun j hj => some_ hn K m (ord ++ [(j : Int)]) (by simp; omega)) H.length 0 (by omega) (by omega)
    refine ⟨b, ?_, hbi.trans ?_⟩
    · refine Ev.step (fun q => by simp only [signalboxlaw14_some.f]; rfl) ?_
      exact neg (by omega) hb
    · constructor
      · rintro ⟨j, _, hj, hn, t, ht, h⟩
        exact ⟨(j : Int) :: t, by simp [ht], by rw [List.append_assoc] at h; exact h⟩
      · rintro ⟨t, ht, h⟩
        cases t with
        | nil => simp at ht
        | cons x t =>
          obtain ⟨h1, h2⟩ := comp_nodup _ _ _ List.nodup_range h
          obtain ⟨j, hj, rfl⟩ := h2 x (by simp)
          refine ⟨j, Nat.zero_le _, List.mem_range.1 hj, ?_, t, by simpa using ht, by rw [List.append_assoc]; exact h⟩
          intro q
          rw [List.nodup_append] at h1
          exact h1.2.2 _ q _ List.mem_cons_self rfl
end
end SafeKit
open SafeKit
theorem BankSafe : signalboxlaw14_BankSafe.Walk := by
  intro a0 a1 len1 cap1 z1 w w0 w1 y1
  obtain ⟨zs, rfl, hr1, hm1, hw1, hc1⟩ := ReadsInt.ofRowC w1
  have k1 := Kd.C_of_reads (d := (0 : Int)) (h1 := fun _ => rfl) hr1
  by_cases h : a0 < 0 ∨ a0 > 5 ∨ (zs.length : Int) > 40
  · obtain ⟨k, hk⟩ := Ev.rounds awake
    exact BankSafe.out k a0 a1 cap1 zs w k1 hc1 hk h
  obtain ⟨n, rfl⟩ : ∃ n : Nat, a0 = (n : Int) := ⟨a0.toNat, by omega⟩
  have hn : n ≤ 5 := by omega
  have hm := st_may zs (n := n) (by omega)
  have ok := mayB_ok hm
  have hbA : (stA zs).length ≤ 9223372036854775807 := by simp [stA]
  have M1 := bmay _ _ _ hbA (mH_row zs n) (mC_row zs n)
  rw [hm] at M1
  have S : Ev (fun q => bank_Safe.f q (stA zs) (mH zs n) (mC zs n)) (bank_run (fun i => rd_L1 (mH zs n) i) (fun i => rd_L1 (mC zs n) i) (mH zs n).length (mH zs n).length (stA zs) (List.range (mH zs n).length) []).2 := by
    unfold bank_Safe.f bank_Order.f
    exact bnd (bnd M1 (pos rfl (Ev.now _))) (Ev.now _)
  have K : ∀ ord : List Int, ord.length = (mH zs n).length → Ev (fun q => bank_Completes.f q (stA zs) (mH zs n) (mC zs n) ord) (bank_comp (fun i => rd_L1 (mH zs n) i) (fun i => rd_L1 (mC zs n) i) ord (stA zs) (List.range (mH zs n).length)) := by
    intro ord ho
    unfold bank_Completes.f
    refine bnd M1 (pos rfl ?_)
    rw [if_pos ho]
    exact Ev.now _
  obtain ⟨b, B, hb⟩ := some_ (A := stA zs) (H := mH zs n) (C := mC zs n) (by rw [mH_len]; omega) K (mH zs n).length [] (by simp)
  have hiff := run_iff (n := (mH zs n).length) (th := stA zs) (ok_good ok) rfl
  have e : (bank_run (fun i => rd_L1 (mH zs n) i) (fun i => rd_L1 (mC zs n) i) (mH zs n).length (mH zs n).length (stA zs) (List.range (mH zs n).length) []).2 = b := by
    rw [Bool.eq_iff_iff, hb, hiff]
    rfl
  rw [e] at S
  obtain ⟨K1, e1⟩ := S
  obtain ⟨K2, e2⟩ := B
  obtain ⟨K3, e3⟩ := awake
  exact BankSafe.in_ n hn (stA zs) (mH zs n) (mC zs n) b (K1 + K2 + K3) (n : Int) a1 cap1 zs w k1 hc1 (by omega) rfl rfl rfl rfl (e3 _ (by omega)) (e1 _ (by omega)) (e2 _ (by omega))
end Go.Proofs.Ytlngcnijlijplaa.Pure
