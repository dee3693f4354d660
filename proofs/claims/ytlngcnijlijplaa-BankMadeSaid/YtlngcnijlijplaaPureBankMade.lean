/-
  The same of states of plain numbers, most of which may be: what a call of BankMade comes to.
-/
import Derived.Test.YtlngcnijlijplaaWalkBankMade
import Derived.Test.YtlngcnijlijplaaBankOrdLib
import Derived.Test.YtlngcnijlijplaaBankStLib
import Derived.Test.YtlngcnijlijplaaMadeB
import Derived.Test.YtlngcnijlijplaaPBankx9
namespace Go.Proofs.Ytlngcnijlijplaa.Pure
open Go.RowKit Go.Proofs.Ytlngcnijlijplaa.PBank Go.Proofs.Ytlngcnijlijplaa.EvKit Go.Proofs.Ytlngcnijlijplaa.BankKit Go.Proofs.YtlngcnijlijplaaW.PrintWords Go.Proofs.YtlngcnijlijplaaW.PrintLast

theorem BankMade : signalboxlaw14_BankMade.Walk := by
  intro a0 a1 len1 cap1 z1 a2 len2 cap2 z2 w w0 w1 y1 w2 y2
  obtain ⟨zs, rfl, hr1, hm1, hw1, hc1⟩ := ReadsInt.ofRowC w1
  obtain ⟨od, rfl, hr2, hm2, hw2, hc2⟩ := ReadsInt.ofRowC w2
  have k1 := Kd.C_of_reads (d := (0 : Int)) (h1 := fun _ => rfl) hr1
  have k2 := Kd.C_of_reads (d := (0 : Int)) (h1 := fun _ => rfl) hr2
  by_cases h : a0 < 0 ∨ a0 > 12 ∨ (zs.length : Int) > 100 ∨ (od.length : Int) > 20
  · obtain ⟨k, hk⟩ := Ev.rounds awake
    exact BankMade.out k a0 a1 cap1 zs a2 cap2 od w k1 hc1 k2 hc2 hk h
  obtain ⟨n, rfl⟩ : ∃ n : Nat, a0 = (n : Int) := ⟨a0.toNat, by omega⟩
  have hn : n ≤ 12 := by omega
  have hm := st_may zs hn
  have ok := mayB_ok hm
  have hbA : (stA zs).length ≤ 9223372036854775807 := by simp [stA]
  have M1 := bmay _ _ _ hbA (mH_row zs n) (mC_row zs n)
  rw [hm] at M1
  have O1 : Ev (fun q => bank_Order.f q (stA zs) (mH zs n) (mC zs n)) (bank_run (fun i => rd_L1 (mH zs n) i) (fun i => rd_L1 (mC zs n) i) (mH zs n).length (mH zs n).length (stA zs) (List.range (mH zs n).length) []) := by
    unfold bank_Order.f
    exact bnd M1 (pos rfl (Ev.now _))
  have O2 := rorder ok hbA (mH_row zs n) (mC_row zs n) hm
  obtain ⟨c, C1, C2⟩ := completes_ (stA zs) (mH zs n) (mC zs n) od hbA (mH_row zs n) (mC_row zs n)
  have hrun := run_comp (fun i => rd_L1 (mH zs n) i) (fun i => rd_L1 (mC zs n) i) (mH zs n).length (mH zs n).length (stA zs) (List.range (mH zs n).length) []
  have hlen := bank_run_len (fun i => rd_L1 (mH zs n) i) (fun i => rd_L1 (mC zs n) i) (mH zs n).length (mH zs n).length (stA zs) (List.range (mH zs n).length) []
  generalize bank_run (fun i => rd_L1 (mH zs n) i) (fun i => rd_L1 (mC zs n) i) (mH zs n).length (mH zs n).length (stA zs) (List.range (mH zs n).length) [] = R at O1 O2 hrun hlen
  obtain ⟨r1, r2⟩ := R
  have S : Ev (fun q => bank_Safe.f q (stA zs) (mH zs n) (mC zs n)) r2 := by
    unfold bank_Safe.f
    exact bnd O1 (Ev.now _)
  have hr1l : r1.length ≤ 12 := by rw [mH_len] at hlen; simp only [List.length_nil] at hlen; omega
  have I := ints r1 r1 (by omega)
  rw [decide_eq_true rfl] at I
  have K : r2 = true → Ev (fun q => bank_Completes.f q (stA zs) (mH zs n) (mC zs n) r1) true := by
    rintro rfl
    obtain ⟨t, e, ht, hc⟩ := hrun r1 rfl
    rw [List.nil_append] at e
    subst e
    unfold bank_Completes.f
    refine bnd M1 (pos rfl ?_)
    rw [if_pos ht]
    exact somec hc
  obtain ⟨K1, e1⟩ := O1
  obtain ⟨K2, e2⟩ := O2
  obtain ⟨K3, e3⟩ := S
  obtain ⟨K4, e4⟩ := I
  obtain ⟨K5, e5⟩ := C1
  obtain ⟨K6, e6⟩ := C2
  obtain ⟨K7, e7⟩ := awake
  obtain ⟨K8, e8⟩ := M1
  obtain ⟨K9, e9⟩ : ∃ K9, ∀ k, K9 ≤ k → r2 = true → bank_Completes.f k (stA zs) (mH zs n) (mC zs n) r1 = some true := by
    cases r2 with
    | false => exact ⟨0, fun _ _ h => by cases h⟩
    | true => obtain ⟨K9, e9⟩ := K rfl; exact ⟨K9, fun k hk _ => e9 k hk⟩
  exact BankMade.in_ n hn (stA zs) (mH zs n) (mC zs n) r1 r2 c (K1 + K2 + K3 + K4 + K5 + K6 + K7 + K8 + K9) (n : Int) a1 cap1 zs a2 cap2 od w k1 hc1 k2 hc2 (by omega) (by omega) rfl rfl rfl rfl
    (e7 _ (by omega)) (e1 _ (by omega)) (e2 _ (by omega)) (e4 _ (by omega)) (e3 _ (by omega)) (e8 _ (by omega)) (e9 _ (by omega)) (e5 _ (by omega)) (e6 _ (by omega))
end Go.Proofs.Ytlngcnijlijplaa.Pure
