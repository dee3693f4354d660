import Derived.Test.YtlngcnijlijplaaPBankx0
import Derived.WalkMore
import Derived.Test.YtlngcnijlijplaaPBankx1
import Derived.Test.YtlngcnijlijplaaPBankx4
import Derived.Test.YtlngcnijlijplaaPBankx6
import Derived.Test.YtlngcnijlijplaaPBankx7
import Derived.Test.YtlngcnijlijplaaPBankx8
import Derived.Test.YtlngcnijlijplaaPBankx9
import Derived.Test.YtlngcnijlijplaaPBankx10
import Derived.Test.YtlngcnijlijplaaPBankx11
import Derived.Test.YtlngcnijlijplaaPBankx12
import Derived.Test.YtlngcnijlijplaaPBankx13
import Derived.Test.YtlngcnijlijplaaPBankx14
import Derived.Test.YtlngcnijlijplaaStateB
namespace Go.Proofs.Ytlngcnijlijplaa.PBank
open Go.RowKit Go.Proofs.YtlngcnijlijplaaW.PrintWords Go.Proofs.YtlngcnijlijplaaW.PrintLast Go.Proofs.YtlngcnijlijplaaW.PrintMore
attribute [local go_sem] max2_int min2_int max_two min_two max_three min_three max_four min_four
set_option linter.unusedVariables false
set_option linter.unusedSimpArgs false
set_option maxHeartbeats 16000000 in
set_option maxRecDepth 100000 in
theorem BankMade.out (k : Nat) (a0 : Int) (A1 : Option Addr) (c1 : Nat) (zs : List Int) (A2 : Option Addr) (c2 : Nat) (od : List Int) (w : World) (hr1 : Kd.C (Kd.int .i64) w A1 zs.length zs) (hc1 : zs.length ≤ c1) (hr2 : Kd.C (Kd.int .i64) w A2 od.length od) (hc2 : od.length ≤ c2) (hA0 : signalboxlaw14_awake.f k = some true) (h : a0 < 0 ∨ a0 > 12 ∨ (zs.length : Int) > 100 ∨ (od.length : Int) > 20) :
    Calls Try.prog 4 #[.int .i64 a0, .slice A1 zs.length c1, .slice A2 od.length c2] w fun e w' => e = .returned (.bool true) ∧ Below w.heap.size w w' := by
  have HB := Aside0.mk (Below.refl w.heap.size w)
  have hA := Aside0.mk hA0
  clear hA0 hr1 hc1 hr2 hc2
  by_cases q1 : a0 < 0
  · clear h
    go_enter Try.func4, Try.ntmps4
    go_wp2_with (first | (go_at_call 9; (with_reducible refine (signalboxlaw14_awake.calls k true _ hA.out).mono ?_); rintro e w9 ⟨rfl, hb⟩; have n0_ := Aside0.mk (below_step HB.out hb); clear HB hb; have HB := n0_; clear n0_))
    go_ret
    exact ⟨rfl, HB.out⟩
  by_cases q2 : a0 > 12
  · clear h
    go_enter Try.func4, Try.ntmps4
    go_wp2_with (first | (go_at_call 9; (with_reducible refine (signalboxlaw14_awake.calls k true _ hA.out).mono ?_); rintro e w9 ⟨rfl, hb⟩; have n0_ := Aside0.mk (below_step HB.out hb); clear HB hb; have HB := n0_; clear n0_))
    go_ret
    exact ⟨rfl, HB.out⟩
  by_cases q3 : (zs.length : Int) > 100
  · clear h
    go_enter Try.func4, Try.ntmps4
    go_wp2_with (first | (go_at_call 9; (with_reducible refine (signalboxlaw14_awake.calls k true _ hA.out).mono ?_); rintro e w9 ⟨rfl, hb⟩; have n0_ := Aside0.mk (below_step HB.out hb); clear HB hb; have HB := n0_; clear n0_))
    go_ret
    exact ⟨rfl, HB.out⟩
  have q4 : (od.length : Int) > 20 := by omega
  · clear h
    go_enter Try.func4, Try.ntmps4
    go_wp2_with (first | (go_at_call 9; (with_reducible refine (signalboxlaw14_awake.calls k true _ hA.out).mono ?_); rintro e w9 ⟨rfl, hb⟩; have n0_ := Aside0.mk (below_step HB.out hb); clear HB hb; have HB := n0_; clear n0_))
    go_ret
    exact ⟨rfl, HB.out⟩
set_option maxHeartbeats 16000000 in
set_option maxRecDepth 100000 in
theorem BankMade.in_ (n : Nat) (hn : n ≤ 12) (LA : List Int) (LH LC : List (List Int)) (r1 : List Int) (r2 b : Bool) (k : Nat) (a0 : Int) (A1 : Option Addr) (c1 : Nat) (zs : List Int) (A2 : Option Addr) (c2 : Nat) (od : List Int) (w : World) (hr1 : Kd.C (Kd.int .i64) w A1 zs.length zs) (hc1 : zs.length ≤ c1) (hr2 : Kd.C (Kd.int .i64) w A2 od.length od) (hc2 : od.length ≤ c2) (hz : (zs.length : Int) ≤ 100) (ho : (od.length : Int) ≤ 20) (ea : a0 = (n : Int)) (eA : stA zs = LA) (eH : (List.range n).map (stH zs) = LH) (eC : (List.range n).map (stC zs) = LC)
    (hA0 : signalboxlaw14_awake.f k = some true) (hO0 : bank_Order.f k LA LH LC = some (r1, r2)) (hQ0 : signalboxref14_Order.f k LA LH LC = some (r1, r2)) (hI0 : signalboxref1_Ints.f k r1 r1 = some true) (hS0 : bank_Safe.f k LA LH LC = some r2) (hM0 : bank_May.f k LA LH LC = some true)
    (hC10 : r2 = true → bank_Completes.f k LA LH LC r1 = some true) (hC20 : bank_Completes.f k LA LH LC od = some b) (hC30 : signalboxref14_Completes.f k LA LH LC od = some b) :
    Calls Try.prog 4 #[.int .i64 a0, .slice A1 zs.length c1, .slice A2 od.length c2] w fun e w' => e = .returned (.bool true) ∧ Below w.heap.size w w' := by
  have HB := Aside0.mk (Below.refl w.heap.size w)
  have hA := Aside0.mk hA0
  have hO := Aside0.mk hO0
  have hQ := Aside0.mk hQ0
  have hI := Aside0.mk hI0
  have hS := Aside0.mk hS0
  have hM := Aside0.mk hM0
  have hC1 := Aside0.mk hC10
  have hC2 := Aside0.mk hC20
  have hC3 := Aside0.mk hC30
  have EA := Aside0.mk eA
  have EH := Aside0.mk eH
  have EC := Aside0.mk eC
  have HR1 := Aside0.mk hr1
  have HC1 := Aside0.mk hc1
  have HR2 := Aside0.mk hr2
  have HC2 := Aside0.mk hc2
  have HN := Aside0.mk hn
  have HZ : Aside0 (zs.length ≤ 1000) := ⟨by omega⟩
  have q1 : 0 ≤ (n : Int) := by omega
  have q2 : ¬ (n : Int) > 12 := by omega
  have q3 : ¬ (zs.length : Int) > 100 := by omega
  have q4 : ¬ (od.length : Int) > 20 := by omega
  have q5 : (n : Int) ≤ 12 := by omega
  have q6 : ¬ (n : Int) < 0 := by omega
  subst ea
  clear hA0 hO0 hQ0 hI0 hS0 hM0 hC10 hC20 hC30 eA eH eC hr1 hc1 hr2 hc2 hn hz ho
  cases r2
  all_goals
    go_enter Try.func4, Try.ntmps4
    (try simp only [List.append_eq, List.cons_append, List.nil_append])
    go_wp2_with (first | (go_at_call 16; have CN := signalboxlaw14_state.calls n HN.out A1 c1 zs _ HZ.out (Kd.C_below HR1.out HB.out); rw [EA.out, EH.out, EC.out] at CN; (with_reducible refine CN.mono ?_); clear CN; rintro e ws ⟨v0, v1, v2, rfl, ⟨A7, c7, rfl, hc7, hr7⟩, ⟨A8, c8, rfl, hc8, hr8⟩, ⟨A9, c9, rfl, hc9, hr9⟩, hb⟩; have HR7 := Aside0.mk hr7; have HC7 := Aside0.mk hc7; have HR8 := Aside0.mk hr8; have HC8 := Aside0.mk hc8; have HR9 := Aside0.mk hr9; have HC9 := Aside0.mk hc9; have HS := Aside0.mk (Below.refl ws.heap.size ws); have n0_ := Aside0.mk (below_step HB.out hb); clear HB hb hr7 hc7 hr8 hc8 hr9 hc9; have HB := n0_; clear n0_) | (go_at_call 10; (with_reducible refine (bank_Order.calls k _ _ LA _ _ LH _ _ LC r1 _ _ (Kd.C_below HR7.out HS.out) HC7.out (Kd.C_below HR8.out HS.out) HC8.out (Kd.C_below HR9.out HS.out) HC9.out hO.out).mono ?_); rintro e w42 ⟨v10, rfl, ho, hb⟩; obtain ⟨A10, c10, rfl, hc10, hr10⟩ := Kd.R_reads ho; have HR10 := Aside0.mk hr10; have HC10 := Aside0.mk hc10; clear ho hr10 hc10; have HT := Aside0.mk (Below.refl w42.heap.size w42); have n0_ := Aside0.mk (below_step HB.out hb); have n1_ := Aside0.mk (below_step HS.out hb); clear HB HS hb; have HB := n0_; have HS := n1_; clear n0_ n1_) | (go_at_call 11; (with_reducible refine (signalboxref14_Order.calls k (fun k_ => k_ < ws.heap.size) _ _ LA _ _ LH _ _ LC r1 _ _ (Kd.V_mk HC7.out (Kd.F_below (Kd.C_F (Kd.heap_int .i64) HR7.out) HS.out)) (Kd.C_below HR8.out HS.out) HC8.out (Kd.C_below HR9.out HS.out) HC9.out hQ.out).mono ?_); rintro e w49 ⟨v12, rfl, ho, hb⟩; obtain ⟨A12, c12, rfl, hc12, hr12⟩ := Kd.R_reads ho; have HR12 := Aside0.mk hr12; have HC12 := Aside0.mk hc12; clear ho hr12 hc12; have HU := Aside0.mk (Below.refl w49.heap.size w49); have n0_ := Aside0.mk (below_step HB.out hb); have n2_ := Aside0.mk (below_step HT.out hb); have n1_ := Aside0.mk (below_step HS.out hb); clear HB HS HT hb; have HB := n0_; have HS := n1_; have HT := n2_; clear n0_ n1_ n2_) | (go_at_call 14; (with_reducible refine (signalboxref1_Ints.calls k _ _ r1 _ _ r1 true _ (Kd.C_below HR10.out HT.out) HC10.out (Kd.C_below HR12.out HU.out) HC12.out hI.out).mono ?_); rintro e w58 ⟨rfl, nd, rfl⟩; have n0_ := Aside0.mk (pw_below_drewN HB.out nd); have n1_ := Aside0.mk (pw_below_drewN HS.out nd); have n2_ := Aside0.mk (pw_below_drewN HT.out nd); clear HB HS HT; have HB := n0_; have HS := n1_; have HT := n2_; clear n0_ n1_ n2_) | (go_at_call 15; (with_reducible refine (bank_Safe.calls k _ _ LA _ _ LH _ _ LC _ _ (Kd.C_below HR7.out HS.out) HC7.out (Kd.C_below HR8.out HS.out) HC8.out (Kd.C_below HR9.out HS.out) HC9.out hS.out).mono ?_); rintro e w65 ⟨rfl, hb⟩; have n0_ := Aside0.mk (below_step HB.out hb); have n2_ := Aside0.mk (below_step HT.out hb); have n1_ := Aside0.mk (below_step HS.out hb); clear HB HS HT hb; have HB := n0_; have HS := n1_; have HT := n2_; clear n0_ n1_ n2_) | (go_at_call 12; (with_reducible refine (bank_May.calls k _ _ LA _ _ LH _ _ LC true _ (Kd.C_below HR7.out HS.out) HC7.out (Kd.C_below HR8.out HS.out) HC8.out (Kd.C_below HR9.out HS.out) HC9.out hM.out).mono ?_); rintro e w73 ⟨rfl, hb⟩; have n0_ := Aside0.mk (below_step HB.out hb); have n2_ := Aside0.mk (below_step HT.out hb); have n1_ := Aside0.mk (below_step HS.out hb); clear HB HS HT hb; have HB := n0_; have HS := n1_; have HT := n2_; clear n0_ n1_ n2_) | (go_at_call 17; (with_reducible refine (bank_Completes.calls k _ _ LA _ _ LH _ _ LC _ _ od b _ (Kd.C_below HR7.out HS.out) HC7.out (Kd.C_below HR8.out HS.out) HC8.out (Kd.C_below HR9.out HS.out) HC9.out (Kd.C_below HR2.out HB.out) HC2.out hC2.out).mono ?_); rintro e w90 ⟨rfl, hb⟩; have n0_ := Aside0.mk (below_step HB.out hb); have n2_ := Aside0.mk (below_step HT.out hb); have n1_ := Aside0.mk (below_step HS.out hb); clear HB HS HT hb; have HB := n0_; have HS := n1_; have HT := n2_; clear n0_ n1_ n2_) | (go_at_call 18; (with_reducible refine (signalboxref14_Completes.calls k (fun k_ => k_ < ws.heap.size) _ _ LA _ _ LH _ _ LC _ _ od b _ (Kd.V_mk HC7.out (Kd.F_below (Kd.C_F (Kd.heap_int .i64) HR7.out) HS.out)) (Kd.C_below HR8.out HS.out) HC8.out (Kd.C_below HR9.out HS.out) HC9.out (Kd.C_below HR2.out HB.out) HC2.out hC3.out).mono ?_); rintro e w95 ⟨rfl, hb⟩; have n0_ := Aside0.mk (below_step HB.out hb); have n2_ := Aside0.mk (below_step HT.out hb); have n1_ := Aside0.mk (below_step HS.out hb); clear HB HS HT hb; have HB := n0_; have HS := n1_; have HT := n2_; clear n0_ n1_ n2_) | (go_at_call 17; (with_reducible refine (bank_Completes.calls k _ _ LA _ _ LH _ _ LC _ _ r1 true _ (Kd.C_below HR7.out HS.out) HC7.out (Kd.C_below HR8.out HS.out) HC8.out (Kd.C_below HR9.out HS.out) HC9.out (Kd.C_below HR10.out HT.out) HC10.out (hC1.out (by first | rfl | trivial))).mono ?_); rintro e w83 ⟨rfl, hb⟩; have n0_ := Aside0.mk (below_step HB.out hb); have n2_ := Aside0.mk (below_step HT.out hb); have n1_ := Aside0.mk (below_step HS.out hb); clear HB HS HT hb; have HB := n0_; have HS := n1_; have HT := n2_; clear n0_ n1_ n2_) | (go_at_call 9; (with_reducible refine (signalboxlaw14_awake.calls k true _ hA.out).mono ?_); rintro e w99 ⟨rfl, hb⟩; have n0_ := Aside0.mk (below_step HB.out hb); clear HB hb; have HB := n0_; clear n0_))
    go_ret
    exact ⟨rfl, HB.out⟩

end Go.Proofs.Ytlngcnijlijplaa.PBank
