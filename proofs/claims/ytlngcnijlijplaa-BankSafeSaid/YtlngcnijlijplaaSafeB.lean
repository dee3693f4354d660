import Derived.Test.YtlngcnijlijplaaPBankx0
import Derived.WalkMore
import Derived.Test.YtlngcnijlijplaaPBankx1
import Derived.Test.YtlngcnijlijplaaPBankx4
import Derived.Test.YtlngcnijlijplaaPBankx6
import Derived.Test.YtlngcnijlijplaaPBankx7
import Derived.Test.YtlngcnijlijplaaPBankx8
import Derived.Test.YtlngcnijlijplaaPBankx9
import Derived.Test.YtlngcnijlijplaaPBankx10
import Derived.Test.YtlngcnijlijplaaPBankx11
import Derived.Test.YtlngcnijlijplaaPBankx12
import Derived.Test.YtlngcnijlijplaaPBankx13
import Derived.Test.YtlngcnijlijplaaPBankx14
import Derived.Test.YtlngcnijlijplaaStateB
import Derived.Test.YtlngcnijlijplaaSomeB
namespace Go.Proofs.Ytlngcnijlijplaa.PBank
open Go.RowKit Go.Proofs.YtlngcnijlijplaaW.PrintWords Go.Proofs.YtlngcnijlijplaaW.PrintLast Go.Proofs.YtlngcnijlijplaaW.PrintMore
attribute [local go_sem] max2_int min2_int max_two min_two max_three min_three max_four min_four
set_option linter.unusedVariables false
set_option linter.unusedSimpArgs false
set_option maxHeartbeats 16000000 in
set_option maxRecDepth 100000 in
theorem BankSafe.out (k : Nat) (a0 : Int) (A1 : Option Addr) (c1 : Nat) (zs : List Int) (w : World) (hr1 : Kd.C (Kd.int .i64) w A1 zs.length zs) (hc1 : zs.length ≤ c1) (hA0 : signalboxlaw14_awake.f k = some true) (h : a0 < 0 ∨ a0 > 5 ∨ (zs.length : Int) > 40) :
    Calls Try.prog 6 #[.int .i64 a0, .slice A1 zs.length c1] w fun e w' => e = .returned (.bool true) ∧ Below w.heap.size w w' := by
  have HB := Aside0.mk (Below.refl w.heap.size w)
  have hA := Aside0.mk hA0
  clear hA0 hr1 hc1
  by_cases q1 : a0 < 0
  · clear h
    go_enter Try.func6, Try.ntmps6
    go_wp2_with (first | (go_at_call 9; (with_reducible refine (signalboxlaw14_awake.calls k true _ hA.out).mono ?_); rintro e w9 ⟨rfl, hb⟩; have n0_ := Aside0.mk (below_step HB.out hb); clear HB hb; have HB := n0_; clear n0_))
    go_ret
    exact ⟨rfl, HB.out⟩
  by_cases q2 : a0 > 5
  · clear h
    go_enter Try.func6, Try.ntmps6
    go_wp2_with (first | (go_at_call 9; (with_reducible refine (signalboxlaw14_awake.calls k true _ hA.out).mono ?_); rintro e w9 ⟨rfl, hb⟩; have n0_ := Aside0.mk (below_step HB.out hb); clear HB hb; have HB := n0_; clear n0_))
    go_ret
    exact ⟨rfl, HB.out⟩
  have q3 : (zs.length : Int) > 40 := by omega
  · clear h
    go_enter Try.func6, Try.ntmps6
    go_wp2_with (first | (go_at_call 9; (with_reducible refine (signalboxlaw14_awake.calls k true _ hA.out).mono ?_); rintro e w9 ⟨rfl, hb⟩; have n0_ := Aside0.mk (below_step HB.out hb); clear HB hb; have HB := n0_; clear n0_))
    go_ret
    exact ⟨rfl, HB.out⟩
set_option maxHeartbeats 16000000 in
set_option maxRecDepth 100000 in
theorem BankSafe.in_ (n : Nat) (hn : n ≤ 5) (LA : List Int) (LH LC : List (List Int)) (r2 : Bool) (k : Nat) (a0 : Int) (A1 : Option Addr) (c1 : Nat) (zs : List Int) (w : World) (hr1 : Kd.C (Kd.int .i64) w A1 zs.length zs) (hc1 : zs.length ≤ c1) (hz : (zs.length : Int) ≤ 40) (ea : a0 = (n : Int)) (eA : stA zs = LA) (eH : (List.range n).map (stH zs) = LH) (eC : (List.range n).map (stC zs) = LC)
    (hA0 : signalboxlaw14_awake.f k = some true) (hS0 : bank_Safe.f k LA LH LC = some r2) (hX0 : signalboxlaw14_some.f k LA LH LC [] = some r2) :
    Calls Try.prog 6 #[.int .i64 a0, .slice A1 zs.length c1] w fun e w' => e = .returned (.bool true) ∧ Below w.heap.size w w' := by
  have HB := Aside0.mk (Below.refl w.heap.size w)
  have hA := Aside0.mk hA0
  have hS := Aside0.mk hS0
  have hX := Aside0.mk hX0
  have EA := Aside0.mk eA
  have EH := Aside0.mk eH
  have EC := Aside0.mk eC
  have HR1 := Aside0.mk hr1
  have HC1 := Aside0.mk hc1
  have HN : Aside0 (n ≤ 12) := ⟨by omega⟩
  have HZ : Aside0 (zs.length ≤ 1000) := ⟨by omega⟩
  have q1 : 0 ≤ (n : Int) := by omega
  have q2 : ¬ (n : Int) > 5 := by omega
  have q3 : ¬ (zs.length : Int) > 40 := by omega
  have q5 : (n : Int) ≤ 5 := by omega
  have q6 : ¬ (n : Int) < 0 := by omega
  subst ea
  clear hA0 hS0 hX0 eA eH eC hr1 hc1 hn hz
  cases r2
  all_goals
    go_enter Try.func6, Try.ntmps6
    go_wp2_with (first | (go_at_call 16; have CN := signalboxlaw14_state.calls n HN.out A1 c1 zs _ HZ.out (Kd.C_below HR1.out HB.out); rw [EA.out, EH.out, EC.out] at CN; (with_reducible refine CN.mono ?_); clear CN; rintro e ws ⟨v0, v1, v2, rfl, ⟨A7, c7, rfl, hc7, hr7⟩, ⟨A8, c8, rfl, hc8, hr8⟩, ⟨A9, c9, rfl, hc9, hr9⟩, hb⟩; have HR7 := Aside0.mk hr7; have HC7 := Aside0.mk hc7; have HR8 := Aside0.mk hr8; have HC8 := Aside0.mk hc8; have HR9 := Aside0.mk hr9; have HC9 := Aside0.mk hc9; have HS := Aside0.mk (Below.refl ws.heap.size ws); have n0_ := Aside0.mk (below_step HB.out hb); clear HB hb hr7 hc7 hr8 hc8 hr9 hc9; have HB := n0_; clear n0_) | (go_at_call 15; (with_reducible refine (bank_Safe.calls k _ _ LA _ _ LH _ _ LC _ _ (Kd.C_below HR7.out HS.out) HC7.out (Kd.C_below HR8.out HS.out) HC8.out (Kd.C_below HR9.out HS.out) HC9.out hS.out).mono ?_); rintro e w30 ⟨rfl, hb⟩; have n0_ := Aside0.mk (below_step HB.out hb); have n1_ := Aside0.mk (below_step HS.out hb); clear HB HS hb; have HB := n0_; have HS := n1_; clear n0_ n1_) | (go_at_call 19; (refine (signalboxlaw14_some.calls k _ _ LA _ _ LH _ _ LC none 0 [] _ _ (Kd.C_below HR7.out HS.out) HC7.out (Kd.C_below HR8.out HS.out) HC8.out (Kd.C_below HR9.out HS.out) HC9.out (Kd.C_nil _ _) (Nat.le_refl _) hX.out).mono ?_); rintro e w34 ⟨rfl, hb⟩; have n0_ := Aside0.mk (below_step HB.out hb); have n1_ := Aside0.mk (below_step HS.out hb); clear HB HS hb; have HB := n0_; have HS := n1_; clear n0_ n1_) | (go_at_call 9; (with_reducible refine (signalboxlaw14_awake.calls k true _ hA.out).mono ?_); rintro e w99 ⟨rfl, hb⟩; have n0_ := Aside0.mk (below_step HB.out hb); clear HB hb; have HB := n0_; clear n0_))
    go_ret
    exact ⟨rfl, HB.out⟩

end Go.Proofs.Ytlngcnijlijplaa.PBank
