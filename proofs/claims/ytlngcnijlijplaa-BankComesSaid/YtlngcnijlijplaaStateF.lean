import Derived.Test.YtlngcnijlijplaaPBankx0
import Derived.Test.YtlngcnijlijplaaStateB
namespace Go.Proofs.Ytlngcnijlijplaa.PBank
open Go.RowKit Go.Proofs.YtlngcnijlijplaaW.PrintWords Go.Proofs.YtlngcnijlijplaaW.PrintLast Go.Proofs.YtlngcnijlijplaaW.PrintMore
attribute [local go_sem] max2_int min2_int max_two min_two max_three min_three max_four min_four
set_option linter.unusedVariables false
set_option linter.unusedSimpArgs false
def signalboxlaw14_state.f (a0 : Int) (l1 : List Int) : Option (List Int × (List (List Int)) × (List (List Int))) := if 0 ≤ a0 ∧ a0 ≤ 12 ∧ l1.length ≤ 1000 then some (stA l1, (List.range a0.toNat).map (stH l1), (List.range a0.toNat).map (stC l1)) else none
theorem signalboxlaw14_state.callsF (a0 : Int) (A1 : Option Addr) (c1 : Nat) (l1 : List Int) (r1 : List Int) (r2 : List (List Int)) (r3 : List (List Int)) (w : World) (hr1 : Kd.C (Kd.int .i64) w A1 l1.length l1) (hc1 : l1.length ≤ c1) (h : signalboxlaw14_state.f a0 l1 = some (r1, r2, r3)) :
    Calls Try.prog 16 #[.int .i64 a0, .slice A1 l1.length c1] w fun e w' => ∃ v0_ v1_ v2_ : Value, e = .returned (.tuple #[v0_, v1_, v2_]) ∧ Kd.R (Kd.int .i64) 3 w' w.heap.size (fun _ => True) v0_ r1 ∧ Kd.R (Kd.slice 3 (Kd.int .i64)) 22 w' w.heap.size (fun k_ => some k_ ≠ (v0_ : Value).ownBlock ∧ some k_ ≠ (v2_ : Value).ownBlock) v1_ r2 ∧ Kd.R (Kd.slice 3 (Kd.int .i64)) 22 w' w.heap.size (fun k_ => some k_ ≠ (v0_ : Value).ownBlock ∧ some k_ ≠ (v1_ : Value).ownBlock) v2_ r3 ∧ Below w.heap.size w w' := by
  unfold signalboxlaw14_state.f at h
  by_cases q : 0 ≤ a0 ∧ a0 ≤ 12 ∧ l1.length ≤ 1000
  · rw [if_pos q] at h
    obtain ⟨rfl, h2⟩ := Prod.mk.inj (Option.some.inj h)
    obtain ⟨rfl, rfl⟩ := Prod.mk.inj h2
    obtain ⟨n, rfl⟩ : ∃ n : Nat, a0 = (n : Int) := ⟨a0.toNat, by omega⟩
    refine (signalboxlaw14_state.made n (by omega) A1 c1 l1 w q.2.2 hr1).mono ?_
    rintro e w' ⟨v0, v1, v2, rfl, ⟨h1, h2, h3⟩, hb⟩
    exact ⟨v0, v1, v2, rfl, h1, h2, h3, hb⟩
  · rw [if_neg q] at h; cases h

end Go.Proofs.Ytlngcnijlijplaa.PBank
