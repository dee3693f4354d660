import Derived.Test.YtfllnpfikdhdbaaPProcsx0
import Derived.Test.YtfllnpfikdhdbaaJoinH
import Derived.StillTailTactics
import Derived.Laws.LoneSync
import Derived.Laws.EntriesVeiled
import Derived.IntWalk
import Derived.Deep.RegionHeld3
import Derived.WalkMore
import Derived.ScopeJumps
namespace Go.Proofs.Ytfllnpfikdhdbaa.PProcs
open Go.RowKit Go.Proofs.YtfllnpfikdhdbaaW.PrintWords Go.Proofs.YtfllnpfikdhdbaaW.PrintLast Go.Proofs.YtfllnpfikdhdbaaW.PrintMore
attribute [local go_sem] max2_int min2_int max_two min_two max_three min_three max_four min_four
set_option linter.unusedVariables false
set_option linter.unusedSimpArgs false
theorem underL_len (rs : List Row) (pid : Int) : (underL rs pid).length ≤ rs.length := by
  unfold underL
  split
  · exact underN_len rs pid rs.length
  · exact Nat.zero_le _
set_option maxHeartbeats 8000000 in
set_option maxRecDepth 100000 in
theorem same10_any {w : World} {b c b1 b2 : Nat} {most : Int} {rs : List Row} (ht : TB w b b1 most rs) (hr : RB w c b2 most rs) (hl : rs.length ≤ 1000) (hi : Inv rs) (hA : Ahead rs) : Calls Try.prog 37 #[.pointer (some ⟨b, 0, none⟩), .pointer (some ⟨c, 0, none⟩)] w fun e w' => e = .returned (.bool true) ∧ Below w.heap.size w w' := by
  have TH := Aside0.mk ht
  have RH := Aside0.mk hr
  have HL : Aside0 (rs.length ≤ 1000000) := ⟨by omega⟩
  have HL0 := Aside0.mk hl
  have HA := Aside0.mk hA
  have HX : Aside0 (∀ q, (underL rs q).length ≤ 1000000) := ⟨fun q => by have := underL_len rs q; omega⟩
  have HI : Aside0 (∀ i, i < rs.length → (rs.getD i Row.z).st ≠ 0) := ⟨fun i h => (hi i h).1⟩
  obtain ⟨v, hbk, hrr, hge⟩ := hr
  obtain ⟨A, cc, rfl⟩ := flat_slice hrr
  have HC : Aside0 (∀ W, Below w.heap.size w W → W.cell? ⟨c, 1, none⟩ = some (.slice A rs.length cc)) := ⟨fun W h => (blk_cell (blk_below hbk h) 1).trans rfl⟩
  have HB := Aside0.mk (Below.refl w.heap.size w)
  clear ht hl hi hbk hrr hge hA
  go_enter Try.func37, Try.ntmps37
  go_wp2_with (fail)
  go_loopw [5] (fun v5 wx => ∃ p : Int, v5 = .int .i64 p ∧ 0 ≤ p ∧ p ≤ (rs.length : Int) + 2 ∧ Aside0 (Below w.heap.size w wx)) (fun v5 _ => ((rs.length : Int) + 3 - intOf v5).toNat)
  case atStart => exact ⟨0, rfl, by omega, by omega, HB⟩
  case round =>
    clear HB
    obtain ⟨p, rfl, hp0, hp1, HB⟩ := hrel
    have hc1 := HC.out _ HB.out
    have hl9 := HL0.out
    by_cases hlt : p ≤ (rs.length : Int) + 1
    · have hltb : decide (p ≤ (rs.length : Int) + 1) = true := decide_eq_true hlt
      go_wp2_with (first | (go_at_call 24; (with_reducible refine (state_any _ (TH.out.below HB.out).tv HL.out).mono ?_); rintro e w24 ⟨rfl, hb⟩; have n0_ := Aside0.mk (below_step HB.out hb); clear HB hb; have HB := n0_; clear n0_) | (go_at_call 48; (with_reducible refine (rstate_any _ (RH.out.below HB.out) HL.out).mono ?_); rintro e w' ⟨rfl, rfl⟩) | (go_at_call 26; (with_reducible refine (why_any _ (TH.out.below HB.out).tv HL.out).mono ?_); rintro e w26 ⟨rfl, hb⟩; have n0_ := Aside0.mk (below_step HB.out hb); clear HB hb; have HB := n0_; clear n0_) | (go_at_call 50; (with_reducible refine (rwhy_any _ (RH.out.below HB.out) HL.out HI.out).mono ?_); rintro e w50 ⟨rfl, hb⟩; have n0_ := Aside0.mk (below_step HB.out hb); clear HB hb; have HB := n0_; clear n0_) | (go_at_call 30; (with_reducible refine (kids_any _ (TH.out.below HB.out).tv HL.out).mono ?_); rintro e w30 ⟨rfl, hb⟩; have n0_ := Aside0.mk (below_step HB.out hb); clear HB hb; have HB := n0_; clear n0_) | (go_at_call 53; (with_reducible refine (rkids_any _ (RH.out.below HB.out) HL.out).mono ?_); rintro e w' ⟨rfl, rfl⟩) | (go_at_call 40; (refine (under_any p (TH.out.below HB.out).tv HL.out HA.out).mono ?_); rintro e w40 ⟨v40, rfl, hr, hb⟩; obtain ⟨A1, c1, rfl⟩ := Kd.R_slice hr; have K1 : Aside0 (LKb w40 A1 _ c1 _) := Aside0.mk ⟨⟨_, hr⟩, rfl⟩; clear hr; have n0_ := Aside0.mk (below_step HB.out hb); clear HB hb; have HB := n0_; clear n0_) | (go_at_call 59; (refine (runder_any p (RH.out.below HB.out) HL.out HA.out).mono ?_); rintro e w59 ⟨v59, rfl, hr, hb⟩; obtain ⟨A2, c2, rfl⟩ := Kd.R_slice hr; have K2 : Aside0 (LKb w59 A2 _ c2 _) := Aside0.mk ⟨⟨_, hr⟩, rfl⟩; have m0_ := Aside0.mk (LKb.below K1.out hb); clear K1; have K1 := m0_; clear m0_; clear hr; have n0_ := Aside0.mk (below_step HB.out hb); clear HB hb; have HB := n0_; clear n0_) | (go_at_call 41; (refine (ints_same (HX.out _) K1.out K2.out).mono ?_); rintro e w41 ⟨rfl, hb⟩; clear K1 K2; have n0_ := Aside0.mk (below_step HB.out hb); clear HB hb; have HB := n0_; clear n0_))
      go_roundw
      case rel => exact ⟨p + 1, by go_num, by omega, by omega, HB⟩
      case measure => simp [intOf]; omega
    · have hltb : decide (p ≤ (rs.length : Int) + 1) = false := decide_eq_false hlt
      go_wp2_with (fail)
      go_ret
      exact ⟨rfl, HB.out⟩

end Go.Proofs.Ytfllnpfikdhdbaa.PProcs
