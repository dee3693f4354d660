import Derived.Test.YtfllnpfikdhdbaaPProcsx0
import Derived.Test.YtfllnpfikdhdbaaProcsM
import Derived.StillTailTactics
import Derived.Laws.LoneSync
import Derived.Laws.EntriesVeiled
namespace Go.Proofs.Ytfllnpfikdhdbaa.PProcs
open Go.RowKit Go.Proofs.YtfllnpfikdhdbaaW.PrintWords Go.Proofs.YtfllnpfikdhdbaaW.PrintLast Go.Proofs.YtfllnpfikdhdbaaW.PrintMore
attribute [local go_sem] max2_int min2_int max_two min_two max_three min_three max_four min_four
set_option linter.unusedVariables false
set_option linter.unusedSimpArgs false
set_option maxHeartbeats 8000000 in
set_option maxRecDepth 100000 in
theorem numbers_any (w : World) (most : Int) (A : Option Addr) (c : Nat) (l : List Int) (hr : Kd.C (Kd.int .i64) w A l.length l) : Calls Try.prog 4 #[.int .i64 most, .slice A l.length c] w fun e w' => e = .returned (.bool true) ∧ Below w.heap.size w w' := by
  have HR := Aside0.mk hr
  clear hr
  by_cases h1 : most < 1
  · have h1b : decide (most < 1) = true := decide_eq_true h1
    go_enter Try.func4, Try.ntmps4
    go_wp2_with (first | (go_at_call 10; (with_reducible refine (awake_any _).mono ?_); rintro e w10 ⟨rfl, hb⟩))
    go_ret
    exact ⟨rfl, hb⟩
  · have h1b : decide (most < 1) = false := decide_eq_false h1
    by_cases h2 : most > 32
    · have h2b : decide (most > 32) = true := decide_eq_true h2
      go_enter Try.func4, Try.ntmps4
      go_wp2_with (first | (go_at_call 10; (with_reducible refine (awake_any _).mono ?_); rintro e w10 ⟨rfl, hb⟩))
      go_ret
      exact ⟨rfl, hb⟩
    · have h2b : decide (most > 32) = false := decide_eq_false h2
      by_cases h3 : (l.length : Int) > 60
      · have h3b : decide ((l.length : Int) > 60) = true := decide_eq_true h3
        go_enter Try.func4, Try.ntmps4
        go_wp2_with (first | (go_at_call 10; (with_reducible refine (awake_any _).mono ?_); rintro e w10 ⟨rfl, hb⟩))
        go_ret
        exact ⟨rfl, hb⟩
      · have h3b : decide ((l.length : Int) > 60) = false := decide_eq_false h3
        have HM1 : Aside0 (1 ≤ most) := ⟨by omega⟩
        have HM2 : Aside0 (most ≤ 32) := ⟨by omega⟩
        have h60 : l.length ≤ 60 := by omega
        have HL := Aside0.mk h60
        go_enter Try.func4, Try.ntmps4
        go_wp2_with (first | (go_at_call 11; (with_reducible refine (new_yes w most HM1.out HM2.out).mono ?_); rintro e w1 ⟨b, rfl, ht, hb⟩; have HN : Aside0 (Num w w1 b most 0 []) := Aside0.mk ⟨ht, hb, ⟨fun r hr => (by cases hr), rfl, by have := HM1.out; show (0 : Int) ≤ most; omega⟩, HM2.out, by decide⟩; clear ht hb))
        go_loopw [7, 8] (fun v7 v8 wx => ∃ (rs : List Row) (i k : Nat), v7 = .int .i64 (rs.length : Int) ∧ v8 = .int .i64 (i : Int) ∧ Aside0 (Num w wx b most k rs) ∧ Aside0 ((i ≤ l.length ∧ k = i) ∨ i = l.length + 1)) (fun _ v8 _ => l.length + 1 - (intOf v8).toNat)
        case atStart => exact ⟨[], 0, 0, rfl, rfl, HN, ⟨.inl ⟨Nat.zero_le _, rfl⟩⟩⟩
        case round =>
          clear HN
          obtain ⟨rs, i, k, rfl, rfl, HN, HI⟩ := hrel
          by_cases hlt : i ≤ l.length
          · obtain rfl : k = i := by have := HI.out; omega
            have hile : decide (k ≤ l.length) = true := decide_eq_true hlt
            have HI9 := Aside0.mk hlt
            clear HI hlt
            go_wp2_with (fail)
            obtain ⟨wo, ewo⟩ : ∃ wo : World, wo = wr := ⟨_, rfl⟩
            go_loopw [7] (fun v7 wx => ∃ rs : List Row, v7 = .int .i64 (rs.length : Int) ∧ Aside0 (Num w wx b most k rs)) (fun v7 _ => 200 - (intOf v7).toNat)
            case atStart => exact ⟨rs, rfl, HN⟩
            case round =>
              clear HN
              obtain ⟨rs, rfl, HN⟩ := hrel
              have hlen := HN.out.len
              have hk60 : k ≤ 60 := HN.out.2.2.2.2
              by_cases hq : (rs.countP liveB : Int) < most
              · have HQ := Aside0.mk hq
                have hqb : decide ((rs.countP liveB : Int) < most) = true := decide_eq_true hq
                have hgt : decide ((rs.length : Int) + 1 > 3000) = false := decide_eq_false (by omega)
                clear hq
                go_wp2_with (first | (go_at_call 22; (with_reducible refine (nu_live HN.out).mono ?_); rintro e w22 ⟨rfl, hn⟩; clear HN; have HN := Aside0.mk hn; clear hn) | (go_at_call 13; (with_reducible refine (nu_spawn HN.out HQ.out).mono ?_); rintro e w13 ⟨rfl, hn⟩; clear HN; have HN := Aside0.mk hn; clear hn))
                go_roundw
                case rel => exact ⟨_, by rw [List.length_append]; rfl, HN⟩
                case measure => simp [intOf]; omega
              · have HEQ : Aside0 ((rs.countP liveB : Int) = most) := ⟨by have := HN.out.2.2.1.2.2; omega⟩
                have HE : Aside0 (most ≤ (rs.countP liveB : Int)) := ⟨by omega⟩
                have hqb : decide ((rs.countP liveB : Int) < most) = false := decide_eq_false hq
                clear hq
                by_cases hi : k < l.length
                · have HI7 := Aside0.mk hi
                  have HI6 : Aside0 (k < 60) := ⟨by omega⟩
                  have hib : decide (k < l.length) = true := decide_eq_true hi
                  obtain ⟨ae, eE, hxe⟩ := Kd.at_int (Kd.C_below HR.out HN.out.2.1) (k : Int) (by omega) (by omega)
                  subst eE
                  have HRE : Aside0 (∀ wz, Below w.heap.size w wz → wz.cell? (ae.add k) = some (.int .i64 (rd l (k : Int)))) := ⟨fun wz hz => by
                    obtain ⟨ad', e, h⟩ := Kd.at_int (Kd.C_below HR.out hz) (k : Int) (by omega) (by omega)
                    cases e
                    exact h⟩
                  clear hxe
                  generalize hzz : rd l (k : Int) = z at HRE
                  clear hzz
                  go_upto_region 24 with (first | (go_at_call 22; (with_reducible refine (nu_live HN.out).mono ?_); rintro e w22 ⟨rfl, hn⟩; clear HN; have HN := Aside0.mk hn; clear hn) | (go_at_call 13; (with_reducible refine (nu_full HN.out HE.out).mono ?_); rintro e w13 ⟨rfl, hn⟩; clear HN; have HN := Aside0.mk hn; clear hn) | (go_at_call 23; (with_reducible refine (nu_ready HN.out HEQ.out).mono ?_); rintro e w23 ⟨⟨A2, n2, c2, rfl, hn2, hm2, hk2⟩, hn⟩; clear HN; have HN := Aside0.mk hn; clear hn; have HK := Aside0.mk hk2; have HM := Aside0.mk hm2; have hb2 : ((n2 : Int) != most) = false := bne_eq_false_iff_eq.mpr hn2; have HN2 := Aside0.mk hn2; clear hk2 hm2 hn2))
                  have hze := HRE.out _ HN.out.2.1
                  have hn1 : 1 ≤ (n2 : Int) := by have := HN2.out; have := HM1.out; omega
                  have hn0 : ¬ n2 = 0 := by omega
                  go_upto_region 25 with (fail)
                  have q1 : z.tmod (n2 : Int) < (n2 : Int) := Int.tmod_lt_of_pos z (by omega)
                  have q2 : -(n2 : Int) < z.tmod (n2 : Int) := by
                    rcases Int.le_total 0 z with hz | hz
                    · have := Int.tmod_nonneg (n2 : Int) hz; omega
                    · have e : z.tmod (n2 : Int) = -((-z).tmod (n2 : Int)) := by rw [Int.neg_tmod]; omega
                      have := Int.tmod_lt_of_pos (-z) (show (0 : Int) < (n2 : Int) by omega)
                      omega
                  have n32 : (n2 : Int) ≤ 32 := by have := HN2.out; have := HM2.out; omega
                  generalize z.tmod (n2 : Int) = q at q1 q2 ⊢
                  by_cases hq0 : q < 0
                  · have hqb0 : decide (q < 0) = true := decide_eq_true hq0
                    go_upto_region 27 with (fail)
                    clear hqb0
                    have hk0 : 0 ≤ -q := by omega
                    have hk1 : -q < (n2 : Int) := by omega
                    clear hq0 q1 q2
                    generalize -q = K at hk0 hk1 ⊢
                    obtain ⟨j, hj, hrd, hlv⟩ := those_rd (f := liveB) (rs := rs) (k := K) hk0 (by rw [← HM.out]; exact hk1)
                    have HJ := Aside0.mk hj
                    have HLV := Aside0.mk hlv
                    obtain ⟨ad, eA, hx0⟩ := HK.out.at_ (K) hk0 (by rw [← HM.out]; exact hk1)
                    subst eA
                    have HRD : Aside0 (∀ wz, LK wz (some ad) n2 c2 (thoseL liveB rs) → wz.cell? (ad.add (K).toNat) = some (.int .i64 ((j : Int) + 1))) := ⟨fun wz hz => by
                      obtain ⟨ad', e, h⟩ := hz.at_ (K) hk0 (by rw [← HM.out]; exact hk1)
                      cases e
                      rw [hrd] at h
                      exact h⟩
                    have hxk : w23.cell? (ad.add (K).toNat) = some (.int .i64 ((j : Int) + 1)) := HRD.out _ HK.out
                    have HKK := Aside0.mk (And.intro hk0 hk1)
                    clear hx0 hj hrd hlv
                    go_wp2_with (first | (go_at_call 19; (with_reducible refine (nu_end j HN.out HI6.out HJ.out HLV.out).mono ?_); rintro e w19 ⟨rfl, hf, hn⟩; have n0_ := Aside0.mk hn; have n1_ := Aside0.mk (HK.out.fr hf); clear HN HK hn hf hxk; have HN := n0_; have HK := n1_; clear n0_ n1_; have hxk : w19.cell? (ad.add (K).toNat) = some (.int .i64 ((j : Int) + 1)) := HRD.out _ HK.out) | (go_at_call 19; (with_reducible refine (nu_gone HN.out HJ.out).mono ?_); rintro e w20 ⟨rfl, hb, hn⟩; have n0_ := Aside0.mk hn; have n1_ := Aside0.mk (HK.out.below hb); clear HN HK hn hb hxk; have HN := n0_; have HK := n1_; clear n0_ n1_; have hxk : w20.cell? (ad.add (K).toNat) = some (.int .i64 ((j : Int) + 1)) := HRD.out _ HK.out) | (go_at_call 24; (with_reducible refine (nu_state HN.out HJ.out).mono ?_); rintro e w24 ⟨rfl, hn⟩; clear HN; have HN := Aside0.mk hn; clear hn))
                    go_roundw
                    case rel => exact ⟨_, k + 1, k + 1, by rw [List.length_set], by go_num, HN, ⟨.inl ⟨HI7.out, rfl⟩⟩⟩
                    case measure => have := HI7.out; simp [intOf]; omega
                  · have hqb0 : decide (q < 0) = false := decide_eq_false hq0
                    go_upto_region 27 with (fail)
                    clear hqb0
                    have hk0 : 0 ≤ q := by omega
                    clear hq0 q2
                    generalize q = K at hk0 q1 ⊢
                    have hk1 := q1
                    clear q1
                    obtain ⟨j, hj, hrd, hlv⟩ := those_rd (f := liveB) (rs := rs) (k := K) hk0 (by rw [← HM.out]; exact hk1)
                    have HJ := Aside0.mk hj
                    have HLV := Aside0.mk hlv
                    obtain ⟨ad, eA, hx0⟩ := HK.out.at_ (K) hk0 (by rw [← HM.out]; exact hk1)
                    subst eA
                    have HRD : Aside0 (∀ wz, LK wz (some ad) n2 c2 (thoseL liveB rs) → wz.cell? (ad.add (K).toNat) = some (.int .i64 ((j : Int) + 1))) := ⟨fun wz hz => by
                      obtain ⟨ad', e, h⟩ := hz.at_ (K) hk0 (by rw [← HM.out]; exact hk1)
                      cases e
                      rw [hrd] at h
                      exact h⟩
                    have hxk : w23.cell? (ad.add (K).toNat) = some (.int .i64 ((j : Int) + 1)) := HRD.out _ HK.out
                    have HKK := Aside0.mk (And.intro hk0 hk1)
                    clear hx0 hj hrd hlv
                    go_wp2_with (first | (go_at_call 19; (with_reducible refine (nu_end j HN.out HI6.out HJ.out HLV.out).mono ?_); rintro e w19 ⟨rfl, hf, hn⟩; have n0_ := Aside0.mk hn; have n1_ := Aside0.mk (HK.out.fr hf); clear HN HK hn hf hxk; have HN := n0_; have HK := n1_; clear n0_ n1_; have hxk : w19.cell? (ad.add (K).toNat) = some (.int .i64 ((j : Int) + 1)) := HRD.out _ HK.out) | (go_at_call 19; (with_reducible refine (nu_gone HN.out HJ.out).mono ?_); rintro e w20 ⟨rfl, hb, hn⟩; have n0_ := Aside0.mk hn; have n1_ := Aside0.mk (HK.out.below hb); clear HN HK hn hb hxk; have HN := n0_; have HK := n1_; clear n0_ n1_; have hxk : w20.cell? (ad.add (K).toNat) = some (.int .i64 ((j : Int) + 1)) := HRD.out _ HK.out) | (go_at_call 24; (with_reducible refine (nu_state HN.out HJ.out).mono ?_); rintro e w24 ⟨rfl, hn⟩; clear HN; have HN := Aside0.mk hn; clear hn))
                    go_roundw
                    case rel => exact ⟨_, k + 1, k + 1, by rw [List.length_set], by go_num, HN, ⟨.inl ⟨HI7.out, rfl⟩⟩⟩
                    case measure => have := HI7.out; simp [intOf]; omega
                · have hib : decide (k < l.length) = false := decide_eq_false hi
                  have hke : k = l.length := by have := HI9.out; omega
                  have HKE := Aside0.mk hke
                  clear hi hke
                  go_wp2_with (first | (go_at_call 22; (with_reducible refine (nu_live HN.out).mono ?_); rintro e w22 ⟨rfl, hn⟩; clear HN; have HN := Aside0.mk hn; clear hn) | (go_at_call 13; (with_reducible refine (nu_full HN.out HE.out).mono ?_); rintro e w13 ⟨rfl, hn⟩; clear HN; have HN := Aside0.mk hn; clear hn) | (go_at_call 23; (with_reducible refine (nu_ready HN.out HEQ.out).mono ?_); rintro e w23 ⟨⟨A2, n2, c2, rfl, hn2, hm2, hk2⟩, hn⟩; clear HN; have HN := Aside0.mk hn; clear hn; have HK := Aside0.mk hk2; have HM := Aside0.mk hm2; have hb2 : ((n2 : Int) != most) = false := bne_eq_false_iff_eq.mpr hn2; have HN2 := Aside0.mk hn2; clear hk2 hm2 hn2))
                  go_roundw
                  case rel => exact ⟨rs, k + 1, k, rfl, by go_num, HN, ⟨.inr (by rw [HKE.out])⟩⟩
                  case measure => have := HKE.out; simp [intOf]; omega
          · have hile : decide (i ≤ l.length) = false := decide_eq_false hlt
            clear HI hlt
            go_wp2_with (first | (go_at_call 10; (with_reducible refine (awake_any _).mono ?_); rintro e w10 ⟨rfl, hb⟩; have HB := Aside0.mk (below_step HN.out.2.1 hb); clear hb))
            go_ret
            exact ⟨rfl, HB.out⟩

end Go.Proofs.Ytfllnpfikdhdbaa.PProcs
