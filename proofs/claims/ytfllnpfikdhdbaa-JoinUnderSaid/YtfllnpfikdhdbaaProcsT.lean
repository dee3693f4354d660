import Derived.Test.YtfllnpfikdhdbaaPProcsx0
import Derived.Test.YtfllnpfikdhdbaaProcsR
import Derived.StillTailTactics
import Derived.Laws.LoneSync
import Derived.Laws.EntriesVeiled
namespace Go.Proofs.Ytfllnpfikdhdbaa.PProcs
open Go.RowKit Go.Proofs.YtfllnpfikdhdbaaW.PrintWords Go.Proofs.YtfllnpfikdhdbaaW.PrintLast Go.Proofs.YtfllnpfikdhdbaaW.PrintMore
attribute [local go_sem] max2_int min2_int max_two min_two max_three min_three max_four min_four
set_option linter.unusedVariables false
set_option linter.unusedSimpArgs false
theorem add_add_ (a : Addr) (i j : Nat) : (a.add i).add j = a.add (i + j) := by
  unfold Addr.add
  by_cases hi : i = 0 <;> by_cases hj : j = 0 <;> simp [hi, hj, Nat.add_assoc]
theorem at_drew {P : Program} {ops : Array Oper} {l : List Oper} {a : Act} {Q : Exit → Act → World → Prop} {W : World} (h : ∀ Wd : World, Below W.heap.size W Wd → wpList P ops Q l a Wd) : wpList P ops Q l a W.drew := h _ (below_drew (Below.refl _ _))
set_option maxHeartbeats 8000000 in
set_option maxRecDepth 100000 in
theorem stays_any (w : World) (c : Int) (A : Option Addr) (n cap : Nat) (z : Nat → Nat → Int) (hz : n = 0 ∨ ∃ x, A = some x ∧ ∀ i, i < n → ∀ j, j < 4 → w.cell? (x.add (i * 4 + j)) = some (.int .i64 (z i j))) :
    Calls Try.prog 5 #[.int .i64 c, .slice A n cap] w fun e w' => e = .returned (.bool true) ∧ Below w.heap.size w w' := by
  by_cases h6 : (n : Int) > 60
  · have h6b : decide ((n : Int) > 60) = true := decide_eq_true h6
    go_enter Try.func5, Try.ntmps5
    go_wp2_with (first | (go_at_call 10; (with_reducible refine (awake_any _).mono ?_); rintro e w10 ⟨rfl, hb⟩))
    go_ret
    exact ⟨rfl, hb⟩
  · have h6b : decide ((n : Int) > 60) = false := decide_eq_false h6
    have hn60 : n ≤ 60 := by omega
    by_cases hc : c = 0
    · subst hc
      go_enter Try.func5, Try.ntmps5
      go_wp2_with (first | (go_at_call 11; (with_reducible refine (sy_new _).mono ?_); rintro e w1 ⟨b, rfl, ht, hb⟩; have HT := Aside0.mk ht; have HB := Aside0.mk hb; clear ht hb) | (go_at_call 13; (with_reducible refine (sy_s1 HB.out HT.out).mono ?_); rintro e w2 ⟨rfl, ht, hb⟩; clear HT HB; have HT := Aside0.mk ht; have HB := Aside0.mk hb; clear ht hb) | (go_at_call 13; (with_reducible refine (sy_s2 HB.out HT.out).mono ?_); rintro e w3 ⟨rfl, ht, hb⟩; clear HT HB; have HT := Aside0.mk ht; have HB := Aside0.mk hb; clear ht hb) | (go_at_call 19; (with_reducible refine (sy_e _ HB.out HT.out).mono ?_); rintro e w4 ⟨rfl, hs⟩; clear HT HB; have HS := Aside0.mk hs; clear hs))
      have HS : Aside0 (Sy w w4 b 3 0 2) := ⟨by have := HS.out; simpa using this⟩
      go_loopw [9] (fun v9 wx => ∃ i : Nat, v9 = .int .i64 (i : Int) ∧ i ≤ n ∧ Aside0 (Sy w wx b 3 0 (2 + i))) (fun v9 _ => n - (intOf v9).toNat)
      case atStart => exact ⟨0, rfl, Nat.zero_le _, HS⟩
      case round =>
        clear HS
        obtain ⟨i, rfl, hi, HS⟩ := hrel
        by_cases hlt : i < n
        · have hltb : decide (i < n) = true := decide_eq_true hlt
          have HI := Aside0.mk hlt
          have HN9 : Aside0 (2 + i < 1000) := ⟨by omega⟩
          obtain ⟨x, rfl, hx⟩ := hz.resolve_left (by omega)
          have HZ : Aside0 (∀ wz, Below w.heap.size w wz → ∀ j, j < 4 → wz.cell? (x.add (i * 4 + j)) = some (.int .i64 (z i j))) := ⟨fun wz hb j hj => pw_cell_below hb (hx i hlt j hj)⟩
          clear hx hz
          have f0 : wr.cell? (x.add (i * 4)) = some (.int .i64 (z i 0)) := HZ.out wr HS.out.at 0 (by decide)
          have f1 : wr.cell? ⟨(x.add (i * 4)).block, (x.add (i * 4)).off + 1, none⟩ = some (.int .i64 (z i 1)) := by have h := HZ.out wr HS.out.at 1 (by decide); rw [← add_add_] at h; exact h
          have f2 : wr.cell? ⟨(x.add (i * 4)).block, (x.add (i * 4)).off + 2, none⟩ = some (.int .i64 (z i 2)) := by have h := HZ.out wr HS.out.at 2 (by decide); rw [← add_add_] at h; exact h
          have f3 : wr.cell? ⟨(x.add (i * 4)).block, (x.add (i * 4)).off + 3, none⟩ = some (.int .i64 (z i 3)) := by have h := HZ.out wr HS.out.at 3 (by decide); rw [← add_add_] at h; exact h
          by_cases k0 : z i 0 = 0
          · have k0b : (z i 0 == 0) = true := by simpa using k0
            clear k0
            go_upto_region 24 with (first | (go_at_call 13; (with_reducible refine (sy_spawn HS.out HN9.out _).mono ?_); rintro e w13 ⟨⟨x13, y13, rfl⟩, hn⟩; clear HS; have HS := Aside0.mk hn; clear hn))
            go_wp2_with (first | (go_at_call 24; (with_reducible refine (sy_state HS.out).mono ?_); rintro e w24 ⟨rfl, hn⟩; clear HS; have HS := Aside0.mk hn; clear hn) | (go_at_call 25; (with_reducible refine (sy_code HS.out).mono ?_); rintro e w25 ⟨rfl, hn⟩; clear HS; have HS := Aside0.mk hn; clear hn) | (go_at_call 26; (with_reducible refine (sy_why HS.out).mono ?_); rintro e w26 ⟨rfl, hn⟩; clear HS; have HS := Aside0.mk hn; clear hn) | (go_at_call 23; (with_reducible refine (sy_ready HS.out).mono ?_); rintro e w23 ⟨⟨A2, m2, c2, rfl, hh⟩, hn⟩; clear HS; have HS := Aside0.mk hn; clear hn; have HH := Aside0.mk hh; clear hh) | (go_at_call 28; (with_reducible refine (sy_blocked HS.out).mono ?_); rintro e w28 ⟨⟨A2, m2, c2, rfl, hh⟩, hn⟩; clear HS; have HS := Aside0.mk hn; clear hn; have HH := Aside0.mk hh; clear hh) | (go_at_call 27; (with_reducible refine (sy_has HH.out).mono ?_); rintro e w27 ⟨rfl, hb⟩; have n0_ := Aside0.mk (HS.out.below hb); clear HS HH hb; have HS := n0_; clear n0_))
            go_roundw
            case rel => exact ⟨i + 1, by go_num, HI.out, ⟨by have := HS.out; rw [show 2 + (i + 1) = 2 + i + 1 from rfl]; exact this⟩⟩
            case measure => have := HI.out; simp [intOf]; omega
          · have k0b : (z i 0 == 0) = false := by simpa using k0
            by_cases k1 : z i 0 = 1
            · have k1b : (z i 0 == 1) = true := by simpa using k1
              clear k0 k1
              go_wp2_with (fail)
              go_still_tail 17, (by kernel_rfl)
              refine at_drew (W := wr) ?_
              intro wd hbd
              have n0_ := Aside0.mk (HS.out.below hbd)
              clear HS hbd f0 f1 f2 f3
              have HS := n0_
              clear n0_
              go_upto_region 24 with (first | (go_at_call 15; (with_reducible refine (sy_block HS.out HN9.out _ _ _).mono ?_); rintro e w15 ⟨⟨x15, rfl⟩, hn⟩; clear HS; have HS := Aside0.mk hn; clear hn))
              go_wp2_with (first | (go_at_call 24; (with_reducible refine (sy_state HS.out).mono ?_); rintro e w24 ⟨rfl, hn⟩; clear HS; have HS := Aside0.mk hn; clear hn) | (go_at_call 25; (with_reducible refine (sy_code HS.out).mono ?_); rintro e w25 ⟨rfl, hn⟩; clear HS; have HS := Aside0.mk hn; clear hn) | (go_at_call 26; (with_reducible refine (sy_why HS.out).mono ?_); rintro e w26 ⟨rfl, hn⟩; clear HS; have HS := Aside0.mk hn; clear hn) | (go_at_call 23; (with_reducible refine (sy_ready HS.out).mono ?_); rintro e w23 ⟨⟨A2, m2, c2, rfl, hh⟩, hn⟩; clear HS; have HS := Aside0.mk hn; clear hn; have HH := Aside0.mk hh; clear hh) | (go_at_call 28; (with_reducible refine (sy_blocked HS.out).mono ?_); rintro e w28 ⟨⟨A2, m2, c2, rfl, hh⟩, hn⟩; clear HS; have HS := Aside0.mk hn; clear hn; have HH := Aside0.mk hh; clear hh) | (go_at_call 27; (with_reducible refine (sy_has HH.out).mono ?_); rintro e w27 ⟨rfl, hb⟩; have n0_ := Aside0.mk (HS.out.below hb); clear HS HH hb; have HS := n0_; clear n0_))
              go_roundw
              case rel => exact ⟨i + 1, by go_num, HI.out, ⟨by have := HS.out; rw [show 2 + (i + 1) = 2 + i + 1 from rfl]; exact this⟩⟩
              case measure => have := HI.out; simp [intOf]; omega
            · have k1b : (z i 0 == 1) = false := by simpa using k1
              by_cases k2 : z i 0 = 2
              · have k2b : (z i 0 == 2) = true := by simpa using k2
                clear k0 k1 k2
                go_upto_region 24 with (first | (go_at_call 17; (with_reducible refine (sy_wake HS.out HN9.out _).mono ?_); rintro e w17 ⟨⟨x17, rfl⟩, hn⟩; clear HS; have HS := Aside0.mk hn; clear hn))
                go_wp2_with (first | (go_at_call 24; (with_reducible refine (sy_state HS.out).mono ?_); rintro e w24 ⟨rfl, hn⟩; clear HS; have HS := Aside0.mk hn; clear hn) | (go_at_call 25; (with_reducible refine (sy_code HS.out).mono ?_); rintro e w25 ⟨rfl, hn⟩; clear HS; have HS := Aside0.mk hn; clear hn) | (go_at_call 26; (with_reducible refine (sy_why HS.out).mono ?_); rintro e w26 ⟨rfl, hn⟩; clear HS; have HS := Aside0.mk hn; clear hn) | (go_at_call 23; (with_reducible refine (sy_ready HS.out).mono ?_); rintro e w23 ⟨⟨A2, m2, c2, rfl, hh⟩, hn⟩; clear HS; have HS := Aside0.mk hn; clear hn; have HH := Aside0.mk hh; clear hh) | (go_at_call 28; (with_reducible refine (sy_blocked HS.out).mono ?_); rintro e w28 ⟨⟨A2, m2, c2, rfl, hh⟩, hn⟩; clear HS; have HS := Aside0.mk hn; clear hn; have HH := Aside0.mk hh; clear hh) | (go_at_call 27; (with_reducible refine (sy_has HH.out).mono ?_); rintro e w27 ⟨rfl, hb⟩; have n0_ := Aside0.mk (HS.out.below hb); clear HS HH hb; have HS := n0_; clear n0_))
                go_roundw
                case rel => exact ⟨i + 1, by go_num, HI.out, ⟨by have := HS.out; rw [show 2 + (i + 1) = 2 + i + 1 from rfl]; exact this⟩⟩
                case measure => have := HI.out; simp [intOf]; omega
              · have k2b : (z i 0 == 2) = false := by simpa using k2
                clear k0 k1 k2
                go_wp2_with (fail)
                go_still_tail 11, (by kernel_rfl)
                refine at_drew (W := wr) ?_
                intro wd hbd
                have n0_ := Aside0.mk (HS.out.below hbd)
                clear HS hbd f0 f1 f2 f3
                have HS := n0_
                clear n0_
                go_upto_region 24 with (first | (go_at_call 19; (with_reducible refine (sy_end HS.out HN9.out _ _).mono ?_); rintro e w19 ⟨⟨x19, rfl⟩, hn⟩; clear HS; have HS := Aside0.mk hn; clear hn))
                go_wp2_with (first | (go_at_call 24; (with_reducible refine (sy_state HS.out).mono ?_); rintro e w24 ⟨rfl, hn⟩; clear HS; have HS := Aside0.mk hn; clear hn) | (go_at_call 25; (with_reducible refine (sy_code HS.out).mono ?_); rintro e w25 ⟨rfl, hn⟩; clear HS; have HS := Aside0.mk hn; clear hn) | (go_at_call 26; (with_reducible refine (sy_why HS.out).mono ?_); rintro e w26 ⟨rfl, hn⟩; clear HS; have HS := Aside0.mk hn; clear hn) | (go_at_call 23; (with_reducible refine (sy_ready HS.out).mono ?_); rintro e w23 ⟨⟨A2, m2, c2, rfl, hh⟩, hn⟩; clear HS; have HS := Aside0.mk hn; clear hn; have HH := Aside0.mk hh; clear hh) | (go_at_call 28; (with_reducible refine (sy_blocked HS.out).mono ?_); rintro e w28 ⟨⟨A2, m2, c2, rfl, hh⟩, hn⟩; clear HS; have HS := Aside0.mk hn; clear hn; have HH := Aside0.mk hh; clear hh) | (go_at_call 27; (with_reducible refine (sy_has HH.out).mono ?_); rintro e w27 ⟨rfl, hb⟩; have n0_ := Aside0.mk (HS.out.below hb); clear HS HH hb; have HS := n0_; clear n0_))
                go_roundw
                case rel => exact ⟨i + 1, by go_num, HI.out, ⟨by have := HS.out; rw [show 2 + (i + 1) = 2 + i + 1 from rfl]; exact this⟩⟩
                case measure => have := HI.out; simp [intOf]; omega
        · have hltb : decide (i < n) = false := decide_eq_false hlt
          clear hi hlt
          go_wp2_with (first | (go_at_call 10; (with_reducible refine (awake_any _).mono ?_); rintro e w10 ⟨rfl, hb⟩; have HB := Aside0.mk (below_step HS.out.at hb); clear hb))
          go_ret
          exact ⟨rfl, HB.out⟩
    · have hcb : (c != 0) = true := by simpa using hc
      go_enter Try.func5, Try.ntmps5
      go_wp2_with (first | (go_at_call 11; (with_reducible refine (sy_new _).mono ?_); rintro e w1 ⟨b, rfl, ht, hb⟩; have HT := Aside0.mk ht; have HB := Aside0.mk hb; clear ht hb) | (go_at_call 13; (with_reducible refine (sy_s1 HB.out HT.out).mono ?_); rintro e w2 ⟨rfl, ht, hb⟩; clear HT HB; have HT := Aside0.mk ht; have HB := Aside0.mk hb; clear ht hb) | (go_at_call 13; (with_reducible refine (sy_s2 HB.out HT.out).mono ?_); rintro e w3 ⟨rfl, ht, hb⟩; clear HT HB; have HT := Aside0.mk ht; have HB := Aside0.mk hb; clear ht hb) | (go_at_call 19; (with_reducible refine (sy_e _ HB.out HT.out).mono ?_); rintro e w4 ⟨rfl, hs⟩; clear HT HB; have HS := Aside0.mk hs; clear hs))
      rw [if_neg hc] at HS
      clear hc hcb
      go_loopw [9] (fun v9 wx => ∃ i : Nat, v9 = .int .i64 (i : Int) ∧ i ≤ n ∧ Aside0 (Sy w wx b 4 c (2 + i))) (fun v9 _ => n - (intOf v9).toNat)
      case atStart => exact ⟨0, rfl, Nat.zero_le _, HS⟩
      case round =>
        clear HS
        obtain ⟨i, rfl, hi, HS⟩ := hrel
        by_cases hlt : i < n
        · have hltb : decide (i < n) = true := decide_eq_true hlt
          have HI := Aside0.mk hlt
          have HN9 : Aside0 (2 + i < 1000) := ⟨by omega⟩
          obtain ⟨x, rfl, hx⟩ := hz.resolve_left (by omega)
          have HZ : Aside0 (∀ wz, Below w.heap.size w wz → ∀ j, j < 4 → wz.cell? (x.add (i * 4 + j)) = some (.int .i64 (z i j))) := ⟨fun wz hb j hj => pw_cell_below hb (hx i hlt j hj)⟩
          clear hx hz
          have f0 : wr.cell? (x.add (i * 4)) = some (.int .i64 (z i 0)) := HZ.out wr HS.out.at 0 (by decide)
          have f1 : wr.cell? ⟨(x.add (i * 4)).block, (x.add (i * 4)).off + 1, none⟩ = some (.int .i64 (z i 1)) := by have h := HZ.out wr HS.out.at 1 (by decide); rw [← add_add_] at h; exact h
          have f2 : wr.cell? ⟨(x.add (i * 4)).block, (x.add (i * 4)).off + 2, none⟩ = some (.int .i64 (z i 2)) := by have h := HZ.out wr HS.out.at 2 (by decide); rw [← add_add_] at h; exact h
          have f3 : wr.cell? ⟨(x.add (i * 4)).block, (x.add (i * 4)).off + 3, none⟩ = some (.int .i64 (z i 3)) := by have h := HZ.out wr HS.out.at 3 (by decide); rw [← add_add_] at h; exact h
          by_cases k0 : z i 0 = 0
          · have k0b : (z i 0 == 0) = true := by simpa using k0
            clear k0
            go_upto_region 24 with (first | (go_at_call 13; (with_reducible refine (sy_spawn HS.out HN9.out _).mono ?_); rintro e w13 ⟨⟨x13, y13, rfl⟩, hn⟩; clear HS; have HS := Aside0.mk hn; clear hn))
            go_wp2_with (first | (go_at_call 24; (with_reducible refine (sy_state HS.out).mono ?_); rintro e w24 ⟨rfl, hn⟩; clear HS; have HS := Aside0.mk hn; clear hn) | (go_at_call 25; (with_reducible refine (sy_code HS.out).mono ?_); rintro e w25 ⟨rfl, hn⟩; clear HS; have HS := Aside0.mk hn; clear hn) | (go_at_call 26; (with_reducible refine (sy_why HS.out).mono ?_); rintro e w26 ⟨rfl, hn⟩; clear HS; have HS := Aside0.mk hn; clear hn) | (go_at_call 23; (with_reducible refine (sy_ready HS.out).mono ?_); rintro e w23 ⟨⟨A2, m2, c2, rfl, hh⟩, hn⟩; clear HS; have HS := Aside0.mk hn; clear hn; have HH := Aside0.mk hh; clear hh) | (go_at_call 28; (with_reducible refine (sy_blocked HS.out).mono ?_); rintro e w28 ⟨⟨A2, m2, c2, rfl, hh⟩, hn⟩; clear HS; have HS := Aside0.mk hn; clear hn; have HH := Aside0.mk hh; clear hh) | (go_at_call 27; (with_reducible refine (sy_has HH.out).mono ?_); rintro e w27 ⟨rfl, hb⟩; have n0_ := Aside0.mk (HS.out.below hb); clear HS HH hb; have HS := n0_; clear n0_))
            go_roundw
            case rel => exact ⟨i + 1, by go_num, HI.out, ⟨by have := HS.out; rw [show 2 + (i + 1) = 2 + i + 1 from rfl]; exact this⟩⟩
            case measure => have := HI.out; simp [intOf]; omega
          · have k0b : (z i 0 == 0) = false := by simpa using k0
            by_cases k1 : z i 0 = 1
            · have k1b : (z i 0 == 1) = true := by simpa using k1
              clear k0 k1
              go_wp2_with (fail)
              go_still_tail 17, (by kernel_rfl)
              refine at_drew (W := wr) ?_
              intro wd hbd
              have n0_ := Aside0.mk (HS.out.below hbd)
              clear HS hbd f0 f1 f2 f3
              have HS := n0_
              clear n0_
              go_upto_region 24 with (first | (go_at_call 15; (with_reducible refine (sy_block HS.out HN9.out _ _ _).mono ?_); rintro e w15 ⟨⟨x15, rfl⟩, hn⟩; clear HS; have HS := Aside0.mk hn; clear hn))
              go_wp2_with (first | (go_at_call 24; (with_reducible refine (sy_state HS.out).mono ?_); rintro e w24 ⟨rfl, hn⟩; clear HS; have HS := Aside0.mk hn; clear hn) | (go_at_call 25; (with_reducible refine (sy_code HS.out).mono ?_); rintro e w25 ⟨rfl, hn⟩; clear HS; have HS := Aside0.mk hn; clear hn) | (go_at_call 26; (with_reducible refine (sy_why HS.out).mono ?_); rintro e w26 ⟨rfl, hn⟩; clear HS; have HS := Aside0.mk hn; clear hn) | (go_at_call 23; (with_reducible refine (sy_ready HS.out).mono ?_); rintro e w23 ⟨⟨A2, m2, c2, rfl, hh⟩, hn⟩; clear HS; have HS := Aside0.mk hn; clear hn; have HH := Aside0.mk hh; clear hh) | (go_at_call 28; (with_reducible refine (sy_blocked HS.out).mono ?_); rintro e w28 ⟨⟨A2, m2, c2, rfl, hh⟩, hn⟩; clear HS; have HS := Aside0.mk hn; clear hn; have HH := Aside0.mk hh; clear hh) | (go_at_call 27; (with_reducible refine (sy_has HH.out).mono ?_); rintro e w27 ⟨rfl, hb⟩; have n0_ := Aside0.mk (HS.out.below hb); clear HS HH hb; have HS := n0_; clear n0_))
              go_roundw
              case rel => exact ⟨i + 1, by go_num, HI.out, ⟨by have := HS.out; rw [show 2 + (i + 1) = 2 + i + 1 from rfl]; exact this⟩⟩
              case measure => have := HI.out; simp [intOf]; omega
            · have k1b : (z i 0 == 1) = false := by simpa using k1
              by_cases k2 : z i 0 = 2
              · have k2b : (z i 0 == 2) = true := by simpa using k2
                clear k0 k1 k2
                go_upto_region 24 with (first | (go_at_call 17; (with_reducible refine (sy_wake HS.out HN9.out _).mono ?_); rintro e w17 ⟨⟨x17, rfl⟩, hn⟩; clear HS; have HS := Aside0.mk hn; clear hn))
                go_wp2_with (first | (go_at_call 24; (with_reducible refine (sy_state HS.out).mono ?_); rintro e w24 ⟨rfl, hn⟩; clear HS; have HS := Aside0.mk hn; clear hn) | (go_at_call 25; (with_reducible refine (sy_code HS.out).mono ?_); rintro e w25 ⟨rfl, hn⟩; clear HS; have HS := Aside0.mk hn; clear hn) | (go_at_call 26; (with_reducible refine (sy_why HS.out).mono ?_); rintro e w26 ⟨rfl, hn⟩; clear HS; have HS := Aside0.mk hn; clear hn) | (go_at_call 23; (with_reducible refine (sy_ready HS.out).mono ?_); rintro e w23 ⟨⟨A2, m2, c2, rfl, hh⟩, hn⟩; clear HS; have HS := Aside0.mk hn; clear hn; have HH := Aside0.mk hh; clear hh) | (go_at_call 28; (with_reducible refine (sy_blocked HS.out).mono ?_); rintro e w28 ⟨⟨A2, m2, c2, rfl, hh⟩, hn⟩; clear HS; have HS := Aside0.mk hn; clear hn; have HH := Aside0.mk hh; clear hh) | (go_at_call 27; (with_reducible refine (sy_has HH.out).mono ?_); rintro e w27 ⟨rfl, hb⟩; have n0_ := Aside0.mk (HS.out.below hb); clear HS HH hb; have HS := n0_; clear n0_))
                go_roundw
                case rel => exact ⟨i + 1, by go_num, HI.out, ⟨by have := HS.out; rw [show 2 + (i + 1) = 2 + i + 1 from rfl]; exact this⟩⟩
                case measure => have := HI.out; simp [intOf]; omega
              · have k2b : (z i 0 == 2) = false := by simpa using k2
                clear k0 k1 k2
                go_wp2_with (fail)
                go_still_tail 11, (by kernel_rfl)
                refine at_drew (W := wr) ?_
                intro wd hbd
                have n0_ := Aside0.mk (HS.out.below hbd)
                clear HS hbd f0 f1 f2 f3
                have HS := n0_
                clear n0_
                go_upto_region 24 with (first | (go_at_call 19; (with_reducible refine (sy_end HS.out HN9.out _ _).mono ?_); rintro e w19 ⟨⟨x19, rfl⟩, hn⟩; clear HS; have HS := Aside0.mk hn; clear hn))
                go_wp2_with (first | (go_at_call 24; (with_reducible refine (sy_state HS.out).mono ?_); rintro e w24 ⟨rfl, hn⟩; clear HS; have HS := Aside0.mk hn; clear hn) | (go_at_call 25; (with_reducible refine (sy_code HS.out).mono ?_); rintro e w25 ⟨rfl, hn⟩; clear HS; have HS := Aside0.mk hn; clear hn) | (go_at_call 26; (with_reducible refine (sy_why HS.out).mono ?_); rintro e w26 ⟨rfl, hn⟩; clear HS; have HS := Aside0.mk hn; clear hn) | (go_at_call 23; (with_reducible refine (sy_ready HS.out).mono ?_); rintro e w23 ⟨⟨A2, m2, c2, rfl, hh⟩, hn⟩; clear HS; have HS := Aside0.mk hn; clear hn; have HH := Aside0.mk hh; clear hh) | (go_at_call 28; (with_reducible refine (sy_blocked HS.out).mono ?_); rintro e w28 ⟨⟨A2, m2, c2, rfl, hh⟩, hn⟩; clear HS; have HS := Aside0.mk hn; clear hn; have HH := Aside0.mk hh; clear hh) | (go_at_call 27; (with_reducible refine (sy_has HH.out).mono ?_); rintro e w27 ⟨rfl, hb⟩; have n0_ := Aside0.mk (HS.out.below hb); clear HS HH hb; have HS := n0_; clear n0_))
                go_roundw
                case rel => exact ⟨i + 1, by go_num, HI.out, ⟨by have := HS.out; rw [show 2 + (i + 1) = 2 + i + 1 from rfl]; exact this⟩⟩
                case measure => have := HI.out; simp [intOf]; omega
        · have hltb : decide (i < n) = false := decide_eq_false hlt
          clear hi hlt
          go_wp2_with (first | (go_at_call 10; (with_reducible refine (awake_any _).mono ?_); rintro e w10 ⟨rfl, hb⟩; have HB := Aside0.mk (below_step HS.out.at hb); clear hb))
          go_ret
          exact ⟨rfl, HB.out⟩

end Go.Proofs.Ytfllnpfikdhdbaa.PProcs
