import Derived.Test.YtfllnpfikdhdbaaPProcsx0
import Derived.Test.YtfllnpfikdhdbaaJoinF
import Derived.StillTailTactics
import Derived.Laws.LoneSync
import Derived.Laws.EntriesVeiled
import Derived.IntWalk
import Derived.Deep.RegionHeld3
import Derived.WalkMore
import Derived.ScopeJumps
namespace Go.Proofs.Ytfllnpfikdhdbaa.PProcs
open Go.RowKit Go.Proofs.YtfllnpfikdhdbaaW.PrintWords Go.Proofs.YtfllnpfikdhdbaaW.PrintLast Go.Proofs.YtfllnpfikdhdbaaW.PrintMore
attribute [local go_sem] max2_int min2_int max_two min_two max_three min_three max_four min_four
set_option linter.unusedVariables false
set_option linter.unusedSimpArgs false
section
variable {w0 w : World} {b : Nat} {most : Int} {rs : List Row}
theorem PR.below {w' w'' : World} (h : PR w0 w w' b most rs) (k : Below w'.heap.size w' w'') : PR w0 w w'' b most rs := ⟨h.1.below k, h.2.1.then_ (Fr.of_below k _), below_step h.2.2 k⟩
theorem PR.tb {w' : World} (h : PR w0 w w' b most rs) : RB w' b w0.heap.size most rs := h.1
theorem PR.lo {w' : World} (h : PR w0 w w' b most rs) : Below w0.heap.size w0 w' := h.2.2
theorem PR.then_ {w' w'' : World} {rs' : List Row} (h : PR w0 w w' b most rs) (k : PR w0 w' w'' b most rs') : PR w0 w w'' b most rs' := ⟨k.1, h.2.1.then_ k.2.1, k.2.2⟩
theorem Inv.st0 {rs : List Row} (h : Inv rs) : ∀ i, i < rs.length → (rs.getD i Row.z).st ≠ 0 := fun i hi => (h i hi).1
set_option maxHeartbeats 2000000 in
theorem rjoin_any (pid : Int) (hB : Below w0.heap.size w0 w) (h : RB w b w0.heap.size most rs) (hl : rs.length ≤ 1000000) : Calls Try.prog 34 #[.pointer (some ⟨b, 0, none⟩), .int .i64 pid] w fun e w' => e = .returned (.bool (joinP rs pid).1) ∧ PR w0 w w' b most (joinP rs pid).2 := by
  have KH := Aside0.mk (rkids_any pid h hl)
  have P0 := Aside0.mk (PR.of hB h (Below.refl w.heap.size w))
  have HL := Aside0.mk hl
  by_cases hk : kidsN rs pid = 0
  · have hkb : (((thoseL (kidB pid) rs).length : Int) == 0) = true := by unfold kidsN at hk; rw [hk]; rfl
    have E : Aside0 (joinP rs pid = (true, rs)) := ⟨by unfold joinP; rw [if_pos hk]⟩
    clear hB h hl hk
    generalize ((thoseL (kidB pid) rs).length : Int) = n at hkb KH
    go_enter Try.func34, Try.ntmps34
    go_wp2_with (first | (go_at_call 53; (with_reducible refine KH.out.mono ?_); rintro e w' ⟨rfl, rfl⟩))
    go_ret
    exact ⟨by rw [E.out]; rfl, by rw [E.out]; exact P0.out⟩
  · have hkb : (((thoseL (kidB pid) rs).length : Int) == 0) = false := by unfold kidsN at hk; rw [beq_eq_false_iff_ne]; omega
    have E : Aside0 (joinP rs pid = (false, (blockP rs pid 5 0).2)) := ⟨by unfold joinP; rw [if_neg hk]⟩
    clear hB h hl hk
    generalize ((thoseL (kidB pid) rs).length : Int) = n at hkb KH
    go_enter Try.func34, Try.ntmps34
    go_wp2_with (first
      | (go_at_call 53; (with_reducible refine KH.out.mono ?_); rintro e w' ⟨rfl, rfl⟩)
      | (go_at_call 16; (with_reducible refine (rblock_any pid 5 0 P0.out.lo P0.out.tb HL.out).mono ?_); rintro e w15 ⟨rfl, hp⟩; have n0_ := Aside0.mk (P0.out.then_ hp); clear P0 hp; have P0 := n0_; clear n0_))
    go_ret
    exact ⟨by rw [E.out]; rfl, by rw [E.out]; exact P0.out⟩
theorem wake1 {rs : List Row} {up : Int} : (wakeP rs up).1 = true ↔ (rowAt rs up).st = 2 := by
  unfold wakeP
  split
  · rename_i q; exact ⟨fun _ => q, fun _ => rfl⟩
  · rename_i q; exact ⟨(fun h => by cases h), fun h => absurd h q⟩
set_option maxHeartbeats 4000000 in
set_option maxRecDepth 100000 in
theorem rjend_any (pid c : Int) (hB : Below w0.heap.size w0 w) (h : RB w b w0.heap.size most rs) (hl : rs.length ≤ 1000000) (hi : Inv rs) : Calls Try.prog 36 #[.pointer (some ⟨b, 0, none⟩), .int .i64 pid, .int .i64 c] w fun e w' => e = .returned (.tuple #[.int .i64 (jendP rs pid c).1, .bool (jendP rs pid c).2.1]) ∧ PR w0 w w' b most (jendP rs pid c).2.2 := by
  have hfd := field36
  have EA := rend_any pid c hB h hl hi
  have L1 : Aside0 ((endP rs pid c).2.length ≤ 1000000) := ⟨by rw [endP_len]; exact hl⟩
  have HI0 := Aside0.mk (hi.end_ pid c).1.st0
  cases he : (endP rs pid c).1 with
  | false =>
    have E : Aside0 (jendP rs pid c = (0, false, rs)) := ⟨by unfold jendP; rw [he]; rfl⟩
    rw [he, endP_no he] at EA
    have EH := Aside0.mk EA
    clear EA hB h hl he hi
    go_enter Try.func36, Try.ntmps36
    go_wp2_with (first | (go_at_call 20; (with_reducible refine EH.out.mono ?_); rintro e w20 ⟨rfl, hp⟩; have P0 := Aside0.mk hp; clear hp))
    go_ret2
    exact ⟨by rw [E.out]; try rfl, by rw [E.out]; exact P0.out⟩
  | true =>
    have E : Aside0 (jendP rs pid c = ((wokenP (endP rs pid c).2 (rowAt (endP rs pid c).2 pid).pa).1, true, (wokenP (endP rs pid c).2 (rowAt (endP rs pid c).2 pid).pa).2)) := ⟨by unfold jendP; rw [if_pos he]⟩
    rw [he] at EA
    have EH := Aside0.mk EA
    clear EA hB h hl he hi
    generalize (endP rs pid c).2 = rs1 at E EH L1 HI0
    have WN : ∀ up, ¬ ((rowAt rs1 up).kd = 5 ∧ kidsN rs1 up = 0 ∧ (wakeP rs1 up).1 = true) → wokenP rs1 up = (0, rs1) := fun up q => by unfold wokenP; rw [if_neg q]
    have WY : ∀ up, (rowAt rs1 up).kd = 5 ∧ kidsN rs1 up = 0 ∧ (wakeP rs1 up).1 = true → wokenP rs1 up = (up, (wakeP rs1 up).2) := fun up q => by unfold wokenP; rw [if_pos q]
    generalize hup : (rowAt rs1 pid).pa = up at E
    have HUP := Aside0.mk hup
    clear hup
    have PR_ : Aside0 (∀ W : World, RB W b w0.heap.size most rs1 → Calls Try.prog 52 #[.pointer (some ⟨b, 0, none⟩), .int .i64 pid] W fun e w' => e = .returned (.int .i64 up) ∧ W = w') := ⟨fun W t => by
      have := rparent_any pid t L1.out HI0.out
      rw [HUP.out] at this
      exact this⟩
    by_cases h2 : (rowAt rs1 up).st = 2
    · have h2b : ((rowAt rs1 up).st == 2) = true := by simpa using h2
      by_cases h5 : (rowAt rs1 up).kd = 5
      · have h5b : ((rowAt rs1 up).kd == 5) = true := by simpa using h5
        by_cases hk : kidsN rs1 up = 0
        · have hkb : (((thoseL (kidB up) rs1).length : Int) == 0) = true := by unfold kidsN at hk; rw [hk]; rfl
          have E2 := Aside0.mk (WY up ⟨h5, hk, wake1.2 h2⟩)
          clear WN WY h5 hk h2
          go_enter Try.func36, Try.ntmps36
          go_wp2_with (first | (go_at_call 20; (with_reducible refine EH.out.mono ?_); rintro e w20 ⟨rfl, hp⟩; have P0 := Aside0.mk hp; clear hp) | (go_at_call 52; (with_reducible refine (PR_.out _ P0.out.tb).mono ?_); rintro e w' ⟨rfl, rfl⟩) | (go_at_call 48; (with_reducible refine (rstate_any _ P0.out.tb L1.out).mono ?_); rintro e w' ⟨rfl, rfl⟩) | (go_at_call 50; (with_reducible refine (rwhy_any _ P0.out.tb L1.out HI0.out).mono ?_); rintro e w50 ⟨rfl, hb⟩; have n0_ := Aside0.mk (P0.out.below hb); clear P0 hb; have P0 := n0_; clear n0_) | (go_at_call 53; (with_reducible refine (rkids_any _ P0.out.tb L1.out).mono ?_); rintro e w' ⟨rfl, rfl⟩) | (go_at_call 18; (with_reducible refine (rwake_any _ P0.out.lo P0.out.tb L1.out).mono ?_); rintro e w18 ⟨rfl, hp⟩; have n0_ := Aside0.mk (P0.out.then_ hp); clear P0 hp; have P0 := n0_; clear n0_))
          go_ret2
          exact ⟨by rw [E.out, E2.out]; try rfl, by rw [E.out, E2.out]; exact P0.out⟩
        · have hkb : (((thoseL (kidB up) rs1).length : Int) == 0) = false := by unfold kidsN at hk; rw [beq_eq_false_iff_ne]; omega
          have E2 := Aside0.mk (WN up (fun q => hk q.2.1))
          clear WN WY h5 hk h2
          go_enter Try.func36, Try.ntmps36
          go_wp2_with (first | (go_at_call 20; (with_reducible refine EH.out.mono ?_); rintro e w20 ⟨rfl, hp⟩; have P0 := Aside0.mk hp; clear hp) | (go_at_call 52; (with_reducible refine (PR_.out _ P0.out.tb).mono ?_); rintro e w' ⟨rfl, rfl⟩) | (go_at_call 48; (with_reducible refine (rstate_any _ P0.out.tb L1.out).mono ?_); rintro e w' ⟨rfl, rfl⟩) | (go_at_call 50; (with_reducible refine (rwhy_any _ P0.out.tb L1.out HI0.out).mono ?_); rintro e w50 ⟨rfl, hb⟩; have n0_ := Aside0.mk (P0.out.below hb); clear P0 hb; have P0 := n0_; clear n0_) | (go_at_call 53; (with_reducible refine (rkids_any _ P0.out.tb L1.out).mono ?_); rintro e w' ⟨rfl, rfl⟩))
          go_ret2
          exact ⟨by rw [E.out, E2.out]; try rfl, by rw [E.out, E2.out]; exact P0.out⟩
      · have h5b : ((rowAt rs1 up).kd == 5) = false := by simpa using h5
        have E2 := Aside0.mk (WN up (fun q => h5 q.1))
        clear WN WY h5 h2
        go_enter Try.func36, Try.ntmps36
        go_wp2_with (first | (go_at_call 20; (with_reducible refine EH.out.mono ?_); rintro e w20 ⟨rfl, hp⟩; have P0 := Aside0.mk hp; clear hp) | (go_at_call 52; (with_reducible refine (PR_.out _ P0.out.tb).mono ?_); rintro e w' ⟨rfl, rfl⟩) | (go_at_call 48; (with_reducible refine (rstate_any _ P0.out.tb L1.out).mono ?_); rintro e w' ⟨rfl, rfl⟩) | (go_at_call 50; (with_reducible refine (rwhy_any _ P0.out.tb L1.out HI0.out).mono ?_); rintro e w50 ⟨rfl, hb⟩; have n0_ := Aside0.mk (P0.out.below hb); clear P0 hb; have P0 := n0_; clear n0_))
        go_ret2
        exact ⟨by rw [E.out, E2.out]; try rfl, by rw [E.out, E2.out]; exact P0.out⟩
    · have h2b : ((rowAt rs1 up).st == 2) = false := by simpa using h2
      have E2 := Aside0.mk (WN up (fun q => h2 (wake1.1 q.2.2)))
      clear WN WY h2
      go_enter Try.func36, Try.ntmps36
      go_wp2_with (first | (go_at_call 20; (with_reducible refine EH.out.mono ?_); rintro e w20 ⟨rfl, hp⟩; have P0 := Aside0.mk hp; clear hp) | (go_at_call 52; (with_reducible refine (PR_.out _ P0.out.tb).mono ?_); rintro e w' ⟨rfl, rfl⟩) | (go_at_call 48; (with_reducible refine (rstate_any _ P0.out.tb L1.out).mono ?_); rintro e w' ⟨rfl, rfl⟩))
      go_ret2
      exact ⟨by rw [E.out, E2.out]; try rfl, by rw [E.out, E2.out]; exact P0.out⟩
end

end Go.Proofs.Ytfllnpfikdhdbaa.PProcs
