import Derived.Test.YtfllnpfikdhdbaaPProcsx0
import Derived.Test.YtfllnpfikdhdbaaJoinB
import Derived.StillTailTactics
import Derived.Laws.LoneSync
import Derived.Laws.EntriesVeiled
import Derived.IntWalk
import Derived.Deep.RegionHeld3
import Derived.WalkMore
import Derived.ScopeJumps
namespace Go.Proofs.Ytfllnpfikdhdbaa.PProcs
open Go.RowKit Go.Proofs.YtfllnpfikdhdbaaW.PrintWords Go.Proofs.YtfllnpfikdhdbaaW.PrintLast Go.Proofs.YtfllnpfikdhdbaaW.PrintMore
attribute [local go_sem] max2_int min2_int max_two min_two max_three min_three max_four min_four
set_option linter.unusedVariables false
set_option linter.unusedSimpArgs false
def kidsN (rs : List Row) (q : Int) : Nat := (thoseL (kidB q) rs).length
def joinP (rs : List Row) (pid : Int) : Bool × List Row := if kidsN rs pid = 0 then (true, rs) else (false, (blockP rs pid 5 0).2)
/-- Who is woken when one that has ended was `up`'s. -/
def wokenP (rs : List Row) (up : Int) : Int × List Row := if (rowAt rs up).kd = 5 ∧ kidsN rs up = 0 ∧ (wakeP rs up).1 = true then (up, (wakeP rs up).2) else (0, rs)
def jendP (rs : List Row) (pid c : Int) : Int × Bool × List Row := if (endP rs pid c).1 = true then ((wokenP (endP rs pid c).2 (rowAt (endP rs pid c).2 pid).pa).1, true, (wokenP (endP rs pid c).2 (rowAt (endP rs pid c).2 pid).pa).2) else (0, false, rs)
theorem kids_le (rs : List Row) (q : Int) : kidsN rs q ≤ rs.length := thoseN_len _ _ _
theorem blockP_len (rs : List Row) (pid kd ix : Int) : (blockP rs pid kd ix).2.length = rs.length := by unfold blockP; split <;> simp
theorem wakeP_len (rs : List Row) (pid : Int) : (wakeP rs pid).2.length = rs.length := by unfold wakeP; split <;> simp
theorem endP_len (rs : List Row) (pid c : Int) : (endP rs pid c).2.length = rs.length := by unfold endP; split <;> simp
theorem endP_no {rs : List Row} {pid c : Int} (h : (endP rs pid c).1 = false) : (endP rs pid c).2 = rs := by
  unfold endP at h ⊢
  split
  · rename_i q; rw [if_pos q] at h; cases h
  · rfl
theorem wakeP_no {rs : List Row} {pid : Int} (h : (wakeP rs pid).1 = false) : (wakeP rs pid).2 = rs := by
  unfold wakeP at h ⊢
  split
  · rename_i q; rw [if_pos q] at h; cases h
  · rfl
section
variable {w0 w : World} {b : Nat} {most : Int} {rs : List Row}
theorem PA.below {w' w'' : World} (h : PA w0 w w' b most rs) (k : Below w'.heap.size w' w'') : PA w0 w w'' b most rs := ⟨h.1.below k, h.2.1.then_ (Fr.of_below k _), below_step h.2.2 k⟩
theorem PA.tb {w' : World} (h : PA w0 w w' b most rs) : TB w' b w0.heap.size most rs := h.1
theorem PA.lo {w' : World} (h : PA w0 w w' b most rs) : Below w0.heap.size w0 w' := h.2.2
theorem PA.then_ {w' w'' : World} {rs' : List Row} (h : PA w0 w w' b most rs) (k : PA w0 w' w'' b most rs') : PA w0 w w'' b most rs' := ⟨k.1, h.2.1.then_ k.2.1, k.2.2⟩
set_option maxHeartbeats 2000000 in
theorem join_any (pid : Int) (hB : Below w0.heap.size w0 w) (h : TB w b w0.heap.size most rs) (hl : rs.length ≤ 1000000) : Calls Try.prog 33 #[.pointer (some ⟨b, 0, none⟩), .int .i64 pid] w fun e w' => e = .returned (.bool (joinP rs pid).1) ∧ PA w0 w w' b most (joinP rs pid).2 := by
  have KH := Aside0.mk (kids_any pid h.tv hl)
  have P0 := Aside0.mk (PA.of hB h (Below.refl w.heap.size w))
  have HL := Aside0.mk hl
  by_cases hk : kidsN rs pid = 0
  · have hkb : (((thoseL (kidB pid) rs).length : Int) == 0) = true := by unfold kidsN at hk; rw [hk]; rfl
    have E : Aside0 (joinP rs pid = (true, rs)) := ⟨by unfold joinP; rw [if_pos hk]⟩
    clear hB h hl hk
    generalize ((thoseL (kidB pid) rs).length : Int) = n at hkb KH
    go_enter Try.func33, Try.ntmps33
    go_wp2_with (first | (go_at_call 30; (with_reducible refine KH.out.mono ?_); rintro e w30 ⟨rfl, hb⟩; have n0_ := Aside0.mk (P0.out.below hb); clear P0 hb; have P0 := n0_; clear n0_))
    go_ret
    exact ⟨by rw [E.out]; rfl, by rw [E.out]; exact P0.out⟩
  · have hkb : (((thoseL (kidB pid) rs).length : Int) == 0) = false := by unfold kidsN at hk; rw [beq_eq_false_iff_ne]; omega
    have E : Aside0 (joinP rs pid = (false, (blockP rs pid 5 0).2)) := ⟨by unfold joinP; rw [if_neg hk]⟩
    clear hB h hl hk
    generalize ((thoseL (kidB pid) rs).length : Int) = n at hkb KH
    go_enter Try.func33, Try.ntmps33
    go_wp2_with (first
      | (go_at_call 30; (with_reducible refine KH.out.mono ?_); rintro e w30 ⟨rfl, hb⟩; have n0_ := Aside0.mk (P0.out.below hb); clear P0 hb; have P0 := n0_; clear n0_)
      | (go_at_call 15; (with_reducible refine (block_any pid 5 0 P0.out.lo P0.out.tb HL.out).mono ?_); rintro e w15 ⟨rfl, hp⟩; have n0_ := Aside0.mk (P0.out.then_ hp); clear P0 hp; have P0 := n0_; clear n0_))
    go_ret
    exact ⟨by rw [E.out]; rfl, by rw [E.out]; exact P0.out⟩
set_option maxHeartbeats 4000000 in
set_option maxRecDepth 100000 in
theorem jend_any (pid c : Int) (hB : Below w0.heap.size w0 w) (h : TB w b w0.heap.size most rs) (hl : rs.length ≤ 1000000) : Calls Try.prog 35 #[.pointer (some ⟨b, 0, none⟩), .int .i64 pid, .int .i64 c] w fun e w' => e = .returned (.tuple #[.int .i64 (jendP rs pid c).1, .bool (jendP rs pid c).2.1]) ∧ PA w0 w w' b most (jendP rs pid c).2.2 := by
  have hfd := field36
  have EA := end_any pid c hB h hl
  have L1 : Aside0 ((endP rs pid c).2.length ≤ 1000000) := ⟨by rw [endP_len]; exact hl⟩
  cases he : (endP rs pid c).1 with
  | false =>
    have E : Aside0 (jendP rs pid c = (0, false, rs)) := ⟨by unfold jendP; rw [he]; rfl⟩
    rw [he, endP_no he] at EA
    have EH := Aside0.mk EA
    clear EA hB h hl he
    go_enter Try.func35, Try.ntmps35
    go_wp2_with (first | (go_at_call 19; (with_reducible refine EH.out.mono ?_); rintro e w19 ⟨rfl, hp⟩; have P0 := Aside0.mk hp; clear hp))
    go_ret2
    exact ⟨by rw [E.out]; try rfl, by rw [E.out]; exact P0.out⟩
  | true =>
    have E : Aside0 (jendP rs pid c = ((wokenP (endP rs pid c).2 (rowAt (endP rs pid c).2 pid).pa).1, true, (wokenP (endP rs pid c).2 (rowAt (endP rs pid c).2 pid).pa).2)) := ⟨by unfold jendP; rw [if_pos he]⟩
    rw [he] at EA
    have EH := Aside0.mk EA
    clear EA hB h hl he
    generalize (endP rs pid c).2 = rs1 at E EH L1
    have WN : ∀ up, ¬ ((rowAt rs1 up).kd = 5 ∧ kidsN rs1 up = 0 ∧ (wakeP rs1 up).1 = true) → wokenP rs1 up = (0, rs1) := fun up q => by unfold wokenP; rw [if_neg q]
    have WY : ∀ up, (rowAt rs1 up).kd = 5 ∧ kidsN rs1 up = 0 ∧ (wakeP rs1 up).1 = true → wokenP rs1 up = (up, (wakeP rs1 up).2) := fun up q => by unfold wokenP; rw [if_pos q]
    generalize hup : (rowAt rs1 pid).pa = up at E
    have HUP := Aside0.mk hup
    clear hup
    have PR_ : Aside0 (∀ W : World, TV W (.pointer (some ⟨b, 0, none⟩)) w0.heap.size most rs1 → Calls Try.prog 29 #[.pointer (some ⟨b, 0, none⟩), .int .i64 pid] W fun e w' => e = .returned (.int .i64 up) ∧ Below W.heap.size W w') := ⟨fun W t => by
      have := parent_any pid t L1.out
      rw [HUP.out] at this
      exact this⟩
    by_cases h5 : (rowAt rs1 up).kd = 5
    · have h5b : ((rowAt rs1 up).kd == 5) = true := by simpa using h5
      by_cases hk : kidsN rs1 up = 0
      · have hkb : (((thoseL (kidB up) rs1).length : Int) == 0) = true := by unfold kidsN at hk; rw [hk]; rfl
        cases hw : (wakeP rs1 up).1 with
        | true =>
          have E2 := Aside0.mk (WY up ⟨h5, hk, hw⟩)
          have WA : Aside0 (∀ W : World, Below w0.heap.size w0 W → TB W b w0.heap.size most rs1 → Calls Try.prog 17 #[.pointer (some ⟨b, 0, none⟩), .int .i64 up] W fun e w' => e = .returned (.bool true) ∧ PA w0 W w' b most (wakeP rs1 up).2) := ⟨fun W hb t => by
            have := wake_any up hb t L1.out
            rw [hw] at this
            exact this⟩
          clear WN WY h5 hk hw
          go_enter Try.func35, Try.ntmps35
          go_wp2_with (first | (go_at_call 19; (with_reducible refine EH.out.mono ?_); rintro e w19 ⟨rfl, hp⟩; have P0 := Aside0.mk hp; clear hp) | (go_at_call 29; (with_reducible refine (PR_.out _ P0.out.tb.tv).mono ?_); rintro e w29 ⟨rfl, hb⟩; have n0_ := Aside0.mk (P0.out.below hb); clear P0 hb; have P0 := n0_; clear n0_) | (go_at_call 26; (with_reducible refine (why_any _ P0.out.tb.tv L1.out).mono ?_); rintro e w26 ⟨rfl, hb⟩; have n0_ := Aside0.mk (P0.out.below hb); clear P0 hb; have P0 := n0_; clear n0_) | (go_at_call 30; (with_reducible refine (kids_any _ P0.out.tb.tv L1.out).mono ?_); rintro e w30 ⟨rfl, hb⟩; have n0_ := Aside0.mk (P0.out.below hb); clear P0 hb; have P0 := n0_; clear n0_) | (go_at_call 17; (with_reducible refine (WA.out _ P0.out.lo P0.out.tb).mono ?_); rintro e w17 ⟨rfl, hp⟩; have n0_ := Aside0.mk (P0.out.then_ hp); clear P0 hp; have P0 := n0_; clear n0_))
          go_ret2
          exact ⟨by rw [E.out, E2.out]; try rfl, by rw [E.out, E2.out]; exact P0.out⟩
        | false =>
          have E2 := Aside0.mk (WN up (fun q => by rw [hw] at q; exact absurd q.2.2 (by decide)))
          have WA : Aside0 (∀ W : World, Below w0.heap.size w0 W → TB W b w0.heap.size most rs1 → Calls Try.prog 17 #[.pointer (some ⟨b, 0, none⟩), .int .i64 up] W fun e w' => e = .returned (.bool false) ∧ PA w0 W w' b most rs1) := ⟨fun W hb t => by
            have := wake_any up hb t L1.out
            rw [hw, wakeP_no hw] at this
            exact this⟩
          clear WN WY h5 hk hw
          go_enter Try.func35, Try.ntmps35
          go_wp2_with (first | (go_at_call 19; (with_reducible refine EH.out.mono ?_); rintro e w19 ⟨rfl, hp⟩; have P0 := Aside0.mk hp; clear hp) | (go_at_call 29; (with_reducible refine (PR_.out _ P0.out.tb.tv).mono ?_); rintro e w29 ⟨rfl, hb⟩; have n0_ := Aside0.mk (P0.out.below hb); clear P0 hb; have P0 := n0_; clear n0_) | (go_at_call 26; (with_reducible refine (why_any _ P0.out.tb.tv L1.out).mono ?_); rintro e w26 ⟨rfl, hb⟩; have n0_ := Aside0.mk (P0.out.below hb); clear P0 hb; have P0 := n0_; clear n0_) | (go_at_call 30; (with_reducible refine (kids_any _ P0.out.tb.tv L1.out).mono ?_); rintro e w30 ⟨rfl, hb⟩; have n0_ := Aside0.mk (P0.out.below hb); clear P0 hb; have P0 := n0_; clear n0_) | (go_at_call 17; (with_reducible refine (WA.out _ P0.out.lo P0.out.tb).mono ?_); rintro e w17 ⟨rfl, hp⟩; have n0_ := Aside0.mk (P0.out.then_ hp); clear P0 hp; have P0 := n0_; clear n0_))
          go_ret2
          exact ⟨by rw [E.out, E2.out]; try rfl, by rw [E.out, E2.out]; exact P0.out⟩
      · have hkb : (((thoseL (kidB up) rs1).length : Int) == 0) = false := by unfold kidsN at hk; rw [beq_eq_false_iff_ne]; omega
        have E2 := Aside0.mk (WN up (fun q => hk q.2.1))
        clear WN WY h5 hk
        go_enter Try.func35, Try.ntmps35
        go_wp2_with (first | (go_at_call 19; (with_reducible refine EH.out.mono ?_); rintro e w19 ⟨rfl, hp⟩; have P0 := Aside0.mk hp; clear hp) | (go_at_call 29; (with_reducible refine (PR_.out _ P0.out.tb.tv).mono ?_); rintro e w29 ⟨rfl, hb⟩; have n0_ := Aside0.mk (P0.out.below hb); clear P0 hb; have P0 := n0_; clear n0_) | (go_at_call 26; (with_reducible refine (why_any _ P0.out.tb.tv L1.out).mono ?_); rintro e w26 ⟨rfl, hb⟩; have n0_ := Aside0.mk (P0.out.below hb); clear P0 hb; have P0 := n0_; clear n0_) | (go_at_call 30; (with_reducible refine (kids_any _ P0.out.tb.tv L1.out).mono ?_); rintro e w30 ⟨rfl, hb⟩; have n0_ := Aside0.mk (P0.out.below hb); clear P0 hb; have P0 := n0_; clear n0_))
        go_ret2
        exact ⟨by rw [E.out, E2.out]; try rfl, by rw [E.out, E2.out]; exact P0.out⟩
    · have h5b : ((rowAt rs1 up).kd == 5) = false := by simpa using h5
      have E2 := Aside0.mk (WN up (fun q => h5 q.1))
      clear WN WY h5
      go_enter Try.func35, Try.ntmps35
      go_wp2_with (first | (go_at_call 19; (with_reducible refine EH.out.mono ?_); rintro e w19 ⟨rfl, hp⟩; have P0 := Aside0.mk hp; clear hp) | (go_at_call 29; (with_reducible refine (PR_.out _ P0.out.tb.tv).mono ?_); rintro e w29 ⟨rfl, hb⟩; have n0_ := Aside0.mk (P0.out.below hb); clear P0 hb; have P0 := n0_; clear n0_) | (go_at_call 26; (with_reducible refine (why_any _ P0.out.tb.tv L1.out).mono ?_); rintro e w26 ⟨rfl, hb⟩; have n0_ := Aside0.mk (P0.out.below hb); clear P0 hb; have P0 := n0_; clear n0_))
      go_ret2
      exact ⟨by rw [E.out, E2.out]; try rfl, by rw [E.out, E2.out]; exact P0.out⟩
end

end Go.Proofs.Ytfllnpfikdhdbaa.PProcs
