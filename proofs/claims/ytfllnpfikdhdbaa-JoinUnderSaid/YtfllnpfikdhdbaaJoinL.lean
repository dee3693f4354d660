import Derived.Test.YtfllnpfikdhdbaaPProcsx0
import Derived.Test.YtfllnpfikdhdbaaJoinK
import Derived.StillTailTactics
import Derived.Laws.LoneSync
import Derived.Laws.EntriesVeiled
import Derived.IntWalk
import Derived.Deep.RegionHeld3
import Derived.WalkMore
import Derived.ScopeJumps
namespace Go.Proofs.Ytfllnpfikdhdbaa.PProcs
open Go.RowKit Go.Proofs.YtfllnpfikdhdbaaW.PrintWords Go.Proofs.YtfllnpfikdhdbaaW.PrintLast Go.Proofs.YtfllnpfikdhdbaaW.PrintMore
attribute [local go_sem] max2_int min2_int max_two min_two max_three min_three max_four min_four
set_option linter.unusedVariables false
set_option linter.unusedSimpArgs false
/-! JoinPlays: the steps keep what is wanted. -/
theorem Ahead.set {rs : List Row} {pid : Int} {x : Row} (h : Ahead rs) (hx : x.pa = (rowAt rs pid).pa) (hl : (rowAt rs pid).st ≠ 0) : Ahead (rs.set (pid - 1).toNat x) := by
  obtain ⟨j, rfl, hj, e⟩ := rowAt_st hl
  rw [show ((j : Int) + 1 - 1).toNat = j by omega]
  intro i hi
  rw [List.length_set] at hi
  by_cases q : j = i
  · subst q
    rw [getD_set hi, hx, e]
    exact h j hi
  · rw [List.getD_eq_getElem?_getD, List.getElem?_set, if_neg q, ← List.getD_eq_getElem?_getD]
    exact h i hi
theorem Ahead.more {rs : List Row} {x : Row} (h : Ahead rs) (hx : 0 ≤ x.pa ∧ x.pa ≤ (rs.length : Int)) : Ahead (rs ++ [x]) := by
  intro i hi
  rw [List.length_append] at hi
  by_cases q : i < rs.length
  · rw [List.getD_eq_getElem?_getD, List.getElem?_append_left q, ← List.getD_eq_getElem?_getD]
    exact h i q
  · obtain rfl : i = rs.length := by simp at hi; omega
    rw [List.getD_eq_getElem?_getD, List.getElem?_append_right (Nat.le_refl _), Nat.sub_self]
    exact hx
theorem Ahead.spawn {rs : List Row} (h : Ahead rs) (most par : Int) : Ahead (spawnP most rs par).2.2 := by
  unfold spawnP
  split
  · exact h
  · rename_i q
    split
    · exact h
    · refine h.more ?_
      rcases parOk_of q with rfl | p
      · exact ⟨Int.le_refl _, by show (0 : Int) ≤ _; omega⟩
      · obtain ⟨i, e, hi, _⟩ := rowAt_st (live_st p)
        exact ⟨by show 0 ≤ par; omega, by show par ≤ _; omega⟩
theorem Ahead.block {rs : List Row} (h : Ahead rs) (pid kd ix : Int) : Ahead (blockP rs pid kd ix).2 := by
  unfold blockP
  split
  · rename_i q; exact h.set rfl (by rw [q.1]; decide)
  · exact h
theorem Ahead.wake {rs : List Row} (h : Ahead rs) (pid : Int) : Ahead (wakeP rs pid).2 := by
  unfold wakeP
  split
  · rename_i q; exact h.set rfl (by rw [q]; decide)
  · exact h
theorem Ahead.end_ {rs : List Row} (h : Ahead rs) (pid c : Int) : Ahead (endP rs pid c).2 := by
  unfold endP
  split
  · rename_i q; exact h.set rfl (live_st q)
  · exact h
theorem keep_join {rs : List Row} (hi : Inv rs) (h : Ahead rs) (pid : Int) : Inv (joinP rs pid).2 ∧ Ahead (joinP rs pid).2 ∧ (joinP rs pid).2.length ≤ rs.length + 1 := by
  unfold joinP
  split
  · exact ⟨hi, h, Nat.le_succ _⟩
  · exact ⟨(hi.block pid 5 0).1, h.block pid 5 0, (hi.block pid 5 0).2⟩
theorem keep_woken {rs : List Row} (hi : Inv rs) (h : Ahead rs) (up : Int) : Inv (wokenP rs up).2 ∧ Ahead (wokenP rs up).2 ∧ (wokenP rs up).2.length ≤ rs.length := by
  unfold wokenP
  split
  · exact ⟨(hi.wake up).1, h.wake up, Nat.le_of_eq (wakeP_len _ _)⟩
  · exact ⟨hi, h, Nat.le_refl _⟩
theorem keep_jend {rs : List Row} (hi : Inv rs) (h : Ahead rs) (pid c : Int) : Inv (jendP rs pid c).2.2 ∧ Ahead (jendP rs pid c).2.2 ∧ (jendP rs pid c).2.2.length ≤ rs.length + 1 := by
  unfold jendP
  split
  · have k := keep_woken (hi.end_ pid c).1 (h.end_ pid c) (rowAt (endP rs pid c).2 pid).pa
    exact ⟨k.1, k.2.1, by have := k.2.2; rw [endP_len] at this; exact Nat.le_succ_of_le this⟩
  · exact ⟨hi, h, Nat.le_succ _⟩

end Go.Proofs.Ytfllnpfikdhdbaa.PProcs
