import Derived.Test.YtfllnpfikdhdbaaPProcsx0
import Derived.Test.YtfllnpfikdhdbaaJoinD
import Derived.StillTailTactics
import Derived.Laws.LoneSync
import Derived.Laws.EntriesVeiled
import Derived.IntWalk
import Derived.Deep.RegionHeld3
import Derived.WalkMore
import Derived.ScopeJumps
namespace Go.Proofs.Ytfllnpfikdhdbaa.PProcs
open Go.RowKit Go.Proofs.YtfllnpfikdhdbaaW.PrintWords Go.Proofs.YtfllnpfikdhdbaaW.PrintLast Go.Proofs.YtfllnpfikdhdbaaW.PrintMore
attribute [local go_sem] max2_int min2_int max_two min_two max_three min_three max_four min_four
set_option linter.unusedVariables false
set_option linter.unusedSimpArgs false
/-! JoinWaits, the plain law: row 1 is r0; of the rows behind it those whose number is in `left` live and are its children, the others do not live. -/
def JW (r0 : Row) (n : Nat) (left : List Int) (rs : List Row) : Prop := rs.length = n + 1 ∧ rs.getD 0 Row.z = r0 ∧ (∀ x ∈ left, ∃ j : Nat, 1 ≤ j ∧ j < n + 1 ∧ x = (j : Int) + 1) ∧ ∀ j : Nat, 1 ≤ j → j < n + 1 → ((j : Int) + 1 ∈ left → rs.getD j Row.z = ⟨1, 1, 0, 0, 0⟩) ∧ ((j : Int) + 1 ∉ left → liveB (rs.getD j Row.z) = false)
def rowR : Row := ⟨1, 0, 0, 0, 0⟩
def rowB : Row := ⟨2, 0, 5, 0, 0⟩
def kidJ : Row := ⟨1, 1, 0, 0, 0⟩
theorem JW.row1 {r0 : Row} {n : Nat} {left : List Int} {rs : List Row} (h : JW r0 n left rs) : rowAt rs 1 = r0 := by
  have e := rowAt_in (rs := rs) (i := 0) (by rw [h.1]; omega)
  rw [show ((0 : Nat) : Int) + 1 = 1 from rfl] at e
  rw [e, h.2.1]
theorem JW.kids {r0 : Row} {n : Nat} {left : List Int} {rs : List Row} (h : JW r0 n left rs) (h0 : r0.pa = 0) : kidsN rs 1 = 0 ↔ left = [] := by
  obtain ⟨hl, hr, hx, hj⟩ := h
  unfold kidsN
  rw [those_cnt, List.countP_eq_zero]
  constructor
  · intro q
    cases left with
    | nil => rfl
    | cons x l =>
      obtain ⟨j, j1, j2, e⟩ := hx x (by simp)
      have e2 := (hj j j1 j2).1 (by rw [← e]; simp)
      have hjl : j < rs.length := by omega
      have := q (rs.getD j Row.z) (by rw [getD_lt hjl]; exact List.getElem_mem hjl)
      rw [e2] at this
      exact absurd (by decide) this
  · rintro rfl r hr2 hk
    obtain ⟨j, hjl, rfl⟩ := List.getElem_of_mem hr2
    rw [← getD_lt hjl] at hk
    by_cases j0 : j = 0
    · subst j0
      rw [hr] at hk
      simp [kidB, h0] at hk
    · have := (hj j (by omega) (by omega)).2 (by simp)
      simp only [kidB, this] at hk
      simp at hk
theorem JW.start (rs : List Row) (h : rs = [rowR]) : JW rowR 0 [] rs := by
  subst h
  exact ⟨rfl, rfl, (fun x hx => by cases hx), fun j h1 h2 => by omega⟩
theorem JW.more {n : Nat} {left : List Int} {rs : List Row} (h : JW rowR n left rs) : JW rowR (n + 1) (left ++ [(n : Int) + 2]) (rs ++ [kidJ]) := by
  obtain ⟨hl, hr, hx, hj⟩ := h
  refine ⟨by rw [List.length_append, hl]; rfl, ?_, fun x hxm => ?_, fun j h1 h2 => ?_⟩
  · rw [List.getD_eq_getElem?_getD, List.getElem?_append_left (by omega), ← List.getD_eq_getElem?_getD, hr]
  · rcases List.mem_append.1 hxm with q | q
    · obtain ⟨j, a, b, c⟩ := hx x q
      exact ⟨j, a, by omega, c⟩
    · cases List.mem_singleton.1 q
      exact ⟨n + 1, by omega, by omega, by omega⟩
  · by_cases q : j < n + 1
    · have e : (rs ++ [kidJ]).getD j Row.z = rs.getD j Row.z := by
        rw [List.getD_eq_getElem?_getD, List.getElem?_append_left (by omega), ← List.getD_eq_getElem?_getD]
      rw [e]
      have hm : (j : Int) + 1 ∈ left ++ [(n : Int) + 2] ↔ (j : Int) + 1 ∈ left := by
        rw [List.mem_append, List.mem_singleton]
        constructor
        · rintro (a | a)
          · exact a
          · omega
        · exact .inl
      rw [hm]
      exact hj j h1 q
    · obtain rfl : j = n + 1 := by omega
      have e : (rs ++ [kidJ]).getD (n + 1) Row.z = kidJ := by
        rw [List.getD_eq_getElem?_getD, List.getElem?_append_right (by omega), hl, Nat.sub_self]; rfl
      rw [e]
      exact ⟨fun _ => rfl, fun q => absurd (List.mem_append.2 (.inr (by simp; omega))) q⟩
theorem JW.set0 {r0 r1 : Row} {n : Nat} {left : List Int} {rs : List Row} (h : JW r0 n left rs) : JW r1 n left (rs.set 0 r1) := by
  obtain ⟨hl, hr, hx, hj⟩ := h
  refine ⟨by rw [List.length_set, hl], getD_set (by omega), hx, fun j h1 h2 => ?_⟩
  rw [show (rs.set 0 r1).getD j Row.z = rs.getD j Row.z by rw [List.getD_eq_getElem?_getD, List.getElem?_set, if_neg (by omega), ← List.getD_eq_getElem?_getD]]
  exact hj j h1 h2
theorem JW.less {r0 x' : Row} {n i : Nat} {left : List Int} {rs : List Row} (h : JW r0 n left rs) (h1 : 1 ≤ i) (h2 : i < n + 1) (hd : liveB x' = false) : JW r0 n (left.filter (fun y => y != (i : Int) + 1)) (rs.set i x') := by
  obtain ⟨hl, hr, hx, hj⟩ := h
  refine ⟨by rw [List.length_set, hl], ?_, fun x hxm => hx x (List.mem_filter.1 hxm).1, fun j a b => ?_⟩
  · rw [List.getD_eq_getElem?_getD, List.getElem?_set, if_neg (by omega), ← List.getD_eq_getElem?_getD, hr]
  · by_cases q : i = j
    · subst q
      rw [getD_set (by omega)]
      refine ⟨fun hm => ?_, fun _ => hd⟩
      have := (List.mem_filter.1 hm).2
      simp at this
    · rw [show (rs.set i x').getD j Row.z = rs.getD j Row.z by rw [List.getD_eq_getElem?_getD, List.getElem?_set, if_neg q, ← List.getD_eq_getElem?_getD]]
      have hm : (j : Int) + 1 ∈ left.filter (fun y => y != (i : Int) + 1) ↔ (j : Int) + 1 ∈ left := by
        rw [List.mem_filter]
        constructor
        · exact fun t => t.1
        · exact fun t => ⟨t, by simp; omega⟩
      rw [hm]
      exact hj j a b
/-- One of those that are left ends. -/
theorem JW.end_ {n : Nat} {left : List Int} {rs : List Row} {x c : Int} (h : JW rowB n left rs) (hx : x ∈ left) :
    (jendP rs x c).2.1 = true ∧ (left.filter (fun y => y != x) = [] → (jendP rs x c).1 = 1 ∧ JW rowR n [] (jendP rs x c).2.2) ∧ (left.filter (fun y => y != x) ≠ [] → (jendP rs x c).1 = 0 ∧ JW rowB n (left.filter (fun y => y != x)) (jendP rs x c).2.2) := by
  obtain ⟨j, j1, j2, rfl⟩ := h.2.2.1 x hx
  have hjl : j < rs.length := by rw [h.1]; exact j2
  have er : rowAt rs ((j : Int) + 1) = kidJ := by rw [rowAt_in hjl]; exact (h.2.2.2 j j1 j2).1 hx
  have ee : endP rs ((j : Int) + 1) c = (true, rs.set j (endR kidJ c)) := by
    unfold endP
    rw [er, if_pos (by decide), show ((j : Int) + 1 - 1).toNat = j by omega]
  have H1 : JW rowB n (left.filter (fun y => y != (j : Int) + 1)) (rs.set j (endR kidJ c)) := h.less j1 j2 (by
    by_cases q : c = 0
    · subst q; rfl
    · unfold endR; rw [if_neg q]; rfl)
  have ep : (rowAt (rs.set j (endR kidJ c)) ((j : Int) + 1)).pa = 1 := by rw [row_set hjl]; rfl
  have ej : jendP rs ((j : Int) + 1) c = ((wokenP (rs.set j (endR kidJ c)) 1).1, true, (wokenP (rs.set j (endR kidJ c)) 1).2) := by
    unfold jendP
    rw [ee]
    simp only [if_true, ep]
  rw [ej]
  have ew : wakeP (rs.set j (endR kidJ c)) 1 = (true, (rs.set j (endR kidJ c)).set 0 rowR) := by
    unfold wakeP
    rw [H1.row1, if_pos (by decide)]; rfl
  have hk := H1.kids rfl
  refine ⟨rfl, fun q => ?_, fun q => ?_⟩
  · have e : wokenP (rs.set j (endR kidJ c)) 1 = (1, (rs.set j (endR kidJ c)).set 0 rowR) := by
      unfold wokenP
      rw [H1.row1, ew, if_pos ⟨rfl, hk.2 q, rfl⟩]
    rw [e]
    rw [q] at H1
    exact ⟨rfl, H1.set0⟩
  · have e : wokenP (rs.set j (endR kidJ c)) 1 = (0, rs.set j (endR kidJ c)) := by
      unfold wokenP
      rw [if_neg (fun t => q (hk.1 t.2.1))]
    rw [e]
    exact ⟨rfl, H1⟩
theorem JW.join {n : Nat} {left : List Int} {rs : List Row} (h : JW rowR n left rs) (q : left ≠ []) : joinP rs 1 = (false, rs.set 0 rowB) ∧ JW rowB n left (rs.set 0 rowB) := by
  refine ⟨?_, h.set0⟩
  unfold joinP
  rw [if_neg (fun t => q ((h.kids rfl).1 t))]
  unfold blockP
  rw [h.row1, if_pos (by decide)]; rfl
theorem JW.joined {n : Nat} {rs : List Row} (h : JW rowR n [] rs) : joinP rs 1 = (true, rs) := by
  unfold joinP
  rw [if_pos ((h.kids rfl).2 rfl)]
theorem JW.spawn {n : Nat} {left : List Int} {rs : List Row} (h : JW rowR n left rs) (hn : n < 25) : spawnP 30 rs 1 = ((n : Int) + 2, 0, rs ++ [kidJ]) := by
  have hc : (thoseL liveB rs).length ≤ rs.length := thoseN_len _ _ _
  unfold spawnP
  rw [h.row1, if_neg (by decide), if_neg (by have := h.1; omega), h.1]
  congr 1

end Go.Proofs.Ytfllnpfikdhdbaa.PProcs
