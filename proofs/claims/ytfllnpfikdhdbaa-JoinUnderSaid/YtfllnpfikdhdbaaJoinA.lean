import Derived.Test.YtfllnpfikdhdbaaPProcsx0
import Derived.Test.YtfllnpfikdhdbaaProcsY
import Derived.StillTailTactics
import Derived.Laws.LoneSync
import Derived.Laws.EntriesVeiled
import Derived.IntWalk
import Derived.Deep.RegionHeld3
namespace Go.Proofs.Ytfllnpfikdhdbaa.PProcs
open Go.RowKit Go.Proofs.YtfllnpfikdhdbaaW.PrintWords Go.Proofs.YtfllnpfikdhdbaaW.PrintLast Go.Proofs.YtfllnpfikdhdbaaW.PrintMore
attribute [local go_sem] max2_int min2_int max_two min_two max_three min_three max_four min_four
set_option linter.unusedVariables false
set_option linter.unusedSimpArgs false
/-! Who descends from whom. -/
def above (rs : List Row) (pid : Int) : Nat → Int → Bool
  | 0, q => decide ((rowAt rs q).pa = pid)
  | k + 1, q => decide ((rowAt rs q).pa = pid) || (decide (0 < (rowAt rs q).pa) && above rs pid k (rowAt rs q).pa)
/-- Parents stand ahead. -/
def Ahead (rs : List Row) : Prop := ∀ i, i < rs.length → 0 ≤ (rs.getD i Row.z).pa ∧ (rs.getD i Row.z).pa ≤ (i : Int)
theorem Ahead.lt {rs : List Row} (h : Ahead rs) (q : Int) : 0 ≤ (rowAt rs q).pa ∧ (0 < (rowAt rs q).pa → (rowAt rs q).pa < q) := by
  by_cases h1 : 1 ≤ q ∧ q ≤ (rs.length : Int)
  · have e : rowAt rs q = rs.getD (q - 1).toNat Row.z := by unfold rowAt; rw [if_pos h1]
    rw [e]
    have := h (q - 1).toNat (by omega)
    omega
  · rw [rowAt_out (by omega)]
    exact ⟨Int.le_refl _, fun h => absurd h (by decide)⟩
def UpF (g2 g3 g5 : Nat) : Value := .func (.func 60) #[] #[.pointer (some ⟨g2, 0, none⟩), .pointer (some ⟨g3, 0, none⟩), .pointer (some ⟨g5, 0, none⟩)]
set_option maxHeartbeats 4000000 in
set_option maxRecDepth 100000 in
theorem above_any (rs : List Row) (pid : Int) (g2 g3 g5 : Nat) (p : Value) (base : Nat) (most : Int) (hl : rs.length ≤ 1000000) (hA : Ahead rs) : ∀ (k : Nat) (q : Int) (w : World), q ≤ (k : Int) → TV w p base most rs → w.heap[g2]? = some (.cells #[p] 24 (0, 0)) → w.heap[g3]? = some (.cells #[.int .i64 pid] 3 (0, 0)) → w.heap[g5]? = some (.cells #[UpF g2 g3 g5] 38 (0, 0)) →
    Calls Try.prog 60 #[.int .i64 q, .pointer (some ⟨g2, 0, none⟩), .pointer (some ⟨g3, 0, none⟩), .pointer (some ⟨g5, 0, none⟩)] w fun e w' => e = .returned (.bool (above rs pid k q)) ∧ Below w.heap.size w w' := by
  intro k
  induction k with
  | zero =>
    intro q w hq ht h2 h3 h5
    have hu := hA.lt q
    have hp : ¬ 0 < (rowAt rs q).pa := fun h => by have := hu.2 h; omega
    have PA_ := Aside0.mk (parent_any q ht hl)
    have H3 := Aside0.mk h3
    have hc2 : w.cell? ⟨g2, 0, none⟩ = some p := (blk_cell h2 0).trans rfl
    have E : Aside0 (above rs pid 0 q = decide ((rowAt rs q).pa = pid)) := ⟨rfl⟩
    clear ht h2 h3 h5 hu hq
    generalize (rowAt rs q).pa = u at hp PA_ E
    by_cases hup : u = pid
    · have e1 : (u == pid) = true := by simpa using hup
      go_enter Try.func60, Try.ntmps60
      go_wp2_with (first | (go_at_call 29; (with_reducible refine PA_.out.mono ?_); rintro e w29 ⟨rfl, hb⟩; have hc3 : w29.cell? ⟨g3, 0, none⟩ = some (.int .i64 pid) := (blk_cell (blk_below H3.out hb) 0).trans rfl; have HB := Aside0.mk hb; clear hb))
      go_ret
      exact ⟨by rw [E.out]; simp_all, HB.out⟩
    · have e1 : (u == pid) = false := by simpa using hup
      have e2 : decide (u > 0) = false := decide_eq_false hp
      go_enter Try.func60, Try.ntmps60
      go_wp2_with (first | (go_at_call 29; (with_reducible refine PA_.out.mono ?_); rintro e w29 ⟨rfl, hb⟩; have hc3 : w29.cell? ⟨g3, 0, none⟩ = some (.int .i64 pid) := (blk_cell (blk_below H3.out hb) 0).trans rfl; have HB := Aside0.mk hb; clear hb))
      go_ret
      exact ⟨by rw [E.out]; simp_all, HB.out⟩
  | succ k ih =>
    intro q w hq ht h2 h3 h5
    have hu := hA.lt q
    have PA_ := Aside0.mk (parent_any q ht hl)
    have IH := Aside0.mk ih
    have TH := Aside0.mk ht
    have H2 := Aside0.mk h2
    have H3 := Aside0.mk h3
    have H5 := Aside0.mk h5
    have hc2 : w.cell? ⟨g2, 0, none⟩ = some p := (blk_cell h2 0).trans rfl
    have E : Aside0 (above rs pid (k + 1) q = (decide ((rowAt rs q).pa = pid) || (decide (0 < (rowAt rs q).pa) && above rs pid k (rowAt rs q).pa))) := ⟨rfl⟩
    have HQ : Aside0 (0 < (rowAt rs q).pa → (rowAt rs q).pa ≤ (k : Int)) := ⟨fun h => by have := hu.2 h; omega⟩
    clear ht h2 h3 h5 hu hq ih
    generalize (rowAt rs q).pa = u at PA_ E HQ
    by_cases hup : u = pid
    · have e1 : (u == pid) = true := by simpa using hup
      go_enter Try.func60, Try.ntmps60
      go_wp2_with (first | (go_at_call 29; (with_reducible refine PA_.out.mono ?_); rintro e w29 ⟨rfl, hb⟩; have hc3 : w29.cell? ⟨g3, 0, none⟩ = some (.int .i64 pid) := (blk_cell (blk_below H3.out hb) 0).trans rfl; have HB := Aside0.mk hb; clear hb))
      go_ret
      exact ⟨by rw [E.out]; simp_all, HB.out⟩
    · have e1 : (u == pid) = false := by simpa using hup
      by_cases hp : 0 < u
      · have e2 : decide (u > 0) = true := decide_eq_true hp
        have HK := Aside0.mk (HQ.out hp)
        go_enter Try.func60, Try.ntmps60
        go_wp2_with (first
          | (go_at_call 29; (with_reducible refine PA_.out.mono ?_); rintro e w29 ⟨rfl, hb⟩; have hc3 : w29.cell? ⟨g3, 0, none⟩ = some (.int .i64 pid) := (blk_cell (blk_below H3.out hb) 0).trans rfl; have hc5 : w29.cell? ⟨g5, 0, none⟩ = some (.func (.func 60) #[] #[.pointer (some ⟨g2, 0, none⟩), .pointer (some ⟨g3, 0, none⟩), .pointer (some ⟨g5, 0, none⟩)]) := (blk_cell (blk_below H5.out hb) 0).trans rfl; have HB := Aside0.mk hb; clear hb)
          | (go_at_call 60; (with_reducible refine (IH.out u w29 HK.out (TH.out.below HB.out) (blk_below H2.out HB.out) (blk_below H3.out HB.out) (blk_below H5.out HB.out)).mono ?_); rintro e w60 ⟨rfl, hb⟩; have n0_ := Aside0.mk (below_step HB.out hb); clear HB hb; have HB := n0_; clear n0_))
        go_ret
        exact ⟨by rw [E.out]; simp_all, HB.out⟩
      · have e2 : decide (u > 0) = false := decide_eq_false hp
        go_enter Try.func60, Try.ntmps60
        go_wp2_with (first | (go_at_call 29; (with_reducible refine PA_.out.mono ?_); rintro e w29 ⟨rfl, hb⟩; have hc3 : w29.cell? ⟨g3, 0, none⟩ = some (.int .i64 pid) := (blk_cell (blk_below H3.out hb) 0).trans rfl; have HB := Aside0.mk hb; clear hb))
        go_ret
        have hE : above rs pid (k + 1) q = false := by rw [E.out, decide_eq_false hup, show decide (0 < u) = false from decide_eq_false (by omega)]; rfl
        exact ⟨by rw [hE]; rfl, HB.out⟩

end Go.Proofs.Ytfllnpfikdhdbaa.PProcs
