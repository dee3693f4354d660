import Derived.Test.YtfllnpfikdhdbaaPProcsx0
import Derived.Test.YtfllnpfikdhdbaaProcsM
import Derived.StillTailTactics
import Derived.Laws.LoneSync
import Derived.Laws.EntriesVeiled
namespace Go.Proofs.Ytfllnpfikdhdbaa.PProcs
open Go.RowKit Go.Proofs.YtfllnpfikdhdbaaW.PrintWords Go.Proofs.YtfllnpfikdhdbaaW.PrintLast Go.Proofs.YtfllnpfikdhdbaaW.PrintMore
attribute [local go_sem] max2_int min2_int max_two min_two max_three min_three max_four min_four
set_option linter.unusedVariables false
set_option linter.unusedSimpArgs false
/-! What the four calls do to the rows. -/
def spawnP (most : Int) (rs : List Row) (par : Int) : Int × Int × List Row :=
  if par ≠ 0 ∧ liveB (rowAt rs par) = false then (0, 3, rs) else if most ≤ ((thoseL liveB rs).length : Int) then (0, 42, rs) else ((rs.length : Int) + 1, 0, rs ++ [⟨1, par, 0, 0, 0⟩])
def blockP (rs : List Row) (pid kd ix : Int) : Bool × List Row := if (rowAt rs pid).st = 1 ∧ 1 ≤ kd ∧ kd ≤ 5 then (true, rs.set (pid - 1).toNat (blockR (rowAt rs pid) kd ix)) else (false, rs)
def wakeP (rs : List Row) (pid : Int) : Bool × List Row := if (rowAt rs pid).st = 2 then (true, rs.set (pid - 1).toNat (wakeR (rowAt rs pid))) else (false, rs)
def endP (rs : List Row) (pid c : Int) : Bool × List Row := if liveB (rowAt rs pid) = true then (true, rs.set (pid - 1).toNat (endR (rowAt rs pid) c)) else (false, rs)
theorem parOk_of {rs : List Row} {par : Int} (h : ¬ (par ≠ 0 ∧ liveB (rowAt rs par) = false)) : ParOk rs par := by
  by_cases q : par = 0
  · exact .inl q
  · refine .inr ?_
    cases p : liveB (rowAt rs par) with
    | true => rfl
    | false => exact absurd ⟨q, p⟩ h
theorem live_st {r : Row} (h : liveB r = true) : r.st ≠ 0 := by
  intro e
  rw [liveB, e] at h
  simp at h
def PA (w0 w w' : World) (b : Nat) (most : Int) (rs' : List Row) : Prop := TB w' b w0.heap.size most rs' ∧ Fr [73, 79] w w' ∧ Below w0.heap.size w0 w'
section
variable {w0 w : World} {b : Nat} {most : Int} {rs : List Row}
theorem PA.of (hB : Below w0.heap.size w0 w) (h : TB w b w0.heap.size most rs) {w' : World} (k : Below w.heap.size w w') : PA w0 w w' b most rs := ⟨h.below k, Fr.of_below k _, below_step hB k⟩
theorem spawn_any (par : Int) (hB : Below w0.heap.size w0 w) (h : TB w b w0.heap.size most rs) (hl : rs.length ≤ 1000000) : Calls Try.prog 13 #[.pointer (some ⟨b, 0, none⟩), .int .i64 par] w fun e w' => e = .returned (.tuple #[.int .i64 (spawnP most rs par).1, .int .i64 (spawnP most rs par).2.1]) ∧ PA w0 w w' b most (spawnP most rs par).2.2 := by
  unfold spawnP
  split
  · rename_i q
    exact (spawn_orphan b par h hl q.1 q.2).mono fun _ _ k => ⟨k.1, PA.of hB h k.2⟩
  · rename_i q
    split
    · rename_i p
      exact (spawn_full b par h hl (parOk_of q) p).mono fun _ _ k => ⟨k.1, PA.of hB h k.2⟩
    · rename_i p
      exact (spawn_ok w0 b par hB h hl (parOk_of q) (by omega)).mono fun _ _ k => ⟨k.1, k.2⟩
theorem block_any (pid kd ix : Int) (hB : Below w0.heap.size w0 w) (h : TB w b w0.heap.size most rs) (hl : rs.length ≤ 1000000) : Calls Try.prog 15 #[.pointer (some ⟨b, 0, none⟩), .int .i64 pid, .agg #[.int .i64 kd, .int .i64 ix]] w fun e w' => e = .returned (.bool (blockP rs pid kd ix).1) ∧ PA w0 w w' b most (blockP rs pid kd ix).2 := by
  unfold blockP
  split
  · rename_i q
    obtain ⟨i, rfl, hi, e⟩ := rowAt_st (show (rowAt rs pid).st ≠ 0 by rw [q.1]; decide)
    rw [e, show ((i : Int) + 1 - 1).toNat = i by omega]
    exact (block_yes w0 b i kd ix hB h hl hi (by rw [← e]; exact q.1) q.2.1 q.2.2).mono fun _ _ k => ⟨k.1, k.2⟩
  · rename_i q
    exact (block_no pid kd ix h.tv hl (by omega)).mono fun _ _ k => ⟨k.1, PA.of hB h k.2⟩
theorem wake_any (pid : Int) (hB : Below w0.heap.size w0 w) (h : TB w b w0.heap.size most rs) (hl : rs.length ≤ 1000000) : Calls Try.prog 17 #[.pointer (some ⟨b, 0, none⟩), .int .i64 pid] w fun e w' => e = .returned (.bool (wakeP rs pid).1) ∧ PA w0 w w' b most (wakeP rs pid).2 := by
  unfold wakeP
  split
  · rename_i q
    obtain ⟨i, rfl, hi, e⟩ := rowAt_st (show (rowAt rs pid).st ≠ 0 by rw [q]; decide)
    rw [e, show ((i : Int) + 1 - 1).toNat = i by omega]
    exact (wake_yes w0 b i hB h hl hi (by rw [← e]; exact q)).mono fun _ _ k => ⟨k.1, k.2⟩
  · rename_i q
    exact (wake_no pid h.tv hl q).mono fun _ _ k => ⟨k.1, PA.of hB h k.2⟩
theorem end_any (pid c : Int) (hB : Below w0.heap.size w0 w) (h : TB w b w0.heap.size most rs) (hl : rs.length ≤ 1000000) : Calls Try.prog 19 #[.pointer (some ⟨b, 0, none⟩), .int .i64 pid, .int .i64 c] w fun e w' => e = .returned (.bool (endP rs pid c).1) ∧ PA w0 w w' b most (endP rs pid c).2 := by
  unfold endP
  split
  · rename_i q
    obtain ⟨i, rfl, hi, e⟩ := rowAt_st (live_st q)
    rw [e, show ((i : Int) + 1 - 1).toNat = i by omega]
    exact (end_yes w0 b i c hB h hl hi (by rw [← e]; exact q)).mono fun _ _ k => ⟨k.1, k.2⟩
  · rename_i q
    exact (end_no pid c h.tv hl (by simpa using q)).mono fun _ _ k => ⟨k.1, PA.of hB h k.2⟩
/-- Row 1 stays: it has ended. -/
def Stay (E : Row) (n : Nat) (rs : List Row) : Prop := rowAt rs 1 = E ∧ 0 < rs.length ∧ rs.length ≤ n
theorem Stay.set {E : Row} {n : Nat} {pid : Int} {x : Row} (h : Stay E n rs) (hE : liveB E = false) (hp : liveB (rowAt rs pid) = true) : Stay E n (rs.set (pid - 1).toNat x) := by
  obtain ⟨i, rfl, hi, e⟩ := rowAt_st (live_st hp)
  rw [show ((i : Int) + 1 - 1).toNat = i by omega]
  obtain ⟨a, b, c⟩ := h
  have hi0 : i ≠ 0 := by
    rintro rfl
    rw [show ((0 : Nat) : Int) + 1 = 1 from rfl, a, hE] at hp
    cases hp
  refine ⟨?_, by rw [List.length_set]; exact b, by rw [List.length_set]; exact c⟩
  have e1 := rowAt_in b
  have e2 := rowAt_in (rs := rs.set i x) (i := 0) (by rw [List.length_set]; exact b)
  rw [show ((0 : Nat) : Int) + 1 = 1 from rfl] at e1 e2
  rw [e2, List.getD_eq_getElem?_getD, List.getElem?_set, if_neg hi0, ← List.getD_eq_getElem?_getD, ← e1]
  exact a
theorem Stay.more {E : Row} {n : Nat} (h : Stay E n rs) (x : Row) : Stay E (n + 1) (rs ++ [x]) := by
  obtain ⟨a, b, c⟩ := h
  refine ⟨?_, by rw [List.length_append]; omega, by rw [List.length_append]; exact Nat.succ_le_succ c⟩
  have e1 := rowAt_in b
  have e2 := rowAt_in (rs := rs ++ [x]) (i := 0) (by rw [List.length_append]; omega)
  rw [show ((0 : Nat) : Int) + 1 = 1 from rfl] at e1 e2
  rw [e2, List.getD_eq_getElem?_getD, List.getElem?_append_left b, ← List.getD_eq_getElem?_getD, ← e1]
  exact a
theorem Stay.up {E : Row} {n : Nat} (h : Stay E n rs) : Stay E (n + 1) rs := ⟨h.1, h.2.1, Nat.le_succ_of_le h.2.2⟩
theorem Stay.spawn {E : Row} {n : Nat} (h : Stay E n rs) (par : Int) : Stay E (n + 1) (spawnP most rs par).2.2 := by
  unfold spawnP
  split
  · exact h.up
  · split
    · exact h.up
    · exact h.more _
theorem Stay.block {E : Row} {n : Nat} (h : Stay E n rs) (hE : liveB E = false) (pid kd ix : Int) : Stay E (n + 1) (blockP rs pid kd ix).2 := by
  unfold blockP
  split
  · rename_i q
    exact (h.set hE (by rw [liveB, q.1]; rfl)).up
  · exact h.up
theorem Stay.wake {E : Row} {n : Nat} (h : Stay E n rs) (hE : liveB E = false) (pid : Int) : Stay E (n + 1) (wakeP rs pid).2 := by
  unfold wakeP
  split
  · rename_i q
    exact (h.set hE (by rw [liveB, q]; rfl)).up
  · exact h.up
theorem Stay.end_ {E : Row} {n : Nat} (h : Stay E n rs) (hE : liveB E = false) (pid c : Int) : Stay E (n + 1) (endP rs pid c).2 := by
  unfold endP
  split
  · rename_i q
    exact (h.set hE q).up
  · exact h.up
/-- Nobody of the list is it. -/
theorem has_no {l : List Int} {x : Int} (h : ∀ y ∈ l, y ≠ x) (hl : l.length ≤ 1000000) : ∀ k i : Nat, l.length + 1 ≤ k + i → i ≤ l.length → signalboxref1_Has.l0 k l x (i : Int) = some false
  | 0, i, h1, h2 => by omega
  | k + 1, i, h1, h2 => by
    rw [signalboxref1_Has.l0]
    by_cases q : (i : Int) < (l.length : Int)
    · rw [if_pos q, if_pos (by omega)]
      have hi : i < l.length := by omega
      have e : rd l (i : Int) = l[i] := by
        show l.getD (i : Int).toNat 0 = _
        rw [Int.toNat_natCast, List.getD_eq_getElem?_getD, List.getElem?_eq_getElem hi]; rfl
      rw [if_neg (by rw [e]; exact h _ (List.getElem_mem hi)), IntWalk.wrap64_in _ (by omega)]
      exact has_no h hl k (i + 1) (by omega) (by omega)
    · rw [if_neg q]
theorem those_no {f : Row → Bool} (h : f (rowAt rs 1) = false) : ∀ y ∈ thoseL f rs, y ≠ 1 := by
  intro y hy e
  obtain ⟨j, hj, e2, hf⟩ := thoseN_at f rs rs.length (Nat.le_refl _) y hy
  obtain rfl : j = 0 := by omega
  have e1 := rowAt_in hj
  rw [show ((0 : Nat) : Int) + 1 = 1 from rfl] at e1
  rw [e1, hf] at h
  cases h
end

end Go.Proofs.Ytfllnpfikdhdbaa.PProcs
