import Derived.Test.YtfllnpfikdhdbaaPProcsx0
import Derived.Test.YtfllnpfikdhdbaaJoinL
import Derived.StillTailTactics
import Derived.Laws.LoneSync
import Derived.Laws.EntriesVeiled
import Derived.IntWalk
import Derived.Deep.RegionHeld3
import Derived.WalkMore
import Derived.ScopeJumps
namespace Go.Proofs.Ytfllnpfikdhdbaa.PProcs
open Go.RowKit Go.Proofs.YtfllnpfikdhdbaaW.PrintWords Go.Proofs.YtfllnpfikdhdbaaW.PrintLast Go.Proofs.YtfllnpfikdhdbaaW.PrintMore
attribute [local go_sem] max2_int min2_int max_two min_two max_three min_three max_four min_four
set_option linter.unusedVariables false
set_option linter.unusedSimpArgs false
def HalfJ (w0 w : World) (b c : Nat) (rs rs' : List Row) (n : Nat) : Prop := TB w b w0.heap.size 20 rs' ∧ RB w c w0.heap.size 20 rs ∧ Below w0.heap.size w0 w ∧ Inv rs ∧ (Inv rs' ∧ Ahead rs') ∧ rs.length ≤ 1000000 ∧ rs'.length ≤ n ∧ n ≤ 1000
def TwoJ (w0 w : World) (b c : Nat) (rs : List Row) (n : Nat) : Prop := TB w b w0.heap.size 20 rs ∧ RB w c w0.heap.size 20 rs ∧ Below w0.heap.size w0 w ∧ (Inv rs ∧ Ahead rs) ∧ rs.length ≤ n ∧ n ≤ 1000
section
variable {w0 w : World} {b c n : Nat} {rs rs' : List Row}
theorem TwoJ.below (h : TwoJ w0 w b c rs n) {w1 : World} (k : Below w.heap.size w w1) : TwoJ w0 w1 b c rs n := ⟨h.1.below k, h.2.1.below k, below_step h.2.2.1 k, h.2.2.2⟩
theorem HalfJ.below (h : HalfJ w0 w b c rs rs' n) {w1 : World} (k : Below w.heap.size w w1) : HalfJ w0 w1 b c rs rs' n := ⟨h.1.below k, h.2.1.below k, below_step h.2.2.1 k, h.2.2.2⟩
theorem TwoJ.len (h : TwoJ w0 w b c rs n) : rs.length ≤ 1000000 := by
  obtain ⟨_, _, _, _, x, y⟩ := h
  omega
theorem TwoJ.half (h : TwoJ w0 w b c rs n) (hn : n < 1000) {w' : World} (k : PA w0 w w' b 20 rs') (hi : Inv rs' ∧ Ahead rs' ∧ rs'.length ≤ rs.length + 1) : HalfJ w0 w' b c rs rs' (n + 1) :=
  ⟨k.1, h.2.1.fr k.2.1 (by decide) (by decide), k.2.2, h.2.2.2.1.1, ⟨hi.1, hi.2.1⟩, h.len, by have := h.2.2.2.2.1; have := hi.2.2; omega, hn⟩
theorem HalfJ.two (h : HalfJ w0 w b c rs rs' n) {w' : World} (k : PR w0 w w' c 20 rs') : TwoJ w0 w' b c rs' n :=
  ⟨h.1.fr k.2.1 (by decide) (by decide), k.1, k.2.2, h.2.2.2.2.1, h.2.2.2.2.2.2⟩
theorem tj_same (h : TwoJ w0 w b c rs n) : Calls Try.prog 37 #[.pointer (some ⟨b, 0, none⟩), .pointer (some ⟨c, 0, none⟩)] w fun e w' => e = .returned (.bool true) ∧ TwoJ w0 w' b c rs n :=
  (same10_any h.1 h.2.1 (by obtain ⟨_, _, _, _, x, y⟩ := h; omega) h.2.2.2.1.1 h.2.2.2.1.2).mono fun _ _ k => ⟨k.1, h.below k.2⟩
theorem tj_spawn (h : TwoJ w0 w b c rs n) (hn : n < 1000) (par : Int) : Calls Try.prog 13 #[.pointer (some ⟨b, 0, none⟩), .int .i64 par] w fun e w' => e = .returned (.tuple #[.int .i64 (spawnP 20 rs par).1, .int .i64 (spawnP 20 rs par).2.1]) ∧ Fr [73, 79] w w' ∧ HalfJ w0 w' b c rs (spawnP 20 rs par).2.2 (n + 1) :=
  (spawn_any par h.2.2.1 h.1 h.len).mono fun _ _ k => ⟨k.1, k.2.2.1, h.half hn k.2 (⟨(Inv.spawn h.2.2.2.1.1 20 par).1, h.2.2.2.1.2.spawn 20 par, (Inv.spawn h.2.2.2.1.1 20 par).2⟩)⟩
theorem hj_spawn (par : Int) (h : HalfJ w0 w b c rs (spawnP 20 rs par).2.2 n) : Calls Try.prog 14 #[.pointer (some ⟨c, 0, none⟩), .int .i64 par] w fun e w' => e = .returned (.tuple #[.int .i64 (spawnP 20 rs par).1, .int .i64 (spawnP 20 rs par).2.1]) ∧ Fr [77, 83] w w' ∧ TwoJ w0 w' b c (spawnP 20 rs par).2.2 n :=
  (rspawn_any par h.2.2.1 h.2.1 h.2.2.2.2.2.1).mono fun _ _ k => ⟨k.1, k.2.2.1, h.two k.2⟩
theorem tj_join (h : TwoJ w0 w b c rs n) (hn : n < 1000) (pid : Int) : Calls Try.prog 33 #[.pointer (some ⟨b, 0, none⟩), .int .i64 pid] w fun e w' => e = .returned (.bool (joinP rs pid).1) ∧ Fr [73, 79] w w' ∧ HalfJ w0 w' b c rs (joinP rs pid).2 (n + 1) :=
  (join_any pid h.2.2.1 h.1 h.len).mono fun _ _ k => ⟨k.1, k.2.2.1, h.half hn k.2 (keep_join h.2.2.2.1.1 h.2.2.2.1.2 pid)⟩
theorem hj_join (pid : Int) (h : HalfJ w0 w b c rs (joinP rs pid).2 n) : Calls Try.prog 34 #[.pointer (some ⟨c, 0, none⟩), .int .i64 pid] w fun e w' => e = .returned (.bool (joinP rs pid).1) ∧ Fr [77, 83] w w' ∧ TwoJ w0 w' b c (joinP rs pid).2 n :=
  (rjoin_any pid h.2.2.1 h.2.1 h.2.2.2.2.2.1).mono fun _ _ k => ⟨k.1, k.2.2.1, h.two k.2⟩
theorem tj_jend (h : TwoJ w0 w b c rs n) (hn : n < 1000) (pid c_ : Int) : Calls Try.prog 35 #[.pointer (some ⟨b, 0, none⟩), .int .i64 pid, .int .i64 c_] w fun e w' => e = .returned (.tuple #[.int .i64 (jendP rs pid c_).1, .bool (jendP rs pid c_).2.1]) ∧ Fr [73, 79] w w' ∧ HalfJ w0 w' b c rs (jendP rs pid c_).2.2 (n + 1) :=
  (jend_any pid c_ h.2.2.1 h.1 h.len).mono fun _ _ k => ⟨k.1, k.2.2.1, h.half hn k.2 (keep_jend h.2.2.2.1.1 h.2.2.2.1.2 pid c_)⟩
theorem hj_jend (pid c_ : Int) (h : HalfJ w0 w b c rs (jendP rs pid c_).2.2 n) : Calls Try.prog 36 #[.pointer (some ⟨c, 0, none⟩), .int .i64 pid, .int .i64 c_] w fun e w' => e = .returned (.tuple #[.int .i64 (jendP rs pid c_).1, .bool (jendP rs pid c_).2.1]) ∧ Fr [77, 83] w w' ∧ TwoJ w0 w' b c (jendP rs pid c_).2.2 n :=
  (rjend_any pid c_ h.2.2.1 h.2.1 h.2.2.2.2.2.1 h.2.2.2.1).mono fun _ _ k => ⟨k.1, k.2.2.1, h.two k.2⟩
end

end Go.Proofs.Ytfllnpfikdhdbaa.PProcs
