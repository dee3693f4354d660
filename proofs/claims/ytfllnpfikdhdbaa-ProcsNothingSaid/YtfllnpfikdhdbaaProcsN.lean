import Derived.Test.YtfllnpfikdhdbaaPProcsx0
import Derived.Test.YtfllnpfikdhdbaaProcsA
import Derived.Test.YtfllnpfikdhdbaaProcsB
import Derived.Test.YtfllnpfikdhdbaaProcsC
import Derived.Test.YtfllnpfikdhdbaaProcsD
import Derived.Test.YtfllnpfikdhdbaaProcsE
import Derived.Test.YtfllnpfikdhdbaaProcsF
import Derived.Test.YtfllnpfikdhdbaaProcsG
import Derived.Test.YtfllnpfikdhdbaaProcsZ
import Derived.Test.YtfllnpfikdhdbaaProcsH
import Derived.Test.YtfllnpfikdhdbaaProcsI
import Derived.StillTailTactics
import Derived.Laws.LoneSync
import Derived.Laws.EntriesVeiled
namespace Go.Proofs.Ytfllnpfikdhdbaa.PProcs
open Go.RowKit Go.Proofs.YtfllnpfikdhdbaaW.PrintWords Go.Proofs.YtfllnpfikdhdbaaW.PrintLast Go.Proofs.YtfllnpfikdhdbaaW.PrintMore
attribute [local go_sem] max2_int min2_int max_two min_two max_three min_three max_four min_four
set_option linter.unusedVariables false
set_option linter.unusedSimpArgs false
theorem rowAt_nil (pid : Int) : rowAt [] pid = Row.z := rowAt_out (by simp; omega)
def NilT : Value := .pointer none
theorem nilTV (w : World) : TV w (.pointer none) 0 0 [] := .inl ⟨rfl, rfl⟩
section
variable {w : World} (pid c : Int)
theorem no_spawn : Calls Try.prog 13 #[.pointer none, .int .i64 pid] w fun e w' => e = .returned (.tuple #[.int .i64 0, .int .i64 3]) ∧ Below w.heap.size w w' :=
  (spawn_nil pid w).mono fun _ _ k => ⟨k.1, k.2 ▸ Below.refl _ _⟩
theorem no_block : Calls Try.prog 15 #[.pointer none, .int .i64 pid, .agg #[.int .i64 1, .int .i64 0]] w fun e w' => e = .returned (.bool false) ∧ Below w.heap.size w w' :=
  (block_no pid 1 0 (nilTV w) (by decide) (.inl (by rw [rowAt_nil]; decide))).mono fun _ _ k => k
theorem no_wake : Calls Try.prog 17 #[.pointer none, .int .i64 pid] w fun e w' => e = .returned (.bool false) ∧ Below w.heap.size w w' :=
  (wake_no pid (nilTV w) (by decide) (by rw [rowAt_nil]; decide)).mono fun _ _ k => k
theorem no_end : Calls Try.prog 19 #[.pointer none, .int .i64 pid, .int .i64 c] w fun e w' => e = .returned (.bool false) ∧ Below w.heap.size w w' :=
  (end_no pid c (nilTV w) (by decide) (by rw [rowAt_nil]; decide)).mono fun _ _ k => k
theorem no_state : Calls Try.prog 24 #[.pointer none, .int .i64 pid] w fun e w' => e = .returned (.int .i64 0) ∧ Below w.heap.size w w' :=
  (state_any pid (nilTV w) (by decide)).mono fun _ _ k => ⟨by rw [k.1, rowAt_nil]; rfl, k.2⟩
theorem no_code : Calls Try.prog 25 #[.pointer none, .int .i64 pid] w fun e w' => e = .returned (.int .i64 0) ∧ Below w.heap.size w w' :=
  (code_any pid (nilTV w) (by decide)).mono fun _ _ k => ⟨by rw [k.1, rowAt_nil]; rfl, k.2⟩
theorem no_parent : Calls Try.prog 29 #[.pointer none, .int .i64 pid] w fun e w' => e = .returned (.int .i64 0) ∧ Below w.heap.size w w' :=
  (parent_any pid (nilTV w) (by decide)).mono fun _ _ k => ⟨by rw [k.1, rowAt_nil]; rfl, k.2⟩
theorem no_kids : Calls Try.prog 30 #[.pointer none, .int .i64 pid] w fun e w' => e = .returned (.int .i64 0) ∧ Below w.heap.size w w' :=
  (kids_any pid (nilTV w) (by decide)).mono fun _ _ k => k
theorem no_live : Calls Try.prog 22 #[.pointer none] w fun e w' => e = .returned (.int .i64 0) ∧ Below w.heap.size w w' :=
  (nlive_any (nilTV w) (by decide)).mono fun _ _ k => k
theorem no_count : Calls Try.prog 31 #[.pointer none] w fun e w' => e = .returned (.int .i64 0) ∧ Below w.heap.size w w' :=
  (count_any (nilTV w)).mono fun _ _ k => ⟨k.1, by have := k.2; first | exact this | (subst this; exact Below.refl _ _)⟩
theorem no_why : Calls Try.prog 26 #[.pointer none, .int .i64 pid] w fun e w' => e = .returned (.agg #[.int .i64 0, .int .i64 0]) ∧ Below w.heap.size w w' :=
  (why_any pid (nilTV w) (by decide)).mono fun _ _ k => ⟨by rw [k.1, rowAt_nil]; rfl, k.2⟩
theorem no_ready : Calls Try.prog 23 #[.pointer none] w fun e w' => (∃ A c, e = .returned (.slice A 0 c)) ∧ Below w.heap.size w w' :=
  (lready_any (nilTV w) (by decide)).mono fun _ _ ⟨v, k1, k2, k3⟩ => ⟨by obtain ⟨A, c, rfl⟩ := Kd.R_slice k2; exact ⟨A, c, k1⟩, k3⟩
theorem no_blocked : Calls Try.prog 28 #[.pointer none] w fun e w' => (∃ A c, e = .returned (.slice A 0 c)) ∧ Below w.heap.size w w' :=
  (lblocked_any (nilTV w) (by decide)).mono fun _ _ ⟨v, k1, k2, k3⟩ => ⟨by obtain ⟨A, c, rfl⟩ := Kd.R_slice k2; exact ⟨A, c, k1⟩, k3⟩
end
set_option maxHeartbeats 8000000 in
set_option maxRecDepth 100000 in
theorem nothing_any (w : World) (pid c : Int) : Calls Try.prog 6 #[.int .i64 pid, .int .i64 c] w fun e w' => e = .returned (.bool true) ∧ Below w.heap.size w w' := by
  have HB := Aside0.mk (Below.refl w.heap.size w)
  go_enter Try.func6, Try.ntmps6
  go_wp2_with (first
    | (go_at_call 13; (with_reducible refine (no_spawn _).mono ?_); rintro e w0 ⟨rfl, hb⟩; have n_ := Aside0.mk (below_step HB.out hb); clear HB hb; have HB := n_; clear n_)
    | (go_at_call 15; (with_reducible refine (no_block _).mono ?_); rintro e w1 ⟨rfl, hb⟩; have n_ := Aside0.mk (below_step HB.out hb); clear HB hb; have HB := n_; clear n_)
    | (go_at_call 17; (with_reducible refine (no_wake _).mono ?_); rintro e w2 ⟨rfl, hb⟩; have n_ := Aside0.mk (below_step HB.out hb); clear HB hb; have HB := n_; clear n_)
    | (go_at_call 19; (with_reducible refine (no_end _ _).mono ?_); rintro e w3 ⟨rfl, hb⟩; have n_ := Aside0.mk (below_step HB.out hb); clear HB hb; have HB := n_; clear n_)
    | (go_at_call 24; (with_reducible refine (no_state _).mono ?_); rintro e w4 ⟨rfl, hb⟩; have n_ := Aside0.mk (below_step HB.out hb); clear HB hb; have HB := n_; clear n_)
    | (go_at_call 25; (with_reducible refine (no_code _).mono ?_); rintro e w5 ⟨rfl, hb⟩; have n_ := Aside0.mk (below_step HB.out hb); clear HB hb; have HB := n_; clear n_)
    | (go_at_call 29; (with_reducible refine (no_parent _).mono ?_); rintro e w6 ⟨rfl, hb⟩; have n_ := Aside0.mk (below_step HB.out hb); clear HB hb; have HB := n_; clear n_)
    | (go_at_call 30; (with_reducible refine (no_kids _).mono ?_); rintro e w7 ⟨rfl, hb⟩; have n_ := Aside0.mk (below_step HB.out hb); clear HB hb; have HB := n_; clear n_)
    | (go_at_call 22; (with_reducible refine (no_live).mono ?_); rintro e w8 ⟨rfl, hb⟩; have n_ := Aside0.mk (below_step HB.out hb); clear HB hb; have HB := n_; clear n_)
    | (go_at_call 31; (with_reducible refine (no_count).mono ?_); rintro e w9 ⟨rfl, hb⟩; have n_ := Aside0.mk (below_step HB.out hb); clear HB hb; have HB := n_; clear n_)
    | (go_at_call 26; (with_reducible refine (no_why _).mono ?_); rintro e w10 ⟨rfl, hb⟩; have n_ := Aside0.mk (below_step HB.out hb); clear HB hb; have HB := n_; clear n_)
    | (go_at_call 23; (with_reducible refine no_ready.mono ?_); rintro e w20 ⟨⟨A20, c20, rfl⟩, hb⟩; have n_ := Aside0.mk (below_step HB.out hb); clear HB hb; have HB := n_; clear n_)
    | (go_at_call 28; (with_reducible refine no_blocked.mono ?_); rintro e w21 ⟨⟨A21, c21, rfl⟩, hb⟩; have n_ := Aside0.mk (below_step HB.out hb); clear HB hb; have HB := n_; clear n_)
    | (go_at_call 10; (with_reducible refine (awake_any _).mono ?_); rintro e w30 ⟨rfl, hb⟩; have n_ := Aside0.mk (below_step HB.out hb); clear HB hb; have HB := n_; clear n_))
  go_ret
  exact ⟨rfl, HB.out⟩

end Go.Proofs.Ytfllnpfikdhdbaa.PProcs
