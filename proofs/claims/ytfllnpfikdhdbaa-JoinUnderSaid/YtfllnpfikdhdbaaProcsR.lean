import Derived.Test.YtfllnpfikdhdbaaPProcsx0
import Derived.Test.YtfllnpfikdhdbaaProcsO
import Derived.StillTailTactics
import Derived.Laws.LoneSync
import Derived.Laws.EntriesVeiled
namespace Go.Proofs.Ytfllnpfikdhdbaa.PProcs
open Go.RowKit Go.Proofs.YtfllnpfikdhdbaaW.PrintWords Go.Proofs.YtfllnpfikdhdbaaW.PrintLast Go.Proofs.YtfllnpfikdhdbaaW.PrintMore
attribute [local go_sem] max2_int min2_int max_two min_two max_three min_three max_four min_four
set_option linter.unusedVariables false
set_option linter.unusedSimpArgs false
def Sy (w0 w : World) (b : Nat) (s d : Int) (n : Nat) : Prop := ∃ rs, TB w b w0.heap.size 10 rs ∧ Below w0.heap.size w0 w ∧ Stay ⟨s, 0, 0, 0, d⟩ n rs ∧ n ≤ 1000 ∧ (s = 3 ∨ s = 4)
def HasNo (w : World) (A : Option Addr) (m c : Nat) : Prop := ∃ l : List Int, m = l.length ∧ Kd.C (Kd.int .i64) w A l.length l ∧ l.length ≤ c ∧ (∀ y ∈ l, y ≠ 1) ∧ l.length ≤ 1000000
section
variable {w0 w : World} {b n : Nat} {s d : Int}
theorem Sy.below (h : Sy w0 w b s d n) {w1 : World} (hb : Below w.heap.size w w1) : Sy w0 w1 b s d n := by
  obtain ⟨rs, t, x, r⟩ := h
  exact ⟨rs, t.below hb, below_step x hb, r⟩
theorem Sy.at (h : Sy w0 w b s d n) : Below w0.heap.size w0 w := by
  obtain ⟨rs, _, x, _⟩ := h
  exact x
theorem sy_dead (h : s = 3 ∨ s = 4) : liveB ⟨s, 0, 0, 0, d⟩ = false := by
  rcases h with rfl | rfl <;> rfl
theorem sy_spawn (h : Sy w0 w b s d n) (hn : n < 1000) (par : Int) : Calls Try.prog 13 #[.pointer (some ⟨b, 0, none⟩), .int .i64 par] w fun e w' => (∃ x y, e = .returned (.tuple #[.int .i64 x, .int .i64 y])) ∧ Sy w0 w' b s d (n + 1) := by
  obtain ⟨rs, t, x, r, _, q⟩ := h
  exact (spawn_any par x t (by have := r.2.2; omega)).mono fun _ _ k => ⟨⟨_, _, k.1⟩, _, k.2.1, k.2.2.2, r.spawn par, hn, q⟩
theorem sy_block (h : Sy w0 w b s d n) (hn : n < 1000) (pid kd ix : Int) : Calls Try.prog 15 #[.pointer (some ⟨b, 0, none⟩), .int .i64 pid, .agg #[.int .i64 kd, .int .i64 ix]] w fun e w' => (∃ x, e = .returned (.bool x)) ∧ Sy w0 w' b s d (n + 1) := by
  obtain ⟨rs, t, x, r, _, q⟩ := h
  exact (block_any pid kd ix x t (by have := r.2.2; omega)).mono fun _ _ k => ⟨⟨_, k.1⟩, _, k.2.1, k.2.2.2, r.block (sy_dead q) pid kd ix, hn, q⟩
theorem sy_wake (h : Sy w0 w b s d n) (hn : n < 1000) (pid : Int) : Calls Try.prog 17 #[.pointer (some ⟨b, 0, none⟩), .int .i64 pid] w fun e w' => (∃ x, e = .returned (.bool x)) ∧ Sy w0 w' b s d (n + 1) := by
  obtain ⟨rs, t, x, r, _, q⟩ := h
  exact (wake_any pid x t (by have := r.2.2; omega)).mono fun _ _ k => ⟨⟨_, k.1⟩, _, k.2.1, k.2.2.2, r.wake (sy_dead q) pid, hn, q⟩
theorem sy_end (h : Sy w0 w b s d n) (hn : n < 1000) (pid c : Int) : Calls Try.prog 19 #[.pointer (some ⟨b, 0, none⟩), .int .i64 pid, .int .i64 c] w fun e w' => (∃ x, e = .returned (.bool x)) ∧ Sy w0 w' b s d (n + 1) := by
  obtain ⟨rs, t, x, r, _, q⟩ := h
  exact (end_any pid c x t (by have := r.2.2; omega)).mono fun _ _ k => ⟨⟨_, k.1⟩, _, k.2.1, k.2.2.2, r.end_ (sy_dead q) pid c, hn, q⟩
theorem sy_state (h : Sy w0 w b s d n) : Calls Try.prog 24 #[.pointer (some ⟨b, 0, none⟩), .int .i64 1] w fun e w' => e = .returned (.int .i64 s) ∧ Sy w0 w' b s d n := by
  have H := h
  obtain ⟨rs, t, x, r, m, q⟩ := h
  exact (state_any 1 t.tv (by have := r.2.2; omega)).mono fun _ _ k => ⟨by rw [k.1, r.1], H.below k.2⟩
theorem sy_code (h : Sy w0 w b s d n) : Calls Try.prog 25 #[.pointer (some ⟨b, 0, none⟩), .int .i64 1] w fun e w' => e = .returned (.int .i64 d) ∧ Sy w0 w' b s d n := by
  have H := h
  obtain ⟨rs, t, x, r, m, q⟩ := h
  exact (code_any 1 t.tv (by have := r.2.2; omega)).mono fun _ _ k => ⟨by rw [k.1, r.1], H.below k.2⟩
theorem sy_why (h : Sy w0 w b s d n) : Calls Try.prog 26 #[.pointer (some ⟨b, 0, none⟩), .int .i64 1] w fun e w' => e = .returned (.agg #[.int .i64 0, .int .i64 0]) ∧ Sy w0 w' b s d n := by
  have H := h
  obtain ⟨rs, t, x, r, m, q⟩ := h
  exact (why_any 1 t.tv (by have := r.2.2; omega)).mono fun _ _ k => ⟨by rw [k.1, r.1], H.below k.2⟩
theorem sy_ready (h : Sy w0 w b s d n) : Calls Try.prog 23 #[.pointer (some ⟨b, 0, none⟩)] w fun e w' => (∃ A m c, e = .returned (.slice A m c) ∧ HasNo w' A m c) ∧ Sy w0 w' b s d n := by
  have H := h
  obtain ⟨rs, t, x, r, m, q⟩ := h
  refine (lready_any t.tv (by have := r.2.2; omega)).mono fun _ _ ⟨v, k1, k2, k3⟩ => ⟨?_, H.below k3⟩
  obtain ⟨A, c, rfl⟩ := Kd.R_slice k2
  exact ⟨A, _, c, k1, _, rfl, (Kd.R_reads' k2).2.2, (Kd.R_reads' k2).2.1, those_no (by rw [r.1]; rcases q with rfl | rfl <;> rfl), by have := thoseN_len (isB 1) rs rs.length; have := r.2.2; unfold thoseL; omega⟩
theorem sy_blocked (h : Sy w0 w b s d n) : Calls Try.prog 28 #[.pointer (some ⟨b, 0, none⟩)] w fun e w' => (∃ A m c, e = .returned (.slice A m c) ∧ HasNo w' A m c) ∧ Sy w0 w' b s d n := by
  have H := h
  obtain ⟨rs, t, x, r, m, q⟩ := h
  refine (lblocked_any t.tv (by have := r.2.2; omega)).mono fun _ _ ⟨v, k1, k2, k3⟩ => ⟨?_, H.below k3⟩
  obtain ⟨A, c, rfl⟩ := Kd.R_slice k2
  exact ⟨A, _, c, k1, _, rfl, (Kd.R_reads' k2).2.2, (Kd.R_reads' k2).2.1, those_no (by rw [r.1]; rcases q with rfl | rfl <;> rfl), by have := thoseN_len (isB 2) rs rs.length; have := r.2.2; unfold thoseL; omega⟩
theorem sy_has {A : Option Addr} {m c : Nat} (h : HasNo w A m c) : Calls Try.prog 27 #[.slice A m c, .int .i64 1] w fun e w' => e = .returned (.bool false) ∧ Below w.heap.size w w' := by
  obtain ⟨l, rfl, r, hc, hn, hl⟩ := h
  exact (signalboxref1_Has.calls (l.length + 1) A c l 1 false w r hc (has_no hn hl (l.length + 1) 0 (by omega) (by omega))).mono fun _ _ k => ⟨k.1, k.2.below⟩
/-- The table to begin with. -/
theorem sy_new (w0 : World) : Calls Try.prog 11 #[.int .i64 10] w0 fun e w' => ∃ b, e = .returned (.tuple #[.pointer (some ⟨b, 0, none⟩), .int .i64 0]) ∧ TB w' b w0.heap.size 10 rs0 ∧ Below w0.heap.size w0 w' :=
  (new_yes w0 10 (by decide) (by decide)).mono fun _ _ ⟨b, k⟩ => ⟨b, k.1, k.2.1, k.2.2⟩
theorem sy_s1 (hB : Below w0.heap.size w0 w) (h : TB w b w0.heap.size 10 rs0) : Calls Try.prog 13 #[.pointer (some ⟨b, 0, none⟩), .int .i64 0] w fun e w' => e = .returned (.tuple #[.int .i64 1, .int .i64 0]) ∧ TB w' b w0.heap.size 10 rs1 ∧ Below w0.heap.size w0 w' :=
  (spawn_ok w0 b 0 hB h (by decide) (.inl rfl) (by decide)).mono fun _ _ k => ⟨k.1, k.2.1, k.2.2.2⟩
theorem sy_s2 (hB : Below w0.heap.size w0 w) (h : TB w b w0.heap.size 10 rs1) : Calls Try.prog 13 #[.pointer (some ⟨b, 0, none⟩), .int .i64 1] w fun e w' => e = .returned (.tuple #[.int .i64 2, .int .i64 0]) ∧ TB w' b w0.heap.size 10 rs2 ∧ Below w0.heap.size w0 w' :=
  (spawn_ok w0 b 1 hB h (by decide) (.inr (by decide)) (by decide)).mono fun _ _ k => ⟨k.1, k.2.1, k.2.2.2⟩
theorem sy_e (c : Int) (hB : Below w0.heap.size w0 w) (h : TB w b w0.heap.size 10 rs2) : Calls Try.prog 19 #[.pointer (some ⟨b, 0, none⟩), .int .i64 1, .int .i64 c] w fun e w' => e = .returned (.bool true) ∧ Sy w0 w' b (if c = 0 then 3 else 4) c 2 :=
  (end_yes w0 b 0 c hB h (by decide) (by decide) (by decide)).mono fun _ _ k => ⟨k.1, _, k.2.1, k.2.2.2, ⟨rfl, by rw [List.length_set]; decide, by rw [List.length_set]; decide⟩, by decide, by by_cases q : c = 0 <;> simp [q]⟩
end

end Go.Proofs.Ytfllnpfikdhdbaa.PProcs
