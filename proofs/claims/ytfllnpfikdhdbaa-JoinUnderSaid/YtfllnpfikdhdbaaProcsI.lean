import Derived.Test.YtfllnpfikdhdbaaPProcsx0
import Derived.Test.YtfllnpfikdhdbaaProcsA
import Derived.Test.YtfllnpfikdhdbaaProcsB
import Derived.Test.YtfllnpfikdhdbaaProcsC
import Derived.Test.YtfllnpfikdhdbaaProcsD
import Derived.Test.YtfllnpfikdhdbaaProcsE
import Derived.Test.YtfllnpfikdhdbaaProcsF
import Derived.Test.YtfllnpfikdhdbaaProcsG
import Derived.Test.YtfllnpfikdhdbaaProcsZ
import Derived.Test.YtfllnpfikdhdbaaProcsH
import Derived.StillTailTactics
import Derived.Laws.LoneSync
import Derived.Laws.EntriesVeiled
namespace Go.Proofs.Ytfllnpfikdhdbaa.PProcs
open Go.RowKit Go.Proofs.YtfllnpfikdhdbaaW.PrintWords Go.Proofs.YtfllnpfikdhdbaaW.PrintLast Go.Proofs.YtfllnpfikdhdbaaW.PrintMore
attribute [local go_sem] max2_int min2_int max_two min_two max_three min_three max_four min_four
set_option linter.unusedVariables false
set_option linter.unusedSimpArgs false
def rs0 : List Row := []
def rs1 : List Row := [⟨1, 0, 0, 0, 0⟩]
def rs2 : List Row := [⟨1, 0, 0, 0, 0⟩, ⟨1, 1, 0, 0, 0⟩]
def rs3 : List Row := [⟨2, 0, 5, 0, 0⟩, ⟨1, 1, 0, 0, 0⟩]
def rs4 : List Row := [⟨2, 0, 5, 0, 0⟩, ⟨4, 1, 0, 0, 31⟩]
def rs5 : List Row := [⟨1, 0, 0, 0, 0⟩, ⟨4, 1, 0, 0, 31⟩]
def At (w0 w : World) (b : Nat) (rs : List Row) : Prop := TB w b w0.heap.size 2 rs ∧ Below w0.heap.size w0 w
theorem At.below {w0 w w1 : World} {b : Nat} {rs : List Row} (h : At w0 w b rs) (hb : Below w.heap.size w w1) : At w0 w1 b rs := ⟨h.1.below hb, below_step h.2 hb⟩
section
variable {w0 w : World} {b : Nat}
theorem aw_s1 (h : At w0 w b rs0) : Calls Try.prog 13 #[.pointer (some ⟨b, 0, none⟩), .int .i64 0] w fun e w' => e = .returned (.tuple #[.int .i64 1, .int .i64 0]) ∧ At w0 w' b rs1 :=
  (spawn_ok w0 b 0 h.2 h.1 (by decide) (.inl rfl) (by decide)).mono fun _ _ k => ⟨k.1, k.2.1, k.2.2.2⟩
theorem aw_s2 (h : At w0 w b rs1) : Calls Try.prog 13 #[.pointer (some ⟨b, 0, none⟩), .int .i64 1] w fun e w' => e = .returned (.tuple #[.int .i64 2, .int .i64 0]) ∧ At w0 w' b rs2 :=
  (spawn_ok w0 b 1 h.2 h.1 (by decide) (.inr (by decide)) (by decide)).mono fun _ _ k => ⟨k.1, k.2.1, k.2.2.2⟩
theorem aw_s3 (h : At w0 w b rs2) : Calls Try.prog 13 #[.pointer (some ⟨b, 0, none⟩), .int .i64 1] w fun e w' => e = .returned (.tuple #[.int .i64 0, .int .i64 42]) ∧ At w0 w' b rs2 :=
  (spawn_full b 1 h.1 (by decide) (.inr (by decide)) (by decide)).mono fun _ _ k => ⟨k.1, h.below k.2⟩
theorem aw_s4 (h : At w0 w b rs2) : Calls Try.prog 13 #[.pointer (some ⟨b, 0, none⟩), .int .i64 9] w fun e w' => e = .returned (.tuple #[.int .i64 0, .int .i64 3]) ∧ At w0 w' b rs2 :=
  (spawn_orphan b 9 h.1 (by decide) (by decide) (by decide)).mono fun _ _ k => ⟨k.1, h.below k.2⟩
theorem aw_b1 (h : At w0 w b rs2) : Calls Try.prog 15 #[.pointer (some ⟨b, 0, none⟩), .int .i64 1, .agg #[.int .i64 5, .int .i64 0]] w fun e w' => e = .returned (.bool true) ∧ At w0 w' b rs3 :=
  (block_yes w0 b 0 5 0 h.2 h.1 (by decide) (by decide) (by decide) (by decide) (by decide)).mono fun _ _ k => ⟨k.1, k.2.1, k.2.2.2⟩
theorem aw_b2 (h : At w0 w b rs3) : Calls Try.prog 15 #[.pointer (some ⟨b, 0, none⟩), .int .i64 1, .agg #[.int .i64 5, .int .i64 0]] w fun e w' => e = .returned (.bool false) ∧ At w0 w' b rs3 :=
  (block_no 1 5 0 h.1.tv (by decide) (.inl (by decide))).mono fun _ _ k => ⟨k.1, h.below k.2⟩
theorem aw_kids (h : At w0 w b rs3) : Calls Try.prog 30 #[.pointer (some ⟨b, 0, none⟩), .int .i64 1] w fun e w' => e = .returned (.int .i64 1) ∧ At w0 w' b rs3 :=
  (kids_any 1 h.1.tv (by decide)).mono fun _ _ k => ⟨k.1, h.below k.2⟩
theorem aw_state (h : At w0 w b rs3) : Calls Try.prog 24 #[.pointer (some ⟨b, 0, none⟩), .int .i64 1] w fun e w' => e = .returned (.int .i64 2) ∧ At w0 w' b rs3 :=
  (state_any 1 h.1.tv (by decide)).mono fun _ _ k => ⟨k.1, h.below k.2⟩
theorem aw_why (h : At w0 w b rs3) : Calls Try.prog 26 #[.pointer (some ⟨b, 0, none⟩), .int .i64 1] w fun e w' => e = .returned (.agg #[.int .i64 5, .int .i64 0]) ∧ At w0 w' b rs3 :=
  (why_any 1 h.1.tv (by decide)).mono fun _ _ k => ⟨k.1, h.below k.2⟩
theorem aw_par (h : At w0 w b rs3) : Calls Try.prog 29 #[.pointer (some ⟨b, 0, none⟩), .int .i64 2] w fun e w' => e = .returned (.int .i64 1) ∧ At w0 w' b rs3 :=
  (parent_any 2 h.1.tv (by decide)).mono fun _ _ k => ⟨k.1, h.below k.2⟩
theorem aw_end (h : At w0 w b rs3) : Calls Try.prog 19 #[.pointer (some ⟨b, 0, none⟩), .int .i64 2, .int .i64 31] w fun e w' => e = .returned (.bool true) ∧ At w0 w' b rs4 :=
  (end_yes w0 b 1 31 h.2 h.1 (by decide) (by decide) (by decide)).mono fun _ _ k => ⟨k.1, k.2.1, k.2.2.2⟩
theorem aw_code (h : At w0 w b rs4) : Calls Try.prog 25 #[.pointer (some ⟨b, 0, none⟩), .int .i64 2] w fun e w' => e = .returned (.int .i64 31) ∧ At w0 w' b rs4 :=
  (code_any 2 h.1.tv (by decide)).mono fun _ _ k => ⟨k.1, h.below k.2⟩
theorem aw_live (h : At w0 w b rs4) : Calls Try.prog 22 #[.pointer (some ⟨b, 0, none⟩)] w fun e w' => e = .returned (.int .i64 1) ∧ At w0 w' b rs4 :=
  (nlive_any h.1.tv (by decide)).mono fun _ _ k => ⟨k.1, h.below k.2⟩
theorem aw_wk1 (h : At w0 w b rs4) : Calls Try.prog 17 #[.pointer (some ⟨b, 0, none⟩), .int .i64 1] w fun e w' => e = .returned (.bool true) ∧ At w0 w' b rs5 :=
  (wake_yes w0 b 0 h.2 h.1 (by decide) (by decide) (by decide)).mono fun _ _ k => ⟨k.1, k.2.1, k.2.2.2⟩
theorem aw_wk2 (h : At w0 w b rs5) : Calls Try.prog 17 #[.pointer (some ⟨b, 0, none⟩), .int .i64 1] w fun e w' => e = .returned (.bool false) ∧ At w0 w' b rs5 :=
  (wake_no 1 h.1.tv (by decide) (by decide)).mono fun _ _ k => ⟨k.1, h.below k.2⟩
theorem aw_new (w0 : World) : Calls Try.prog 11 #[.int .i64 2] w0 fun e w' => ∃ b, e = .returned (.tuple #[.pointer (some ⟨b, 0, none⟩), .int .i64 0]) ∧ At w0 w' b rs0 :=
  (new_yes w0 2 (by decide) (by decide)).mono fun _ _ ⟨b, k⟩ => ⟨b, k.1, k.2.1, k.2.2⟩
theorem aw_count (h : At w0 w b rs4) : Calls Try.prog 31 #[.pointer (some ⟨b, 0, none⟩)] w fun e w' => e = .returned (.int .i64 2) ∧ At w0 w' b rs4 :=
  (count_any h.1.tv).mono fun _ _ k => ⟨k.1, by have := k.2; first | exact h.below this | (subst this; exact h)⟩
theorem aw_ready (h : At w0 w b rs4) : Calls Try.prog 23 #[.pointer (some ⟨b, 0, none⟩)] w fun e w' => (∃ A c, e = .returned (.slice A 0 c)) ∧ At w0 w' b rs4 :=
  (lready_any h.1.tv (by decide)).mono fun _ _ ⟨v, k1, k2, k3⟩ => ⟨by obtain ⟨A, c, rfl⟩ := Kd.R_slice k2; exact ⟨A, c, k1⟩, h.below k3⟩
theorem aw_blocked (h : At w0 w b rs4) : Calls Try.prog 28 #[.pointer (some ⟨b, 0, none⟩)] w fun e w' => (∃ A c, e = .returned (.slice A 1 c) ∧ 1 ≤ c ∧ Kd.C (Kd.int .i64) w' A 1 [1]) ∧ At w0 w' b rs4 :=
  (lblocked_any h.1.tv (by decide)).mono fun _ _ ⟨v, k1, k2, k3⟩ => ⟨by obtain ⟨A, c, rfl⟩ := Kd.R_slice k2; exact ⟨A, c, k1, (Kd.R_reads' k2).2.1, (Kd.R_reads' k2).2.2⟩, h.below k3⟩
end
theorem aw_ints {w : World} {A7 A8 : Option Addr} {c7 c8 : Nat} (h7 : 1 ≤ c7) (r7 : Kd.C (Kd.int .i64) w A7 1 [1]) (h8 : 1 ≤ c8) (r8 : Kd.C (Kd.int .i64) w A8 1 [1]) : Calls Try.prog 41 #[.slice A7 1 c7, .slice A8 1 c8] w fun e w' => e = .returned (.bool true) ∧ Drawn0 w w' :=
  signalboxref1_Ints.calls 3 A7 c7 [1] A8 c8 [1] true w r7 h7 r8 h8 (by decide +kernel)
theorem field36 (x2 x3 : Int) (w : World) : (Instr.field 36 (.agg #[.int .i64 x2, .int .i64 x3]) 0).run Try.prog w = .ok (.int .i64 x2) w := by kernel_rfl
set_option maxHeartbeats 8000000 in
set_option maxRecDepth 100000 in
theorem awake_any (w : World) : Calls Try.prog 10 #[] w fun e w' => e = .returned (.bool true) ∧ Below w.heap.size w w' := by
  have hfd := field36
  go_enter Try.func10, Try.ntmps10
  go_wp2_with (first
    | (go_at_call 11; (with_reducible refine (aw_new _).mono ?_); rintro e w1 ⟨b, rfl, ha⟩; have HA := Aside0.mk ha; clear ha)
    | (go_at_call 11; (with_reducible refine (new_no _ 0 (by decide)).mono ?_); rintro e w2 ⟨rfl, rfl⟩)
    | ((go_at_call 13; (with_reducible refine (aw_s1 HA.out).mono ?_); rintro e wq0 ⟨rfl, ha⟩; clear HA; have HA := Aside0.mk ha; clear ha))
    | ((go_at_call 13; (with_reducible refine (aw_s2 HA.out).mono ?_); rintro e wq1 ⟨rfl, ha⟩; clear HA; have HA := Aside0.mk ha; clear ha))
    | ((go_at_call 13; (with_reducible refine (aw_s3 HA.out).mono ?_); rintro e wq2 ⟨rfl, ha⟩; clear HA; have HA := Aside0.mk ha; clear ha))
    | ((go_at_call 13; (with_reducible refine (aw_s4 HA.out).mono ?_); rintro e wq3 ⟨rfl, ha⟩; clear HA; have HA := Aside0.mk ha; clear ha))
    | ((go_at_call 15; (with_reducible refine (aw_b1 HA.out).mono ?_); rintro e wq4 ⟨rfl, ha⟩; clear HA; have HA := Aside0.mk ha; clear ha))
    | ((go_at_call 15; (with_reducible refine (aw_b2 HA.out).mono ?_); rintro e wq5 ⟨rfl, ha⟩; clear HA; have HA := Aside0.mk ha; clear ha))
    | ((go_at_call 30; (with_reducible refine (aw_kids HA.out).mono ?_); rintro e wq6 ⟨rfl, ha⟩; clear HA; have HA := Aside0.mk ha; clear ha))
    | ((go_at_call 24; (with_reducible refine (aw_state HA.out).mono ?_); rintro e wq7 ⟨rfl, ha⟩; clear HA; have HA := Aside0.mk ha; clear ha))
    | ((go_at_call 26; (with_reducible refine (aw_why HA.out).mono ?_); rintro e wq8 ⟨rfl, ha⟩; clear HA; have HA := Aside0.mk ha; clear ha))
    | ((go_at_call 29; (with_reducible refine (aw_par HA.out).mono ?_); rintro e wq9 ⟨rfl, ha⟩; clear HA; have HA := Aside0.mk ha; clear ha))
    | ((go_at_call 19; (with_reducible refine (aw_end HA.out).mono ?_); rintro e wq10 ⟨rfl, ha⟩; clear HA; have HA := Aside0.mk ha; clear ha))
    | ((go_at_call 25; (with_reducible refine (aw_code HA.out).mono ?_); rintro e wq11 ⟨rfl, ha⟩; clear HA; have HA := Aside0.mk ha; clear ha))
    | ((go_at_call 22; (with_reducible refine (aw_live HA.out).mono ?_); rintro e wq12 ⟨rfl, ha⟩; clear HA; have HA := Aside0.mk ha; clear ha))
    | ((go_at_call 17; (with_reducible refine (aw_wk1 HA.out).mono ?_); rintro e wq13 ⟨rfl, ha⟩; clear HA; have HA := Aside0.mk ha; clear ha))
    | ((go_at_call 17; (with_reducible refine (aw_wk2 HA.out).mono ?_); rintro e wq14 ⟨rfl, ha⟩; clear HA; have HA := Aside0.mk ha; clear ha))
    | ((go_at_call 31; (with_reducible refine (aw_count HA.out).mono ?_); rintro e wqc ⟨rfl, ha⟩; clear HA; have HA := Aside0.mk ha; clear ha))
    | (go_at_call 23; (with_reducible refine (aw_ready HA.out).mono ?_); rintro e w6 ⟨⟨A6, c6, rfl⟩, ha⟩; clear HA; have HA := Aside0.mk ha; clear ha)
    | (go_at_call 28; (with_reducible refine (aw_blocked HA.out).mono ?_); rintro e w7 ⟨⟨A7, c7, rfl, hc7, hr7⟩, ha⟩; clear HA; have HA := Aside0.mk ha; have HC7 := Aside0.mk hc7; have HR7 := Aside0.mk hr7; clear ha hc7 hr7)
    | ((with_reducible refine gate_dst (N := 131) rfl ?_); (try (refine gate_guard (by rfl) ?_; dsimp only)); refine Kd.R_lit (Kd.int .i64) _ 3 ?hg (N := 131) ?hd (xs := ([1] : List Int)) (inner := [.int .i64 1]) (ok := fun _ => True) (okp := fun _ => True) ?hr ?hp (fun _ hk => hk) trivial (Below.refl _ _) (Nat.le_refl _) (by simp) ?_; (case hd => rfl); (case hg => rfl); (case hr => first | (go_simp; done) | (go_simp; rfl)); (case hp => exact (Reps.one (show Kd.M (Kd.int .i64) _ _ _ 1 [.int .i64 1] from rfl) (Reps.none _ _))); intro v131 w8 ho hb hg_ hnew_; obtain ⟨A8, c8, e8⟩ := Kd.R_slice ho; have e9 : v131 = .slice A8 1 c8 := e8; clear e8; subst e9;  have n0_ := Aside0.mk (HA.out.below hb); have n1_ := Aside0.mk (Kd.C_below HR7.out hb); have HR8 : Aside0 (Kd.C (Kd.int .i64) w8 A8 1 [1]) := Aside0.mk (Kd.R_reads' ho).2.2; have HC8 : Aside0 (1 ≤ c8) := Aside0.mk (Kd.R_reads' ho).2.1; clear HA HR7 hb ho hg_ hnew_; have HA := n0_; have HR7 := n1_; clear n0_ n1_)
    | (go_at_call 41; (with_reducible refine (aw_ints HC7.out HR7.out HC8.out HR8.out).mono ?_); rintro e w9 ⟨rfl, hd⟩; have n0_ := Aside0.mk (HA.out.below hd.below); clear HA hd; have HA := n0_; clear n0_))
  go_ret
  exact ⟨rfl, HA.out.2⟩

end Go.Proofs.Ytfllnpfikdhdbaa.PProcs
