import Derived.Test.YtfllnpfikdhdbaaPProcsx0
import Derived.Test.YtfllnpfikdhdbaaJoinC
import Derived.StillTailTactics
import Derived.Laws.LoneSync
import Derived.Laws.EntriesVeiled
import Derived.IntWalk
import Derived.Deep.RegionHeld3
import Derived.WalkMore
import Derived.ScopeJumps
namespace Go.Proofs.Ytfllnpfikdhdbaa.PProcs
open Go.RowKit Go.Proofs.YtfllnpfikdhdbaaW.PrintWords Go.Proofs.YtfllnpfikdhdbaaW.PrintLast Go.Proofs.YtfllnpfikdhdbaaW.PrintMore
attribute [local go_sem] max2_int min2_int max_two min_two max_three min_three max_four min_four
set_option linter.unusedVariables false
set_option linter.unusedSimpArgs false
def js0 : List Row := []
def js1 : List Row := [⟨1, 0, 0, 0, 0⟩]
def js2 : List Row := [⟨1, 0, 0, 0, 0⟩, ⟨1, 1, 0, 0, 0⟩]
def js3 : List Row := [⟨1, 0, 0, 0, 0⟩, ⟨1, 1, 0, 0, 0⟩, ⟨1, 1, 0, 0, 0⟩]
def js4 : List Row := [⟨2, 0, 5, 0, 0⟩, ⟨1, 1, 0, 0, 0⟩, ⟨1, 1, 0, 0, 0⟩]
def js5 : List Row := [⟨2, 0, 5, 0, 0⟩, ⟨1, 1, 0, 0, 0⟩, ⟨3, 1, 0, 0, 0⟩]
def js6 : List Row := [⟨1, 0, 0, 0, 0⟩, ⟨4, 1, 0, 0, 32⟩, ⟨3, 1, 0, 0, 0⟩]
def Aj (w0 w : World) (b : Nat) (rs : List Row) : Prop := TB w b w0.heap.size 5 rs ∧ Below w0.heap.size w0 w
theorem Aj.below {w0 w w1 : World} {b : Nat} {rs : List Row} (h : Aj w0 w b rs) (hb : Below w.heap.size w w1) : Aj w0 w1 b rs := ⟨h.1.below hb, below_step h.2 hb⟩
section
variable {w0 w : World} {b : Nat}
theorem aj_s1 (h : Aj w0 w b js0) : Calls Try.prog 13 #[.pointer (some ⟨b, 0, none⟩), .int .i64 0] w fun e w' => e = .returned (.tuple #[.int .i64 1, .int .i64 0]) ∧ Aj w0 w' b js1 :=
  (spawn_any 0 h.2 h.1 (by decide)).mono fun _ _ k => ⟨k.1, k.2.1, k.2.2.2⟩
theorem aj_s2 (h : Aj w0 w b js1) : Calls Try.prog 13 #[.pointer (some ⟨b, 0, none⟩), .int .i64 1] w fun e w' => e = .returned (.tuple #[.int .i64 2, .int .i64 0]) ∧ Aj w0 w' b js2 :=
  (spawn_any 1 h.2 h.1 (by decide)).mono fun _ _ k => ⟨k.1, k.2.1, k.2.2.2⟩
theorem aj_s3 (h : Aj w0 w b js2) : Calls Try.prog 13 #[.pointer (some ⟨b, 0, none⟩), .int .i64 1] w fun e w' => e = .returned (.tuple #[.int .i64 3, .int .i64 0]) ∧ Aj w0 w' b js3 :=
  (spawn_any 1 h.2 h.1 (by decide)).mono fun _ _ k => ⟨k.1, k.2.1, k.2.2.2⟩
theorem aj_j1 (h : Aj w0 w b js3) : Calls Try.prog 33 #[.pointer (some ⟨b, 0, none⟩), .int .i64 1] w fun e w' => e = .returned (.bool false) ∧ Aj w0 w' b js4 :=
  (join_any 1 h.2 h.1 (by decide)).mono fun _ _ k => ⟨k.1, k.2.1, k.2.2.2⟩
theorem aj_e1 (h : Aj w0 w b js4) : Calls Try.prog 35 #[.pointer (some ⟨b, 0, none⟩), .int .i64 3, .int .i64 0] w fun e w' => e = .returned (.tuple #[.int .i64 0, .bool true]) ∧ Aj w0 w' b js5 :=
  (jend_any 3 0 h.2 h.1 (by decide)).mono fun _ _ k => ⟨k.1, k.2.1, k.2.2.2⟩
theorem aj_e2 (h : Aj w0 w b js5) : Calls Try.prog 35 #[.pointer (some ⟨b, 0, none⟩), .int .i64 2, .int .i64 32] w fun e w' => e = .returned (.tuple #[.int .i64 1, .bool true]) ∧ Aj w0 w' b js6 :=
  (jend_any 2 32 h.2 h.1 (by decide)).mono fun _ _ k => ⟨k.1, k.2.1, k.2.2.2⟩
theorem aj_e3 (h : Aj w0 w b js6) : Calls Try.prog 35 #[.pointer (some ⟨b, 0, none⟩), .int .i64 2, .int .i64 0] w fun e w' => e = .returned (.tuple #[.int .i64 0, .bool false]) ∧ Aj w0 w' b js6 :=
  (jend_any 2 0 h.2 h.1 (by decide)).mono fun _ _ k => ⟨k.1, k.2.1, k.2.2.2⟩
theorem aj_st (h : Aj w0 w b js6) : Calls Try.prog 24 #[.pointer (some ⟨b, 0, none⟩), .int .i64 1] w fun e w' => e = .returned (.int .i64 1) ∧ Aj w0 w' b js6 :=
  (state_any 1 h.1.tv (by decide)).mono fun _ _ k => ⟨k.1, h.below k.2⟩
theorem aj_j2 (h : Aj w0 w b js6) : Calls Try.prog 33 #[.pointer (some ⟨b, 0, none⟩), .int .i64 1] w fun e w' => e = .returned (.bool true) ∧ Aj w0 w' b js6 :=
  (join_any 1 h.2 h.1 (by decide)).mono fun _ _ k => ⟨k.1, k.2.1, k.2.2.2⟩
theorem aj_new (w0 : World) : Calls Try.prog 11 #[.int .i64 5] w0 fun e w' => ∃ b, e = .returned (.tuple #[.pointer (some ⟨b, 0, none⟩), .int .i64 0]) ∧ Aj w0 w' b js0 :=
  (new_yes w0 5 (by decide) (by decide)).mono fun _ _ ⟨b, k⟩ => ⟨b, k.1, k.2.1, k.2.2⟩
theorem ahead6 : Ahead js6 := by
  intro i hi
  have hi : i < 3 := hi
  match i, hi with
  | 0, _ => decide
  | 1, _ => decide
  | 2, _ => decide
theorem aj_un (h : Aj w0 w b js6) : Calls Try.prog 40 #[.pointer (some ⟨b, 0, none⟩), .int .i64 1] w fun e w' => (∃ A c, e = .returned (.slice A 2 c) ∧ LKb w' A 2 c [2, 3]) ∧ Aj w0 w' b js6 :=
  (under_any 1 h.1.tv (by decide) ahead6).mono fun _ _ ⟨v, k1, k2, k3⟩ => ⟨by
    have e : underL js6 1 = [2, 3] := by decide
    rw [e] at k2
    obtain ⟨A, c, rfl⟩ := Kd.R_slice k2
    exact ⟨A, c, k1, ⟨_, k2⟩, rfl⟩, h.below k3⟩
end
set_option maxHeartbeats 8000000 in
set_option maxRecDepth 100000 in
theorem awake10_any (w : World) : Calls Try.prog 32 #[] w fun e w' => e = .returned (.bool true) ∧ Below w.heap.size w w' := by
  go_enter Try.func32, Try.ntmps32
  go_wp2_with (first
    | (go_at_call 11; (with_reducible refine (aj_new _).mono ?_); rintro e w1 ⟨b, rfl, ha⟩; have HA := Aside0.mk ha; clear ha)
    | (go_at_call 13; (with_reducible refine (aj_s1 HA.out).mono ?_); rintro e wq0 ⟨rfl, ha⟩; clear HA; have HA := Aside0.mk ha; clear ha)
    | (go_at_call 13; (with_reducible refine (aj_s2 HA.out).mono ?_); rintro e wq1 ⟨rfl, ha⟩; clear HA; have HA := Aside0.mk ha; clear ha)
    | (go_at_call 13; (with_reducible refine (aj_s3 HA.out).mono ?_); rintro e wq2 ⟨rfl, ha⟩; clear HA; have HA := Aside0.mk ha; clear ha)
    | (go_at_call 33; (with_reducible refine (aj_j1 HA.out).mono ?_); rintro e wq3 ⟨rfl, ha⟩; clear HA; have HA := Aside0.mk ha; clear ha)
    | (go_at_call 35; (with_reducible refine (aj_e1 HA.out).mono ?_); rintro e wq4 ⟨rfl, ha⟩; clear HA; have HA := Aside0.mk ha; clear ha)
    | (go_at_call 35; (with_reducible refine (aj_e2 HA.out).mono ?_); rintro e wq5 ⟨rfl, ha⟩; clear HA; have HA := Aside0.mk ha; clear ha)
    | (go_at_call 35; (with_reducible refine (aj_e3 HA.out).mono ?_); rintro e wq6 ⟨rfl, ha⟩; clear HA; have HA := Aside0.mk ha; clear ha)
    | (go_at_call 24; (with_reducible refine (aj_st HA.out).mono ?_); rintro e wq7 ⟨rfl, ha⟩; clear HA; have HA := Aside0.mk ha; clear ha)
    | (go_at_call 33; (with_reducible refine (aj_j2 HA.out).mono ?_); rintro e wq8 ⟨rfl, ha⟩; clear HA; have HA := Aside0.mk ha; clear ha)
    | (go_at_call 40; (with_reducible refine (aj_un HA.out).mono ?_); rintro e w7 ⟨⟨A7, c7, rfl, hk⟩, ha⟩; clear HA; have HA := Aside0.mk ha; have K1 := Aside0.mk hk; clear ha hk)
    | ((with_reducible refine gate_dst (N := 71) rfl ?_); (try (refine gate_guard (by rfl) ?_; dsimp only)); refine Kd.R_lit (Kd.int .i64) _ 3 ?hg (N := 71) ?hd (xs := ([2, 3] : List Int)) (inner := [.int .i64 2, .int .i64 3]) (ok := fun _ => True) (okp := fun _ => True) ?hr ?hp (fun _ hk => hk) trivial (Below.refl _ _) (Nat.le_refl _) (by simp) ?_; (case hd => rfl); (case hg => rfl); (case hr => first | (go_simp; done) | (go_simp; rfl)); (case hp => exact (Reps.one (show Kd.M (Kd.int .i64) _ _ _ 2 [.int .i64 2] from rfl) (Reps.one (show Kd.M (Kd.int .i64) _ _ _ 3 [.int .i64 3] from rfl) (Reps.none _ _)))); intro v71 w8 ho hb hg_ hnew_; obtain ⟨A8, c8, e8⟩ := Kd.R_slice ho; have e9 : v71 = .slice A8 2 c8 := e8; clear e8; subst e9; have K2 : Aside0 (LKb w8 A8 2 c8 [2, 3]) := Aside0.mk ⟨⟨_, ho⟩, rfl⟩; have n0_ := Aside0.mk (HA.out.below hb); have n1_ := Aside0.mk (LKb.below K1.out hb); clear HA K1 hb ho hg_ hnew_; have HA := n0_; have K1 := n1_; clear n0_ n1_)
    | (go_at_call 41; (refine (ints_same (by decide) K1.out K2.out).mono ?_); rintro e w9 ⟨rfl, hb⟩; have n0_ := Aside0.mk (HA.out.below hb); clear HA hb; have HA := n0_; clear n0_))
  go_ret
  exact ⟨rfl, HA.out.2⟩

end Go.Proofs.Ytfllnpfikdhdbaa.PProcs
