import Derived.Test.YtfllnpfikdhdbaaPProcsx0
import Derived.Test.YtfllnpfikdhdbaaJoinN
import Derived.StillTailTactics
import Derived.Laws.LoneSync
import Derived.Laws.EntriesVeiled
import Derived.IntWalk
import Derived.Deep.RegionHeld3
import Derived.WalkMore
import Derived.ScopeJumps
import Derived.BigQuiet
namespace Go.Proofs.Ytfllnpfikdhdbaa.PProcs
open Go.RowKit Go.Proofs.YtfllnpfikdhdbaaW.PrintWords Go.Proofs.YtfllnpfikdhdbaaW.PrintLast Go.Proofs.YtfllnpfikdhdbaaW.PrintMore
attribute [local go_sem] max2_int min2_int max_two min_two max_three min_three max_four min_four
set_option linter.unusedVariables false
set_option linter.unusedSimpArgs false
/-! JoinUnder, the plain law. -/
/-- All are ready; parents stand ahead. -/
def JU (n : Nat) (rs : List Row) : Prop := rs.length = n + 1 ∧ (∀ r ∈ rs, r.st = 1) ∧ Ahead rs
theorem JU.row {n : Nat} {rs : List Row} (h : JU n rs) {q : Int} (h1 : 1 ≤ q) (h2 : q ≤ (n : Int) + 1) : (rowAt rs q).st = 1 := by
  have e : rowAt rs q = rs.getD (q - 1).toNat Row.z := by unfold rowAt; rw [if_pos (by rw [h.1]; omega)]
  have hj : (q - 1).toNat < rs.length := by rw [h.1]; omega
  rw [e, getD_lt hj]
  exact h.2.1 _ (List.getElem_mem hj)
theorem JU.start {rs : List Row} (h : rs = [⟨1, 0, 0, 0, 0⟩]) : JU 0 rs := by
  subst h
  refine ⟨rfl, fun r hr => ?_, fun i hi => ?_⟩
  · cases List.mem_singleton.1 hr; rfl
  · obtain rfl : i = 0 := by simp at hi; omega
    exact ⟨Int.le_refl _, Int.le_refl _⟩
theorem JU.more {n : Nat} {rs : List Row} (h : JU n rs) {q : Int} (h1 : 0 ≤ q) (h2 : q ≤ (n : Int)) : JU (n + 1) (rs ++ [⟨1, q + 1, 0, 0, 0⟩]) := by
  refine ⟨by rw [List.length_append, h.1]; rfl, fun r hr => ?_, h.2.2.more ⟨by show 0 ≤ q + 1; omega, by show q + 1 ≤ _; rw [h.1]; omega⟩⟩
  rcases List.mem_append.1 hr with hr | hr
  · exact h.2.1 r hr
  · cases List.mem_singleton.1 hr; rfl
theorem JU.spawn {n : Nat} {rs : List Row} (h : JU n rs) {q : Int} (h1 : 0 ≤ q) (h2 : q ≤ (n : Int)) (hn : n < 30) : spawnP 32 rs (q + 1) = ((n : Int) + 2, 0, rs ++ [⟨1, q + 1, 0, 0, 0⟩]) := by
  have hc : (thoseL liveB rs).length ≤ rs.length := thoseN_len _ _ _
  have hl : liveB (rowAt rs (q + 1)) = true := by
    unfold liveB; rw [h.row (by omega) (by omega)]; rfl
  unfold spawnP
  rw [hl, if_neg (fun t => by cases t.2), if_neg (by have := h.1; omega), h.1]
  congr 1
/-- Who stands ahead of one does not descend from it. -/
theorem above_no {rs : List Row} (h : Ahead rs) {pid : Int} (hp : 0 < pid) : ∀ (k : Nat) (q : Int), q ≤ pid → above rs pid k q = false
  | 0, q, hq => by
    have := h.lt q
    exact decide_eq_false (by omega)
  | k + 1, q, hq => by
    have h2 := h.lt q
    show (decide _ || (decide _ && _)) = false
    rw [decide_eq_false (show ¬ (rowAt rs q).pa = pid by omega), Bool.false_or]
    by_cases p : 0 < (rowAt rs q).pa
    · rw [above_no h hp k _ (by omega), Bool.and_false]
    · rw [decide_eq_false p, Bool.false_and]
theorem under_self {rs : List Row} (h : Ahead rs) {pid : Int} (hp : 0 < pid) : decide (pid ∈ underL rs pid) = false := by
  refine decide_eq_false (fun hm => ?_)
  unfold underL at hm
  rw [if_pos hp, underN_mem] at hm
  rw [above_no h hp _ _ (Int.le_refl _)] at hm
  exact absurd hm.2.2 (by decide)
theorem under_up {rs : List Row} (h : Ahead rs) {pid : Int} (h1 : 1 ≤ pid) (h2 : pid ≤ (rs.length : Int)) (hp : 0 < (rowAt rs pid).pa) : decide (pid ∈ underL rs (rowAt rs pid).pa) = true := by
  refine decide_eq_true ?_
  unfold underL
  rw [if_pos hp, underN_mem]
  refine ⟨h1, h2, ?_⟩
  cases rs.length with
  | zero => exact decide_eq_true rfl
  | succ k =>
    show (decide _ || (decide _ && _)) = true
    rw [decide_eq_true rfl, Bool.true_or]
theorem under_at {rs : List Row} (h : Ahead rs) {pid x : Int} (hp : 0 < pid) (hx : x ∈ underL rs pid) (hn : (rowAt rs x).pa ≠ pid) : decide ((rowAt rs x).pa ∈ underL rs pid) = true := by
  refine decide_eq_true ?_
  unfold underL at hx ⊢
  rw [if_pos hp] at hx ⊢
  rw [underN_mem] at hx
  have e : x = ((x.toNat - 1 : Nat) : Int) + 1 := by omega
  have hi : x.toNat - 1 < rs.length := by omega
  have hx2 := hx.2.2
  rw [e, above_has h hi] at hx2
  rw [e, rowAt_in hi] at hn ⊢
  rcases hx2 with q | q
  · exact absurd q hn
  · have := (underN_mem _ _).1 q
    exact (underN_mem _ _).2 ⟨this.1, by omega, this.2.2⟩
theorem underN_rise (rs : List Row) (pid : Int) : ∀ i, (underN rs pid i).Pairwise (· < ·)
  | 0 => List.Pairwise.nil
  | i + 1 => by
    have ih := underN_rise rs pid i
    unfold underN
    split
    · rw [List.pairwise_append]
      refine ⟨ih, List.pairwise_singleton _ _, fun a ha b hb => ?_⟩
      cases List.mem_singleton.1 hb
      have := (underN_mem _ _).1 ha
      omega
    · exact ih
theorem under_rise {rs : List Row} {pid : Int} {k : Nat} (h : k + 1 < (underL rs pid).length) : rd (underL rs pid) (k : Int) < rd (underL rs pid) ((k + 1 : Nat) : Int) := by
  have hp : (underL rs pid).Pairwise (· < ·) := by
    unfold underL
    split
    · exact underN_rise _ _ _
    · exact List.Pairwise.nil
  have e : ∀ j : Nat, (hj : j < (underL rs pid).length) → rd (underL rs pid) (j : Int) = (underL rs pid)[j] := fun j hj => by
    show (underL rs pid).getD (j : Int).toNat 0 = _
    rw [Int.toNat_natCast, List.getD_eq_getElem?_getD, List.getElem?_eq_getElem hj]; rfl
  rw [e k (by omega), e (k + 1) h]
  exact List.pairwise_iff_getElem.1 hp k (k + 1) (by omega) h (by omega)
/-- The law's state: the table, and that all are ready. -/
def JV (w0 w : World) (b : Nat) (rs : List Row) (n : Nat) : Prop := TB w b w0.heap.size 32 rs ∧ Below w0.heap.size w0 w ∧ JU n rs ∧ n ≤ 25
section
variable {w0 w : World} {b n : Nat} {rs : List Row}
theorem JV.len (h : JV w0 w b rs n) : rs.length ≤ 1000000 := by have := h.2.2.1.1; have := h.2.2.2; omega
theorem JV.below (h : JV w0 w b rs n) {w' : World} (hb : Below w.heap.size w w') : JV w0 w' b rs n := ⟨h.1.below hb, below_step h.2.1 hb, h.2.2⟩
theorem JV.at (h : JV w0 w b rs n) : Below w0.heap.size w0 w := h.2.1
theorem ju_new (w0 : World) : Calls Try.prog 11 #[.int .i64 32] w0 fun e w' => ∃ b, e = .returned (.tuple #[.pointer (some ⟨b, 0, none⟩), .int .i64 0]) ∧ TB w' b w0.heap.size 32 js0 ∧ Below w0.heap.size w0 w' :=
  (new_yes w0 32 (by decide) (by decide)).mono fun _ _ ⟨b, k⟩ => ⟨b, k.1, k.2.1, k.2.2⟩
theorem ju_s1 (hB : Below w0.heap.size w0 w) (h : TB w b w0.heap.size 32 js0) : Calls Try.prog 13 #[.pointer (some ⟨b, 0, none⟩), .int .i64 0] w fun e w' => e = .returned (.tuple #[.int .i64 1, .int .i64 0]) ∧ JV w0 w' b js1 0 :=
  (spawn_any 0 hB h (by decide)).mono fun _ _ k => ⟨k.1, k.2.1, k.2.2.2, JU.start rfl, by decide⟩
theorem ju_spawn {q : Int} (h : JV w0 w b rs n) (h1 : 0 ≤ q) (h2 : q ≤ (n : Int)) (hn : n < 25) : Calls Try.prog 13 #[.pointer (some ⟨b, 0, none⟩), .int .i64 (q + 1)] w fun e w' => e = .returned (.tuple #[.int .i64 ((n : Int) + 2), .int .i64 0]) ∧ JV w0 w' b (rs ++ [⟨1, q + 1, 0, 0, 0⟩]) (n + 1) := by
  have e := h.2.2.1.spawn h1 h2 (by omega)
  have H := spawn_any (q + 1) h.2.1 h.1 h.len
  rw [e] at H
  exact H.mono fun _ _ k => ⟨k.1, k.2.1, k.2.2.2, h.2.2.1.more h1 h2, hn⟩
theorem ju_count (h : JV w0 w b rs n) : Calls Try.prog 31 #[.pointer (some ⟨b, 0, none⟩)] w fun e w' => e = .returned (.int .i64 (rs.length : Int)) ∧ w = w' := count_any h.1.tv
set_option maxHeartbeats 1000000 in
theorem ju_t0 (h : JV w0 w b rs n) : Calls Try.prog 39 #[.pointer (some ⟨b, 0, none⟩)] w fun e w' => e = .returned (.int .i64 ((n : Int) + 1)) ∧ w = w' := by
  have H := Aside0.mk (ju_count h)
  have hl : (rs.length : Int) = (n : Int) + 1 := by rw [h.2.2.1.1]; rfl
  rw [hl] at H
  have hm : ¬ (n : Int) + 1 < 1 := by omega
  clear h hl
  go_enter Try.func39, Try.ntmps39
  go_wp2_with (first | (go_at_call 31; (with_reducible refine H.out.mono ?_); rintro e w' ⟨rfl, rfl⟩))
  go_ret
  exact ⟨rfl, rfl⟩
theorem ju_parent {u x : Int} (h : JV w0 w b rs n) (hu : u = (rowAt rs x).pa) : Calls Try.prog 29 #[.pointer (some ⟨b, 0, none⟩), .int .i64 x] w fun e w' => e = .returned (.int .i64 u) ∧ Below w.heap.size w w' := by
  subst hu
  exact parent_any x h.1.tv h.len
theorem ju_under (h : JV w0 w b rs n) (x : Int) : Calls Try.prog 40 #[.pointer (some ⟨b, 0, none⟩), .int .i64 x] w fun e w' => (∃ A m c, e = .returned (.slice A m c) ∧ LKb w' A m c (underL rs x)) ∧ Below w.heap.size w w' :=
  (under_any x h.1.tv h.len h.2.2.1.2.2).mono fun _ _ ⟨v, k1, k2, k3⟩ => ⟨by
    obtain ⟨A, c, rfl⟩ := Kd.R_slice k2
    exact ⟨A, _, c, k1, ⟨_, k2⟩, rfl⟩, k3⟩
theorem ju_none (w : World) : Calls Try.prog 40 #[.pointer none, .int .i64 1] w fun e w' => (∃ A c, e = .returned (.slice A 0 c)) ∧ Below w.heap.size w w' :=
  (under_any (base := 0) (most := 0) (rs := []) 1 (.inl ⟨rfl, rfl⟩) (by decide) (fun i hi => absurd hi (Nat.not_lt_zero i))).mono fun _ _ ⟨v, k1, k2, k3⟩ => ⟨by
    obtain ⟨A, c, rfl⟩ := Kd.R_slice k2
    exact ⟨A, c, k1⟩, k3⟩
theorem ju_has {A : Option Addr} {m c : Nat} {l : List Int} {t : Bool} (x : Int) (h : LKb w A m c l) (hl : l.length ≤ 1000000) (e : decide (x ∈ l) = t) : Calls Try.prog 27 #[.slice A m c, .int .i64 x] w fun e w' => e = .returned (.bool t) ∧ Below w.heap.size w w' := by
  obtain ⟨⟨base, h⟩, _⟩ := h
  have H := has_any x h hl
  rw [e] at H
  exact H
theorem LKb.at_ {A : Option Addr} {m c : Nat} {l : List Int} (h : LKb w A m c l) (k : Int) (h0 : 0 ≤ k) (h1 : k < (l.length : Int)) : ∃ ad, A = some ad ∧ w.cell? (ad.add k.toNat) = some (.int .i64 (rd l k)) := by
  obtain ⟨⟨base, h⟩, _⟩ := h
  exact Kd.at_int (Kd.R_reads' h).2.2 k h0 h1
theorem LKb.len {A : Option Addr} {m c : Nat} {l : List Int} (h : LKb w A m c l) : m = l.length := h.2
end
/-- The worlds in which what stood in W still stands. -/
structure QW (W : World) where
  w : World
  h : Below W.heap.size W w
theorem wp_region_quiet_q {P : Program} {id : Nat} {Q : Exit → Act → World → Prop} {a : Act} {W : World} {l : List Oper} (hm : P.follows .mixedOrders = true) (hB : Region.lexB .any l.toArray = true)
    (h : wpQuiet P l.toArray (fun w' => ∃ q : QW W, w' = q.w) (fun a' => ∀ w', (∃ q : QW W, w' = q.w) → Q .normal a' w') l a) : (Code.region id l.toArray true).wp P Q a W :=
  wp_region_quiet (C := fun w' => ∃ q : QW W, w' = q.w) hm hB ⟨⟨W.drew, below_drew1 (Below.refl _ _)⟩, rfl⟩ (by simpa using h)
theorem QW.calls {P : Program} {f : FuncId} {args : Array Value} {W : World} {q : QW W} {v : Value} (h : Calls P f args q.w fun e w' => e = .returned v ∧ Below q.w.heap.size q.w w') : Calls P f args q.w fun e w'' => e = .returned v ∧ ∃ m : QW W, w'' = m.w :=
  h.mono fun _ w' ⟨he, hb⟩ => ⟨he, ⟨w', below_step q.h hb⟩, rfl⟩
set_option maxHeartbeats 8000000 in
set_option maxRecDepth 100000 in
theorem junder_any (w : World) (A : Option Addr) (cp : Nat) (l : List Int) (hr : Kd.C (Kd.int .i64) w A l.length l) : Calls Try.prog 9 #[.slice A l.length cp] w fun e w' => e = .returned (.bool true) ∧ Below w.heap.size w w' := by
  have HR := Aside0.mk hr
  clear hr
  by_cases h3 : (l.length : Int) > 25
  · have h3b : decide ((l.length : Int) > 25) = true := decide_eq_true h3
    go_enter Try.func9, Try.ntmps9
    go_wp2_with (first | (go_at_call 32; (with_reducible refine (awake10_any _).mono ?_); rintro e w32 ⟨rfl, hb⟩; have HZ9 := Aside0.mk (hb); clear hb))
    go_ret
    exact ⟨rfl, HZ9.out⟩
  · have h3b : decide ((l.length : Int) > 25) = false := decide_eq_false h3
    have h40 : l.length ≤ 25 := by omega
    go_enter Try.func9, Try.ntmps9
    go_wp2_with (first | (go_at_call 11; (with_reducible refine (ju_new _).mono ?_); rintro e w1 ⟨b, rfl, ht, hb⟩; have HT := Aside0.mk ht; have HB := Aside0.mk hb; clear ht hb) | (go_at_call 13; (with_reducible refine (ju_s1 HB.out HT.out).mono ?_); rintro e w2 ⟨rfl, hh⟩; clear HT HB; have HJ := Aside0.mk hh; clear hh))
    go_loopw [5] (fun v5 wx => ∃ (i : Nat) (rs : List Row), v5 = .int .i64 (i : Int) ∧ i ≤ l.length ∧ Aside0 (JV w wx b rs i)) (fun v5 _ => l.length - (intOf v5).toNat)
    case atStart => exact ⟨0, _, rfl, Nat.zero_le _, HJ⟩
    case round =>
      clear HJ
      obtain ⟨i, rs, rfl, hil, HJ⟩ := hrel
      have hi25 : (i : Int) ≤ 25 := by omega
      by_cases hlt : i < l.length
      · have hltb : decide (i < l.length) = true := decide_eq_true hlt
        have HI := Aside0.mk hlt
        have HN9 : Aside0 (i < 25) := ⟨by omega⟩
        obtain ⟨ae, eE, hxe⟩ := Kd.at_int (Kd.C_below HR.out HJ.out.at) (i : Int) (by omega) (by omega)
        subst eE
        generalize rd l (i : Int) = z at hxe
        have hxe2 : wr.cell? (ae.add i) = some (.int .i64 z) := hxe
        have hn0 : ¬ (i : Int) + 1 = 0 := by omega
        have hn1 : ((i : Int) + 1 == 0) = false := beq_eq_false_iff_ne.mpr hn0
        clear hxe hil
        go_upto_region 8 with (fail)
        have HC8 : Aside0 (wr.drew.cell? (ae.add i) = some (.int .i64 z)) := ⟨hxe2⟩
        have n0_ := Aside0.mk (HJ.out.below (below_drew1 (Below.refl wr.heap.size wr)))
        clear HJ
        have HJ := n0_
        clear n0_
        clear hxe2
        go_region_held3 (fun w' => w'.cell? (ae.add i) = some (.int .i64 z)) (first | exact HC8.out | assumption) (first | (go_at_call 39; (with_reducible refine (ju_t0 HJ.out).mono ?_); rintro e w39 ⟨rfl, rfl⟩))
        have hk0 := Int.lt_tmod_of_pos z (show (0 : Int) < (i : Int) + 1 by omega)
        have hk1 := Int.tmod_lt_of_pos z (show (0 : Int) < (i : Int) + 1 by omega)
        generalize z.tmod ((i : Int) + 1) = v at hk0 hk1 ⊢
        clear hn0 hn1 hltb hlt
        by_cases hneg : v < 0
        · have hnb : decide (v < 0) = true := decide_eq_true hneg
          have hw : IntKind.i64.wrap (-v) = -v := IntWalk.i64_in _ (by omega)
          go_upto_region 11 with (fail)
          have HU0 : Aside0 (0 ≤ -v) := ⟨by omega⟩
          have HU1 : Aside0 (-v ≤ (i : Int)) := ⟨by omega⟩
          have hw1 : IntKind.i64.wrap (-v + 1) = -v + 1 := IntWalk.i64_in _ (by omega)
          generalize -v = q at HU0 HU1 hw1 ⊢
          clear hk0 hk1 hneg hnb hw
          go_wp2_with (first | (go_at_call 13; (with_reducible refine (ju_spawn HJ.out HU0.out HU1.out HN9.out).mono ?_); rintro e w13 ⟨rfl, hh⟩; clear HJ; have HJ := Aside0.mk hh; clear hh))
          go_roundw
          case rel => exact ⟨i + 1, _, by go_num, HI.out, HJ⟩
          case measure => have := HI.out; simp [intOf]; omega
        · have hnb : decide (v < 0) = false := decide_eq_false hneg
          have HU0 : Aside0 (0 ≤ v) := ⟨by omega⟩
          have HU1 : Aside0 (v ≤ (i : Int)) := ⟨by omega⟩
          have hw1 : IntKind.i64.wrap (v + 1) = v + 1 := IntWalk.i64_in _ (by omega)
          clear hk0 hk1 hneg
          go_wp2_with (first | (go_at_call 13; (with_reducible refine (ju_spawn HJ.out HU0.out HU1.out HN9.out).mono ?_); rintro e w13 ⟨rfl, hh⟩; clear HJ; have HJ := Aside0.mk hh; clear hh))
          go_roundw
          case rel => exact ⟨i + 1, _, by go_num, HI.out, HJ⟩
          case measure => have := HI.out; simp [intOf]; omega
      · have hltb : decide (i < l.length) = false := decide_eq_false hlt
        obtain rfl : i = l.length := by omega
        obtain ⟨n, en⟩ : ∃ q : Nat, q = l.length := ⟨_, rfl⟩
        have n0_ : Aside0 (JV w wr b rs n) := ⟨by rw [en]; exact HJ.out⟩
        clear HJ
        have HJ := n0_
        clear n0_ hil hlt
        go_wp2_with (fail)
        go_loopw [9] (fun v9 wx => ∃ i : Nat, v9 = .int .i64 ((i : Int) + 1) ∧ i ≤ rs.length ∧ Aside0 (JV w wx b rs n)) (fun v9 _ => rs.length + 1 - (intOf v9).toNat)
        case atStart => exact ⟨0, rfl, Nat.zero_le _, HJ⟩
        case round =>
          clear HJ
          obtain ⟨i, rfl, hil, HJ⟩ := hrel
          by_cases hlt : i < rs.length
          · have hltb : decide ((i : Int) + 1 ≤ (rs.length : Int)) = true := decide_eq_true (by omega)
            have HI := Aside0.mk hlt
            have hi64 : (i : Int) ≤ 1000000 := by have := HJ.out.len; omega
            have HUL : Aside0 (∀ x, (underL rs x).length ≤ 1000000) := ⟨fun x => Nat.le_trans (underL_len rs x) HJ.out.len⟩
            have hA := HJ.out.2.2.1.2.2
            have HF1 := Aside0.mk (under_self hA (show (0 : Int) < (i : Int) + 1 by omega))
            obtain ⟨u, hu⟩ : ∃ u, u = (rowAt rs ((i : Int) + 1)).pa := ⟨_, rfl⟩
            have HP := Aside0.mk hu
            have HF2 : Aside0 (0 < u → decide ((i : Int) + 1 ∈ underL rs u) = true) := ⟨fun q => by rw [hu] at q ⊢; exact under_up hA (by omega) (by omega) q⟩
            clear hA hu hil hlt
            by_cases hup : 0 < u
            · have hupb : decide (u > 0) = true := decide_eq_true hup
              have n0_ := Aside0.mk (HF2.out hup)
              clear HF2
              have HF2 := n0_
              clear n0_
              go_wp2_with (first | (go_at_call 31; (with_reducible refine (ju_count HJ.out).mono ?_); rintro e w' ⟨rfl, rfl⟩) | (go_at_call 40; (with_reducible refine (ju_under HJ.out ((i : Int) + 1)).mono ?_); rintro e w40 ⟨⟨A7, m7, c7, rfl, hu⟩, hb⟩; have n0_ := Aside0.mk (HJ.out.below hb); clear HJ hb; have HJ := n0_; clear n0_; have HU := Aside0.mk hu; clear hu) | (go_at_call 27; (with_reducible refine (ju_has _ HU.out (HUL.out _) HF1.out).mono ?_); rintro e w27 ⟨rfl, hb⟩; have n0_ := Aside0.mk (HJ.out.below hb); have n1_ := Aside0.mk (HU.out.below hb); clear HJ HU hb; have HJ := n0_; have HU := n1_; clear n0_ n1_) | (go_at_call 29; (with_reducible refine (ju_parent HJ.out HP.out).mono ?_); rintro e w29 ⟨rfl, hb⟩; have n0_ := Aside0.mk (HJ.out.below hb); have n1_ := Aside0.mk (HU.out.below hb); clear HJ HU hb; have HJ := n0_; have HU := n1_; clear n0_ n1_) | (go_at_call 40; (with_reducible refine (ju_under HJ.out u).mono ?_); rintro e w40b ⟨⟨A8, m8, c8, rfl, hu⟩, hb⟩; have n0_ := Aside0.mk (HJ.out.below hb); have n1_ := Aside0.mk (HU.out.below hb); clear HJ HU hb; have HJ := n0_; have HU := n1_; clear n0_ n1_; have HU2 := Aside0.mk hu; clear hu) | (go_at_call 27; (with_reducible refine (ju_has _ HU2.out (HUL.out _) HF2.out).mono ?_); rintro e w27b ⟨rfl, hb⟩; have n0_ := Aside0.mk (HJ.out.below hb); have n1_ := Aside0.mk (HU.out.below hb); clear HJ HU hb; have HJ := n0_; have HU := n1_; clear n0_ n1_))
              go_loopw [11] (fun v11 wx => ∃ k : Nat, v11 = .int .i64 (k : Int) ∧ k ≤ m7 ∧ Aside0 (JV w wx b rs n) ∧ Aside0 (LKb wx A7 m7 c7 (underL rs ((i : Int) + 1)))) (fun v11 _ => m7 - (intOf v11).toNat)
              case atStart => exact ⟨0, rfl, Nat.zero_le _, HJ, HU⟩
              case round =>
                clear HJ HU
                obtain ⟨k, rfl, hkm, HJ, HU⟩ := hrel
                by_cases hkl : k < m7
                · have hklb : decide (k < m7) = true := decide_eq_true hkl
                  have HK := Aside0.mk hkl
                  have hki0 : (0 : Int) ≤ (k : Int) := by omega
                  have hki1 : (k : Int) < (m7 : Int) := by omega
                  have hm9 : m7 ≤ 1000000 := by rw [HU.out.len]; exact HUL.out _
                  have hkr : (k : Int) < ((underL rs ((i : Int) + 1)).length : Int) := by rw [← HU.out.len]; omega
                  obtain ⟨ad, eA, hx⟩ := HU.out.at_ (k : Int) (by omega) hkr
                  subst eA
                  have HCX : Aside0 (wr.cell? (ad.add k) = some (.int .i64 (rd (underL rs ((i : Int) + 1)) (k : Int)))) := ⟨hx⟩
                  have hA := HJ.out.2.2.1.2.2
                  have hmem := rd_mem (left := underL rs ((i : Int) + 1)) (k := (k : Int)) (by omega) hkr
                  have HF3 : Aside0 ((rowAt rs (rd (underL rs ((i : Int) + 1)) (k : Int))).pa ≠ (i : Int) + 1 → decide ((rowAt rs (rd (underL rs ((i : Int) + 1)) (k : Int))).pa ∈ underL rs ((i : Int) + 1)) = true) := ⟨fun q => under_at hA (by omega) hmem q⟩
                  have HR3 : Aside0 (0 < k → rd (underL rs ((i : Int) + 1)) ((k - 1 : Nat) : Int) < rd (underL rs ((i : Int) + 1)) (k : Int)) := ⟨fun q => by
                    have h := under_rise (rs := rs) (pid := (i : Int) + 1) (k := k - 1) (by omega)
                    rw [show k - 1 + 1 = k by omega] at h
                    exact h⟩
                  obtain ⟨x, ex⟩ : ∃ x, x = rd (underL rs ((i : Int) + 1)) (k : Int) := ⟨_, rfl⟩
                  rw [← ex] at HCX HF3 HR3
                  obtain ⟨p, hp⟩ : ∃ p, p = (rowAt rs x).pa := ⟨_, rfl⟩
                  have HP3 := Aside0.mk hp
                  rw [← hp] at HF3
                  clear hA hmem hp ex hx hkr hkm
                  by_cases hpp : p = (i : Int) + 1
                  · have hpb : (p == (i : Int) + 1) = true := by simpa using hpp
                    have hpb2 : (p != (i : Int) + 1) = false := by simpa using hpp
                    clear HF3 hpp
                    by_cases hk0 : k = 0
                    · have hz1 : decide ((k : Int) > 0) = false := decide_eq_false (by omega)
                      have hz2 : decide (0 < k) = false := decide_eq_false (by omega)
                      clear HR3 hk0
                      have hqn : Nonempty (QW wr) := ⟨⟨wr, Below.refl _ _⟩⟩
                      have hqx : ∀ q : QW wr, q.w.cell? (ad.add k) = some (.int .i64 x) := fun q => pw_cell_below q.h HCX.out
                      clear HCX
                      go_upto_region 23 with (fail)
                      refine wp_region_quiet_q (by kernel_rfl) (by kernel_rfl) ?_
                      repeat (go_big_quiet_step (first | (go_at_call 29; exact QW.calls (ju_parent (HJ.out.below (QW.h _)) HP3.out))))
                      refine wpQuiet_nil ?_
                      intro _ hw'
                      obtain ⟨q9, hw''⟩ := hw'
                      subst hw''
                      have n0_ := Aside0.mk (HJ.out.below q9.h)
                      have n1_ := Aside0.mk (HU.out.below q9.h)
                      clear HJ HU hqn hqx
                      have HJ := n0_
                      have HU := n1_
                      clear n0_ n1_
                      go_wp2_with (fail)
                      go_roundw
                      case rel => exact ⟨k + 1, by go_num, HK.out, HJ, HU⟩
                      case measure => have := HK.out; simp [intOf]; omega
                    · have hz1 : decide ((k : Int) > 0) = true := decide_eq_true (by omega)
                      have hz2 : decide (0 < k) = true := decide_eq_true (by omega)
                      have hk1 : IntKind.i64.wrap ((k : Int) - 1) = ((k - 1 : Nat) : Int) := by rw [IntWalk.i64_in _ (by omega)]; omega
                      have hk2 : k - 1 < m7 := by omega
                      have hkj0 : (0 : Int) ≤ ((k - 1 : Nat) : Int) := by omega
                      have hkj1 : ((k - 1 : Nat) : Int) < (m7 : Int) := by omega
                      obtain ⟨ad2, eA2, hy⟩ := HU.out.at_ ((k - 1 : Nat) : Int) (by omega) (by rw [← HU.out.len]; omega)
                      obtain rfl := Option.some.inj eA2
                      have hxy := HR3.out (by omega)
                      have HCY : Aside0 (wr.cell? (ad.add (k - 1)) = some (.int .i64 (rd (underL rs ((i : Int) + 1)) ((k - 1 : Nat) : Int)))) := ⟨hy⟩
                      generalize rd (underL rs ((i : Int) + 1)) ((k - 1 : Nat) : Int) = y at HCY hxy
                      have hxyb : decide (x ≤ y) = false := decide_eq_false (by omega)
                      clear HR3 hk0 hy hxy eA2
                      have hqn : Nonempty (QW wr) := ⟨⟨wr, Below.refl _ _⟩⟩
                      have hqx : ∀ q : QW wr, q.w.cell? (ad.add k) = some (.int .i64 x) := fun q => pw_cell_below q.h HCX.out
                      have hqy : ∀ q : QW wr, q.w.cell? (ad.add (k - 1)) = some (.int .i64 y) := fun q => pw_cell_below q.h HCY.out
                      clear HCY
                      clear HCX
                      go_upto_region 23 with (fail)
                      refine wp_region_quiet_q (by kernel_rfl) (by kernel_rfl) ?_
                      repeat (go_big_quiet_step (first | (go_at_call 29; exact QW.calls (ju_parent (HJ.out.below (QW.h _)) HP3.out))))
                      refine wpQuiet_nil ?_
                      intro _ hw'
                      obtain ⟨q9, hw''⟩ := hw'
                      subst hw''
                      have n0_ := Aside0.mk (HJ.out.below q9.h)
                      have n1_ := Aside0.mk (HU.out.below q9.h)
                      clear HJ HU hqn hqx hqy
                      have HJ := n0_
                      have HU := n1_
                      clear n0_ n1_
                      go_wp2_with (fail)
                      go_roundw
                      case rel => exact ⟨k + 1, by go_num, HK.out, HJ, HU⟩
                      case measure => have := HK.out; simp [intOf]; omega
                  · have hpb : (p == (i : Int) + 1) = false := by simpa using hpp
                    have hpb2 : (p != (i : Int) + 1) = true := by simpa using hpp
                    have n0_ := Aside0.mk (HF3.out hpp)
                    clear HF3
                    have HF3 := n0_
                    clear n0_ hpp
                    by_cases hk0 : k = 0
                    · have hz1 : decide ((k : Int) > 0) = false := decide_eq_false (by omega)
                      have hz2 : decide (0 < k) = false := decide_eq_false (by omega)
                      clear HR3 hk0
                      have hqn : Nonempty (QW wr) := ⟨⟨wr, Below.refl _ _⟩⟩
                      have hqx : ∀ q : QW wr, q.w.cell? (ad.add k) = some (.int .i64 x) := fun q => pw_cell_below q.h HCX.out
                      clear HCX
                      go_upto_region 23 with (fail)
                      refine wp_region_quiet_q (by kernel_rfl) (by kernel_rfl) ?_
                      repeat (go_big_quiet_step (first | (go_at_call 29; exact QW.calls (ju_parent (HJ.out.below (QW.h _)) HP3.out)) | (go_at_call 27; exact QW.calls (ju_has _ (HU.out.below (QW.h _)) (HUL.out _) HF3.out))))
                      refine wpQuiet_nil ?_
                      intro _ hw'
                      obtain ⟨q9, hw''⟩ := hw'
                      subst hw''
                      have n0_ := Aside0.mk (HJ.out.below q9.h)
                      have n1_ := Aside0.mk (HU.out.below q9.h)
                      clear HJ HU hqn hqx
                      have HJ := n0_
                      have HU := n1_
                      clear n0_ n1_
                      go_wp2_with (fail)
                      go_roundw
                      case rel => exact ⟨k + 1, by go_num, HK.out, HJ, HU⟩
                      case measure => have := HK.out; simp [intOf]; omega
                    · have hz1 : decide ((k : Int) > 0) = true := decide_eq_true (by omega)
                      have hz2 : decide (0 < k) = true := decide_eq_true (by omega)
                      have hk1 : IntKind.i64.wrap ((k : Int) - 1) = ((k - 1 : Nat) : Int) := by rw [IntWalk.i64_in _ (by omega)]; omega
                      have hk2 : k - 1 < m7 := by omega
                      have hkj0 : (0 : Int) ≤ ((k - 1 : Nat) : Int) := by omega
                      have hkj1 : ((k - 1 : Nat) : Int) < (m7 : Int) := by omega
                      obtain ⟨ad2, eA2, hy⟩ := HU.out.at_ ((k - 1 : Nat) : Int) (by omega) (by rw [← HU.out.len]; omega)
                      obtain rfl := Option.some.inj eA2
                      have hxy := HR3.out (by omega)
                      have HCY : Aside0 (wr.cell? (ad.add (k - 1)) = some (.int .i64 (rd (underL rs ((i : Int) + 1)) ((k - 1 : Nat) : Int)))) := ⟨hy⟩
                      generalize rd (underL rs ((i : Int) + 1)) ((k - 1 : Nat) : Int) = y at HCY hxy
                      have hxyb : decide (x ≤ y) = false := decide_eq_false (by omega)
                      clear HR3 hk0 hy hxy eA2
                      have hqn : Nonempty (QW wr) := ⟨⟨wr, Below.refl _ _⟩⟩
                      have hqx : ∀ q : QW wr, q.w.cell? (ad.add k) = some (.int .i64 x) := fun q => pw_cell_below q.h HCX.out
                      have hqy : ∀ q : QW wr, q.w.cell? (ad.add (k - 1)) = some (.int .i64 y) := fun q => pw_cell_below q.h HCY.out
                      clear HCY
                      clear HCX
                      go_upto_region 23 with (fail)
                      refine wp_region_quiet_q (by kernel_rfl) (by kernel_rfl) ?_
                      repeat (go_big_quiet_step (first | (go_at_call 29; exact QW.calls (ju_parent (HJ.out.below (QW.h _)) HP3.out)) | (go_at_call 27; exact QW.calls (ju_has _ (HU.out.below (QW.h _)) (HUL.out _) HF3.out))))
                      refine wpQuiet_nil ?_
                      intro _ hw'
                      obtain ⟨q9, hw''⟩ := hw'
                      subst hw''
                      have n0_ := Aside0.mk (HJ.out.below q9.h)
                      have n1_ := Aside0.mk (HU.out.below q9.h)
                      clear HJ HU hqn hqx hqy
                      have HJ := n0_
                      have HU := n1_
                      clear n0_ n1_
                      go_wp2_with (fail)
                      go_roundw
                      case rel => exact ⟨k + 1, by go_num, HK.out, HJ, HU⟩
                      case measure => have := HK.out; simp [intOf]; omega
                · have hklb : decide (k < m7) = false := decide_eq_false hkl
                  clear hkm hkl
                  go_wp2_with (fail)
                  go_roundw
                  case rel => exact ⟨i + 1, by go_num, HI.out, HJ⟩
                  case measure => have := HI.out; simp [intOf]; omega
            · have hupb : decide (u > 0) = false := decide_eq_false hup
              clear HF2
              go_wp2_with (first | (go_at_call 31; (with_reducible refine (ju_count HJ.out).mono ?_); rintro e w' ⟨rfl, rfl⟩) | (go_at_call 40; (with_reducible refine (ju_under HJ.out ((i : Int) + 1)).mono ?_); rintro e w40 ⟨⟨A7, m7, c7, rfl, hu⟩, hb⟩; have n0_ := Aside0.mk (HJ.out.below hb); clear HJ hb; have HJ := n0_; clear n0_; have HU := Aside0.mk hu; clear hu) | (go_at_call 27; (with_reducible refine (ju_has _ HU.out (HUL.out _) HF1.out).mono ?_); rintro e w27 ⟨rfl, hb⟩; have n0_ := Aside0.mk (HJ.out.below hb); have n1_ := Aside0.mk (HU.out.below hb); clear HJ HU hb; have HJ := n0_; have HU := n1_; clear n0_ n1_) | (go_at_call 29; (with_reducible refine (ju_parent HJ.out HP.out).mono ?_); rintro e w29 ⟨rfl, hb⟩; have n0_ := Aside0.mk (HJ.out.below hb); have n1_ := Aside0.mk (HU.out.below hb); clear HJ HU hb; have HJ := n0_; have HU := n1_; clear n0_ n1_))
              go_loopw [11] (fun v11 wx => ∃ k : Nat, v11 = .int .i64 (k : Int) ∧ k ≤ m7 ∧ Aside0 (JV w wx b rs n) ∧ Aside0 (LKb wx A7 m7 c7 (underL rs ((i : Int) + 1)))) (fun v11 _ => m7 - (intOf v11).toNat)
              case atStart => exact ⟨0, rfl, Nat.zero_le _, HJ, HU⟩
              case round =>
                clear HJ HU
                obtain ⟨k, rfl, hkm, HJ, HU⟩ := hrel
                by_cases hkl : k < m7
                · have hklb : decide (k < m7) = true := decide_eq_true hkl
                  have HK := Aside0.mk hkl
                  have hki0 : (0 : Int) ≤ (k : Int) := by omega
                  have hki1 : (k : Int) < (m7 : Int) := by omega
                  have hm9 : m7 ≤ 1000000 := by rw [HU.out.len]; exact HUL.out _
                  have hkr : (k : Int) < ((underL rs ((i : Int) + 1)).length : Int) := by rw [← HU.out.len]; omega
                  obtain ⟨ad, eA, hx⟩ := HU.out.at_ (k : Int) (by omega) hkr
                  subst eA
                  have HCX : Aside0 (wr.cell? (ad.add k) = some (.int .i64 (rd (underL rs ((i : Int) + 1)) (k : Int)))) := ⟨hx⟩
                  have hA := HJ.out.2.2.1.2.2
                  have hmem := rd_mem (left := underL rs ((i : Int) + 1)) (k := (k : Int)) (by omega) hkr
                  have HF3 : Aside0 ((rowAt rs (rd (underL rs ((i : Int) + 1)) (k : Int))).pa ≠ (i : Int) + 1 → decide ((rowAt rs (rd (underL rs ((i : Int) + 1)) (k : Int))).pa ∈ underL rs ((i : Int) + 1)) = true) := ⟨fun q => under_at hA (by omega) hmem q⟩
                  have HR3 : Aside0 (0 < k → rd (underL rs ((i : Int) + 1)) ((k - 1 : Nat) : Int) < rd (underL rs ((i : Int) + 1)) (k : Int)) := ⟨fun q => by
                    have h := under_rise (rs := rs) (pid := (i : Int) + 1) (k := k - 1) (by omega)
                    rw [show k - 1 + 1 = k by omega] at h
                    exact h⟩
                  obtain ⟨x, ex⟩ : ∃ x, x = rd (underL rs ((i : Int) + 1)) (k : Int) := ⟨_, rfl⟩
                  rw [← ex] at HCX HF3 HR3
                  obtain ⟨p, hp⟩ : ∃ p, p = (rowAt rs x).pa := ⟨_, rfl⟩
                  have HP3 := Aside0.mk hp
                  rw [← hp] at HF3
                  clear hA hmem hp ex hx hkr hkm
                  by_cases hpp : p = (i : Int) + 1
                  · have hpb : (p == (i : Int) + 1) = true := by simpa using hpp
                    have hpb2 : (p != (i : Int) + 1) = false := by simpa using hpp
                    clear HF3 hpp
                    by_cases hk0 : k = 0
                    · have hz1 : decide ((k : Int) > 0) = false := decide_eq_false (by omega)
                      have hz2 : decide (0 < k) = false := decide_eq_false (by omega)
                      clear HR3 hk0
                      have hqn : Nonempty (QW wr) := ⟨⟨wr, Below.refl _ _⟩⟩
                      have hqx : ∀ q : QW wr, q.w.cell? (ad.add k) = some (.int .i64 x) := fun q => pw_cell_below q.h HCX.out
                      clear HCX
                      go_upto_region 23 with (fail)
                      refine wp_region_quiet_q (by kernel_rfl) (by kernel_rfl) ?_
                      repeat (go_big_quiet_step (first | (go_at_call 29; exact QW.calls (ju_parent (HJ.out.below (QW.h _)) HP3.out))))
                      refine wpQuiet_nil ?_
                      intro _ hw'
                      obtain ⟨q9, hw''⟩ := hw'
                      subst hw''
                      have n0_ := Aside0.mk (HJ.out.below q9.h)
                      have n1_ := Aside0.mk (HU.out.below q9.h)
                      clear HJ HU hqn hqx
                      have HJ := n0_
                      have HU := n1_
                      clear n0_ n1_
                      go_wp2_with (fail)
                      go_roundw
                      case rel => exact ⟨k + 1, by go_num, HK.out, HJ, HU⟩
                      case measure => have := HK.out; simp [intOf]; omega
                    · have hz1 : decide ((k : Int) > 0) = true := decide_eq_true (by omega)
                      have hz2 : decide (0 < k) = true := decide_eq_true (by omega)
                      have hk1 : IntKind.i64.wrap ((k : Int) - 1) = ((k - 1 : Nat) : Int) := by rw [IntWalk.i64_in _ (by omega)]; omega
                      have hk2 : k - 1 < m7 := by omega
                      have hkj0 : (0 : Int) ≤ ((k - 1 : Nat) : Int) := by omega
                      have hkj1 : ((k - 1 : Nat) : Int) < (m7 : Int) := by omega
                      obtain ⟨ad2, eA2, hy⟩ := HU.out.at_ ((k - 1 : Nat) : Int) (by omega) (by rw [← HU.out.len]; omega)
                      obtain rfl := Option.some.inj eA2
                      have hxy := HR3.out (by omega)
                      have HCY : Aside0 (wr.cell? (ad.add (k - 1)) = some (.int .i64 (rd (underL rs ((i : Int) + 1)) ((k - 1 : Nat) : Int)))) := ⟨hy⟩
                      generalize rd (underL rs ((i : Int) + 1)) ((k - 1 : Nat) : Int) = y at HCY hxy
                      have hxyb : decide (x ≤ y) = false := decide_eq_false (by omega)
                      clear HR3 hk0 hy hxy eA2
                      have hqn : Nonempty (QW wr) := ⟨⟨wr, Below.refl _ _⟩⟩
                      have hqx : ∀ q : QW wr, q.w.cell? (ad.add k) = some (.int .i64 x) := fun q => pw_cell_below q.h HCX.out
                      have hqy : ∀ q : QW wr, q.w.cell? (ad.add (k - 1)) = some (.int .i64 y) := fun q => pw_cell_below q.h HCY.out
                      clear HCY
                      clear HCX
                      go_upto_region 23 with (fail)
                      refine wp_region_quiet_q (by kernel_rfl) (by kernel_rfl) ?_
                      repeat (go_big_quiet_step (first | (go_at_call 29; exact QW.calls (ju_parent (HJ.out.below (QW.h _)) HP3.out))))
                      refine wpQuiet_nil ?_
                      intro _ hw'
                      obtain ⟨q9, hw''⟩ := hw'
                      subst hw''
                      have n0_ := Aside0.mk (HJ.out.below q9.h)
                      have n1_ := Aside0.mk (HU.out.below q9.h)
                      clear HJ HU hqn hqx hqy
                      have HJ := n0_
                      have HU := n1_
                      clear n0_ n1_
                      go_wp2_with (fail)
                      go_roundw
                      case rel => exact ⟨k + 1, by go_num, HK.out, HJ, HU⟩
                      case measure => have := HK.out; simp [intOf]; omega
                  · have hpb : (p == (i : Int) + 1) = false := by simpa using hpp
                    have hpb2 : (p != (i : Int) + 1) = true := by simpa using hpp
                    have n0_ := Aside0.mk (HF3.out hpp)
                    clear HF3
                    have HF3 := n0_
                    clear n0_ hpp
                    by_cases hk0 : k = 0
                    · have hz1 : decide ((k : Int) > 0) = false := decide_eq_false (by omega)
                      have hz2 : decide (0 < k) = false := decide_eq_false (by omega)
                      clear HR3 hk0
                      have hqn : Nonempty (QW wr) := ⟨⟨wr, Below.refl _ _⟩⟩
                      have hqx : ∀ q : QW wr, q.w.cell? (ad.add k) = some (.int .i64 x) := fun q => pw_cell_below q.h HCX.out
                      clear HCX
                      go_upto_region 23 with (fail)
                      refine wp_region_quiet_q (by kernel_rfl) (by kernel_rfl) ?_
                      repeat (go_big_quiet_step (first | (go_at_call 29; exact QW.calls (ju_parent (HJ.out.below (QW.h _)) HP3.out)) | (go_at_call 27; exact QW.calls (ju_has _ (HU.out.below (QW.h _)) (HUL.out _) HF3.out))))
                      refine wpQuiet_nil ?_
                      intro _ hw'
                      obtain ⟨q9, hw''⟩ := hw'
                      subst hw''
                      have n0_ := Aside0.mk (HJ.out.below q9.h)
                      have n1_ := Aside0.mk (HU.out.below q9.h)
                      clear HJ HU hqn hqx
                      have HJ := n0_
                      have HU := n1_
                      clear n0_ n1_
                      go_wp2_with (fail)
                      go_roundw
                      case rel => exact ⟨k + 1, by go_num, HK.out, HJ, HU⟩
                      case measure => have := HK.out; simp [intOf]; omega
                    · have hz1 : decide ((k : Int) > 0) = true := decide_eq_true (by omega)
                      have hz2 : decide (0 < k) = true := decide_eq_true (by omega)
                      have hk1 : IntKind.i64.wrap ((k : Int) - 1) = ((k - 1 : Nat) : Int) := by rw [IntWalk.i64_in _ (by omega)]; omega
                      have hk2 : k - 1 < m7 := by omega
                      have hkj0 : (0 : Int) ≤ ((k - 1 : Nat) : Int) := by omega
                      have hkj1 : ((k - 1 : Nat) : Int) < (m7 : Int) := by omega
                      obtain ⟨ad2, eA2, hy⟩ := HU.out.at_ ((k - 1 : Nat) : Int) (by omega) (by rw [← HU.out.len]; omega)
                      obtain rfl := Option.some.inj eA2
                      have hxy := HR3.out (by omega)
                      have HCY : Aside0 (wr.cell? (ad.add (k - 1)) = some (.int .i64 (rd (underL rs ((i : Int) + 1)) ((k - 1 : Nat) : Int)))) := ⟨hy⟩
                      generalize rd (underL rs ((i : Int) + 1)) ((k - 1 : Nat) : Int) = y at HCY hxy
                      have hxyb : decide (x ≤ y) = false := decide_eq_false (by omega)
                      clear HR3 hk0 hy hxy eA2
                      have hqn : Nonempty (QW wr) := ⟨⟨wr, Below.refl _ _⟩⟩
                      have hqx : ∀ q : QW wr, q.w.cell? (ad.add k) = some (.int .i64 x) := fun q => pw_cell_below q.h HCX.out
                      have hqy : ∀ q : QW wr, q.w.cell? (ad.add (k - 1)) = some (.int .i64 y) := fun q => pw_cell_below q.h HCY.out
                      clear HCY
                      clear HCX
                      go_upto_region 23 with (fail)
                      refine wp_region_quiet_q (by kernel_rfl) (by kernel_rfl) ?_
                      repeat (go_big_quiet_step (first | (go_at_call 29; exact QW.calls (ju_parent (HJ.out.below (QW.h _)) HP3.out)) | (go_at_call 27; exact QW.calls (ju_has _ (HU.out.below (QW.h _)) (HUL.out _) HF3.out))))
                      refine wpQuiet_nil ?_
                      intro _ hw'
                      obtain ⟨q9, hw''⟩ := hw'
                      subst hw''
                      have n0_ := Aside0.mk (HJ.out.below q9.h)
                      have n1_ := Aside0.mk (HU.out.below q9.h)
                      clear HJ HU hqn hqx hqy
                      have HJ := n0_
                      have HU := n1_
                      clear n0_ n1_
                      go_wp2_with (fail)
                      go_roundw
                      case rel => exact ⟨k + 1, by go_num, HK.out, HJ, HU⟩
                      case measure => have := HK.out; simp [intOf]; omega
                · have hklb : decide (k < m7) = false := decide_eq_false hkl
                  clear hkm hkl
                  go_wp2_with (fail)
                  go_roundw
                  case rel => exact ⟨i + 1, by go_num, HI.out, HJ⟩
                  case measure => have := HI.out; simp [intOf]; omega
          · have hltb : decide ((i : Int) + 1 ≤ (rs.length : Int)) = false := decide_eq_false (by omega)
            clear hlt hil
            go_wp2_with (first | (go_at_call 31; (with_reducible refine (ju_count HJ.out).mono ?_); rintro e w' ⟨rfl, rfl⟩) | (go_at_call 40; (with_reducible refine (ju_none _).mono ?_); rintro e w40 ⟨⟨A7, c7, rfl⟩, hb⟩; have n0_ := Aside0.mk (HJ.out.below hb); clear HJ hb; have HJ := n0_; clear n0_) | (go_at_call 32; (with_reducible refine (awake10_any _).mono ?_); rintro e w32 ⟨rfl, hb⟩; have HZ9 := Aside0.mk (below_step HJ.out.at hb); clear hb))
            go_ret
            exact ⟨rfl, HZ9.out⟩

end Go.Proofs.Ytfllnpfikdhdbaa.PProcs
