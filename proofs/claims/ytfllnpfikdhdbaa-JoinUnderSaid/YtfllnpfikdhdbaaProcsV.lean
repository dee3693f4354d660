import Derived.Test.YtfllnpfikdhdbaaPProcsx0
import Derived.Test.YtfllnpfikdhdbaaProcsU
import Derived.StillTailTactics
import Derived.Laws.LoneSync
import Derived.Laws.EntriesVeiled
import Derived.IntWalk
import Derived.Deep.RegionHeld3
namespace Go.Proofs.Ytfllnpfikdhdbaa.PProcs
open Go.RowKit Go.Proofs.YtfllnpfikdhdbaaW.PrintWords Go.Proofs.YtfllnpfikdhdbaaW.PrintLast Go.Proofs.YtfllnpfikdhdbaaW.PrintMore
attribute [local go_sem] max2_int min2_int max_two min_two max_three min_three max_four min_four
set_option linter.unusedVariables false
set_option linter.unusedSimpArgs false
/-- Of every row: its state is one of four; who lives has no code yet. -/
def Inv (rs : List Row) : Prop := ∀ i, i < rs.length → (rs.getD i Row.z).st ≠ 0 ∧ (liveB (rs.getD i Row.z) = true → (rs.getD i Row.z).cd = 0)
def PR (w0 w w' : World) (b : Nat) (most : Int) (rs' : List Row) : Prop := RB w' b w0.heap.size most rs' ∧ Fr [77, 83] w w' ∧ Below w0.heap.size w0 w'
theorem PR.of {w0 w : World} {b : Nat} {most : Int} {rs : List Row} (hB : Below w0.heap.size w0 w) (h : RB w b w0.heap.size most rs) {w' : World} (k : Below w.heap.size w w') : PR w0 w w' b most rs := ⟨h.below k, Fr.of_below k _, below_step hB k⟩
theorem Inv.set {rs : List Row} {j : Nat} {x : Row} (h : Inv rs) (hx : x.st ≠ 0 ∧ (liveB x = true → x.cd = 0)) : Inv (rs.set j x) := by
  intro i hi
  rw [List.length_set] at hi
  by_cases q : j = i
  · subst q
    rw [getD_set hi]
    exact hx
  · rw [List.getD_eq_getElem?_getD, List.getElem?_set, if_neg q, ← List.getD_eq_getElem?_getD]
    exact h i hi
theorem Inv.more {rs : List Row} {x : Row} (h : Inv rs) (hx : x.st ≠ 0 ∧ (liveB x = true → x.cd = 0)) : Inv (rs ++ [x]) := by
  intro i hi
  rw [List.length_append] at hi
  by_cases q : i < rs.length
  · rw [List.getD_eq_getElem?_getD, List.getElem?_append_left q, ← List.getD_eq_getElem?_getD]
    exact h i q
  · obtain rfl : i = rs.length := by simp at hi; omega
    rw [List.getD_eq_getElem?_getD, List.getElem?_append_right (Nat.le_refl _), Nat.sub_self]
    exact hx
theorem Inv.spawn {rs : List Row} (h : Inv rs) (most par : Int) : Inv (spawnP most rs par).2.2 ∧ (spawnP most rs par).2.2.length ≤ rs.length + 1 := by
  unfold spawnP
  split
  · exact ⟨h, Nat.le_succ _⟩
  · split
    · exact ⟨h, Nat.le_succ _⟩
    · exact ⟨h.more ⟨by show (1 : Int) ≠ 0; decide, fun _ => rfl⟩, by simp⟩
theorem live1 {r : Row} (h : r.st = 1) : liveB r = true := by rw [liveB, h]; rfl
theorem live2 {r : Row} (h : r.st = 2) : liveB r = true := by rw [liveB, h]; rfl
theorem Inv.at {rs : List Row} {pid : Int} (h : Inv rs) (q : liveB (rowAt rs pid) = true) : (rowAt rs pid).cd = 0 := by
  obtain ⟨i, _, hi, e⟩ := rowAt_st (live_st q)
  rw [e] at q ⊢
  exact (h i hi).2 q
theorem Inv.block {rs : List Row} (h : Inv rs) (pid kd ix : Int) : Inv (blockP rs pid kd ix).2 ∧ (blockP rs pid kd ix).2.length ≤ rs.length + 1 := by
  unfold blockP
  split
  · rename_i q
    exact ⟨h.set ⟨by show (2 : Int) ≠ 0; decide, fun _ => h.at (live1 q.1)⟩, by rw [List.length_set]; exact Nat.le_succ _⟩
  · exact ⟨h, Nat.le_succ _⟩
theorem Inv.wake {rs : List Row} (h : Inv rs) (pid : Int) : Inv (wakeP rs pid).2 ∧ (wakeP rs pid).2.length ≤ rs.length + 1 := by
  unfold wakeP
  split
  · rename_i q
    exact ⟨h.set ⟨by show (1 : Int) ≠ 0; decide, fun _ => h.at (live2 q)⟩, by rw [List.length_set]; exact Nat.le_succ _⟩
  · exact ⟨h, Nat.le_succ _⟩
theorem Inv.end_ {rs : List Row} (h : Inv rs) (pid c : Int) : Inv (endP rs pid c).2 ∧ (endP rs pid c).2.length ≤ rs.length + 1 := by
  unfold endP
  split
  · refine ⟨h.set ?_, by rw [List.length_set]; exact Nat.le_succ _⟩
    by_cases q : c = 0
    · subst q; exact ⟨by show (3 : Int) ≠ 0; decide, fun e => rfl⟩
    · have e0 : (endR (rowAt rs pid) c).st = 4 := by unfold endR; rw [if_neg q]
      exact ⟨by rw [e0]; decide, fun e => by rw [liveB, e0] at e; cases e⟩
  · exact ⟨h, Nat.le_succ _⟩
def LKb (w : World) (A : Option Addr) (n c : Nat) (xs : List Int) : Prop := (∃ base, Kd.R (Kd.int .i64) 3 w base (fun _ => True) (.slice A n c) xs) ∧ n = xs.length
theorem LKb.below {w w' : World} {A : Option Addr} {n c : Nat} {xs : List Int} (h : LKb w A n c xs) (hb : Below w.heap.size w w') : LKb w' A n c xs := by
  obtain ⟨⟨base, r⟩, e⟩ := h
  exact ⟨⟨base, Kd.R_below r hb⟩, e⟩
theorem ints_same_f (l : List Int) (hl : l.length ≤ 1000000) : ∀ k i : Nat, l.length + 1 ≤ k + i → i ≤ l.length → signalboxref1_Ints.l0 k l l (i : Int) = some true
  | 0, i, h1, h2 => by omega
  | k + 1, i, h1, h2 => by
    rw [signalboxref1_Ints.l0]
    by_cases q : (i : Int) < (l.length : Int)
    · rw [if_pos q, if_pos (by omega), if_pos q, if_pos rfl, IntWalk.wrap64_in _ (by omega)]
      exact ints_same_f l hl k (i + 1) (by omega) (by omega)
    · rw [if_neg q]
theorem ints_same {w : World} {A B : Option Addr} {n m c d : Nat} {xs : List Int} (hx : xs.length ≤ 1000000) (h : LKb w A n c xs) (k : LKb w B m d xs) : Calls Try.prog 41 #[.slice A n c, .slice B m d] w fun e w' => e = .returned (.bool true) ∧ Below w.heap.size w w' := by
  obtain ⟨⟨b1, r1⟩, rfl⟩ := h
  obtain ⟨⟨b2, r2⟩, rfl⟩ := k
  refine (signalboxref1_Ints.calls (xs.length + 1) A c xs B d xs true w (Kd.R_reads' r1).2.2 (Kd.R_reads' r1).2.1 (Kd.R_reads' r2).2.2 (Kd.R_reads' r2).2.1 ?_).mono fun _ _ k => ⟨k.1, k.2.below⟩
  unfold signalboxref1_Ints.f
  rw [if_pos rfl]
  exact ints_same_f xs hx (xs.length + 1) 0 (by omega) (by omega)
theorem rspawn_any {w0 w : World} {b : Nat} {most : Int} {rs : List Row} (par : Int) (hB : Below w0.heap.size w0 w) (h : RB w b w0.heap.size most rs) (hl : rs.length ≤ 1000000) : Calls Try.prog 14 #[.pointer (some ⟨b, 0, none⟩), .int .i64 par] w fun e w' => e = .returned (.tuple #[.int .i64 (spawnP most rs par).1, .int .i64 (spawnP most rs par).2.1]) ∧ PR w0 w w' b most (spawnP most rs par).2.2 := by
  unfold spawnP
  split
  · rename_i q
    exact (rspawn_orphan par h hl q.1 q.2).mono fun _ _ k => ⟨k.1, PR.of hB h (k.2 ▸ Below.refl _ _)⟩
  · rename_i q
    split
    · rename_i p
      exact (rspawn_full par h hl (parOk_of q) p).mono fun _ _ k => ⟨k.1, PR.of hB h k.2⟩
    · rename_i p
      exact (rspawn_ok w0 par hB h hl (parOk_of q) (by omega)).mono fun _ _ k => ⟨k.1, k.2⟩
theorem rblock_any {w0 w : World} {b : Nat} {most : Int} {rs : List Row} (pid kd ix : Int) (hB : Below w0.heap.size w0 w) (h : RB w b w0.heap.size most rs) (hl : rs.length ≤ 1000000) : Calls Try.prog 16 #[.pointer (some ⟨b, 0, none⟩), .int .i64 pid, .agg #[.int .i64 kd, .int .i64 ix]] w fun e w' => e = .returned (.bool (blockP rs pid kd ix).1) ∧ PR w0 w w' b most (blockP rs pid kd ix).2 := by
  unfold blockP
  split
  · rename_i q
    obtain ⟨i, rfl, hi, e⟩ := rowAt_st (show (rowAt rs pid).st ≠ 0 by rw [q.1]; decide)
    rw [e, show ((i : Int) + 1 - 1).toNat = i by omega]
    exact (rblock_yes w0 i kd ix hB h hl hi (by rw [← e]; exact q.1) q.2.1 q.2.2).mono fun _ _ k => ⟨k.1, k.2⟩
  · rename_i q
    exact (rblock_no pid kd ix h hl (by omega)).mono fun _ _ k => ⟨k.1, PR.of hB h k.2⟩
theorem rwake_any {w0 w : World} {b : Nat} {most : Int} {rs : List Row} (pid : Int) (hB : Below w0.heap.size w0 w) (h : RB w b w0.heap.size most rs) (hl : rs.length ≤ 1000000) : Calls Try.prog 18 #[.pointer (some ⟨b, 0, none⟩), .int .i64 pid] w fun e w' => e = .returned (.bool (wakeP rs pid).1) ∧ PR w0 w w' b most (wakeP rs pid).2 := by
  unfold wakeP
  split
  · rename_i q
    obtain ⟨i, rfl, hi, e⟩ := rowAt_st (show (rowAt rs pid).st ≠ 0 by rw [q]; decide)
    rw [e, show ((i : Int) + 1 - 1).toNat = i by omega]
    exact (rwake_yes w0 i hB h hl hi (by rw [← e]; exact q)).mono fun _ _ k => ⟨k.1, k.2⟩
  · rename_i q
    exact (rwake_no pid h hl q).mono fun _ _ k => ⟨k.1, PR.of hB h (k.2 ▸ Below.refl _ _)⟩
theorem rend_any {w0 w : World} {b : Nat} {most : Int} {rs : List Row} (pid c : Int) (hB : Below w0.heap.size w0 w) (h : RB w b w0.heap.size most rs) (hl : rs.length ≤ 1000000) (hi : Inv rs) : Calls Try.prog 20 #[.pointer (some ⟨b, 0, none⟩), .int .i64 pid, .int .i64 c] w fun e w' => e = .returned (.bool (endP rs pid c).1) ∧ PR w0 w w' b most (endP rs pid c).2 := by
  unfold endP
  split
  · rename_i q
    obtain ⟨i, rfl, hk, e⟩ := rowAt_st (live_st q)
    rw [e, show ((i : Int) + 1 - 1).toNat = i by omega]
    exact (rend_yes w0 i c hB h hl hk (by rw [← e]; exact q) ((hi i hk).2 (by rw [← e]; exact q))).mono fun _ _ k => ⟨k.1, k.2⟩
  · rename_i q
    exact (rend_no pid c h hl (by simpa using q)).mono fun _ _ k => ⟨k.1, PR.of hB h (k.2 ▸ Below.refl _ _)⟩
set_option maxHeartbeats 8000000 in
set_option maxRecDepth 100000 in
theorem same_any {w : World} {b c b1 b2 : Nat} {most : Int} {rs : List Row} (ht : TB w b b1 most rs) (hr : RB w c b2 most rs) (hl : rs.length ≤ 1000) (hi : Inv rs) : Calls Try.prog 21 #[.pointer (some ⟨b, 0, none⟩), .pointer (some ⟨c, 0, none⟩)] w fun e w' => e = .returned (.bool true) ∧ Below w.heap.size w w' := by
  have TH := Aside0.mk ht
  have RH := Aside0.mk hr
  have HL : Aside0 (rs.length ≤ 1000000) := ⟨by omega⟩
  have HL0 := Aside0.mk hl
  have HX : Aside0 (∀ s, (thoseL (isB s) rs).length ≤ 1000000) := ⟨fun s => by have := thoseN_len (isB s) rs rs.length; unfold thoseL; omega⟩
  have HI : Aside0 (∀ i, i < rs.length → (rs.getD i Row.z).st ≠ 0) := ⟨fun i h => (hi i h).1⟩
  obtain ⟨v, hbk, hrr, hge⟩ := hr
  obtain ⟨A, cc, rfl⟩ := flat_slice hrr
  have HC : Aside0 (∀ W, Below w.heap.size w W → W.cell? ⟨c, 1, none⟩ = some (.slice A rs.length cc)) := ⟨fun W h => (blk_cell (blk_below hbk h) 1).trans rfl⟩
  have HB := Aside0.mk (below_drew1 (Below.refl w.heap.size w))
  clear ht hl hi hbk hrr hge
  go_enter Try.func21, Try.ntmps21
  go_wp2_with (fail)
  go_region_held3 (fun w' => w'.cell? ⟨c, 1, none⟩ = some (.slice A rs.length cc) ∧ Below w.heap.size w w') (exact ⟨HC.out _ HB.out, HB.out⟩)
    (first | (go_at_call 22; (with_reducible refine (nlive_any (TH.out.below HB.out).tv HL.out).mono ?_); rintro e w22 ⟨rfl, hb⟩; have n0_ := Aside0.mk (below_step HB.out hb); clear HB hb; have HB := n0_; clear n0_) | (go_at_call 47; (with_reducible refine (rnlive_any (RH.out.below HB.out) HL.out).mono ?_); rintro e w47 ⟨rfl, hb⟩; have n0_ := Aside0.mk (below_step HB.out hb); clear HB hb; have HB := n0_; clear n0_) | (go_at_call 31; (with_reducible refine (count_any (TH.out.below HB.out).tv).mono ?_); rintro e w' ⟨rfl, hb⟩; first | (have n0_ := Aside0.mk (below_step HB.out hb); clear HB hb; have HB := n0_; clear n0_) | subst hb) | (go_at_call 23; (refine (lready_any (TH.out.below HB.out).tv HL.out).mono ?_); rintro e w23 ⟨v23, rfl, hr, hb⟩; obtain ⟨A1, c1, rfl⟩ := Kd.R_slice hr; have K1 : Aside0 (LKb w23 A1 _ c1 _) := Aside0.mk ⟨⟨_, hr⟩, rfl⟩; clear hr; have n0_ := Aside0.mk (below_step HB.out hb); clear HB hb; have HB := n0_; clear n0_) | (go_at_call 28; (refine (lblocked_any (TH.out.below HB.out).tv HL.out).mono ?_); rintro e w28 ⟨v28, rfl, hr, hb⟩; obtain ⟨A1, c1, rfl⟩ := Kd.R_slice hr; have K1 : Aside0 (LKb w28 A1 _ c1 _) := Aside0.mk ⟨⟨_, hr⟩, rfl⟩; clear hr; have n0_ := Aside0.mk (below_step HB.out hb); clear HB hb; have HB := n0_; clear n0_) | (go_at_call 49; (refine (rin_any _ (RH.out.below HB.out) HL.out).mono ?_); rintro e w49 ⟨v49, rfl, hr, hb⟩; obtain ⟨A2, c2, rfl⟩ := Kd.R_slice hr; have K2 : Aside0 (LKb w49 A2 _ c2 _) := Aside0.mk ⟨⟨_, hr⟩, rfl⟩; have m0_ := Aside0.mk (LKb.below K1.out hb); clear K1; have K1 := m0_; clear m0_; clear hr; have n0_ := Aside0.mk (below_step HB.out hb); clear HB hb; have HB := n0_; clear n0_) | (go_at_call 41; (refine (ints_same (HX.out _) K1.out K2.out).mono ?_); rintro e w41 ⟨rfl, hb⟩; clear K1 K2; have n0_ := Aside0.mk (below_step HB.out hb); clear HB hb; have HB := n0_; clear n0_))
  go_wp2_with (fail)
  go_loopw [5] (fun v5 wx => ∃ p : Int, v5 = .int .i64 p ∧ -1 ≤ p ∧ p ≤ (rs.length : Int) + 2 ∧ Aside0 (Below w.heap.size w wx)) (fun v5 _ => ((rs.length : Int) + 3 - intOf v5).toNat)
  case atStart => exact ⟨-1, rfl, by omega, by omega, HB⟩
  case round =>
    clear HB
    obtain ⟨p, rfl, hp0, hp1, HB⟩ := hrel
    have hc1 := HC.out _ HB.out
    have hl9 := HL0.out
    have ew : IntKind.i64.wrap ((rs.length : Int) + 1) = (rs.length : Int) + 1 := IntWalk.i64_in _ (by omega)
    by_cases hlt : p ≤ (rs.length : Int) + 1
    · have hltb : decide (p ≤ (rs.length : Int) + 1) = true := decide_eq_true hlt
      go_wp2_with (first | (go_at_call 24; (with_reducible refine (state_any _ (TH.out.below HB.out).tv HL.out).mono ?_); rintro e w24 ⟨rfl, hb⟩; have n0_ := Aside0.mk (below_step HB.out hb); clear HB hb; have HB := n0_; clear n0_) | (go_at_call 48; (with_reducible refine (rstate_any _ (RH.out.below HB.out) HL.out).mono ?_); rintro e w' ⟨rfl, rfl⟩) | (go_at_call 26; (with_reducible refine (why_any _ (TH.out.below HB.out).tv HL.out).mono ?_); rintro e w26 ⟨rfl, hb⟩; have n0_ := Aside0.mk (below_step HB.out hb); clear HB hb; have HB := n0_; clear n0_) | (go_at_call 50; (with_reducible refine (rwhy_any _ (RH.out.below HB.out) HL.out HI.out).mono ?_); rintro e w50 ⟨rfl, hb⟩; have n0_ := Aside0.mk (below_step HB.out hb); clear HB hb; have HB := n0_; clear n0_) | (go_at_call 25; (with_reducible refine (code_any _ (TH.out.below HB.out).tv HL.out).mono ?_); rintro e w25 ⟨rfl, hb⟩; have n0_ := Aside0.mk (below_step HB.out hb); clear HB hb; have HB := n0_; clear n0_) | (go_at_call 51; (with_reducible refine (rcode_any _ (RH.out.below HB.out) HL.out HI.out).mono ?_); rintro e w' ⟨rfl, rfl⟩) | (go_at_call 29; (with_reducible refine (parent_any _ (TH.out.below HB.out).tv HL.out).mono ?_); rintro e w29 ⟨rfl, hb⟩; have n0_ := Aside0.mk (below_step HB.out hb); clear HB hb; have HB := n0_; clear n0_) | (go_at_call 52; (with_reducible refine (rparent_any _ (RH.out.below HB.out) HL.out HI.out).mono ?_); rintro e w' ⟨rfl, rfl⟩) | (go_at_call 30; (with_reducible refine (kids_any _ (TH.out.below HB.out).tv HL.out).mono ?_); rintro e w30 ⟨rfl, hb⟩; have n0_ := Aside0.mk (below_step HB.out hb); clear HB hb; have HB := n0_; clear n0_) | (go_at_call 53; (with_reducible refine (rkids_any _ (RH.out.below HB.out) HL.out).mono ?_); rintro e w' ⟨rfl, rfl⟩))
      go_roundw
      case rel => exact ⟨p + 1, by go_num, by omega, by omega, HB⟩
      case measure => simp [intOf]; omega
    · have hltb : decide (p ≤ (rs.length : Int) + 1) = false := decide_eq_false hlt
      go_wp2_with (fail)
      go_ret
      exact ⟨rfl, HB.out⟩

end Go.Proofs.Ytfllnpfikdhdbaa.PProcs
