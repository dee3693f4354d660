-- Written by a program of this session (over the kit's printer): not typed by hand.
import Derived.Test.YtlngcnijlijplaaPBankx0
import Derived.Test.YtlngcnijlijplaaPBankx1
import Derived.Test.YtlngcnijlijplaaPBankx4
import Derived.Test.YtlngcnijlijplaaPBankx6
import Derived.Test.YtlngcnijlijplaaPBankx7
import Derived.WalkMore
namespace Go.Proofs.Ytlngcnijlijplaa.PBank
open Go.RowKit Go.Proofs.YtlngcnijlijplaaW.PrintWords Go.Proofs.YtlngcnijlijplaaW.PrintLast Go.Proofs.YtlngcnijlijplaaW.PrintMore
attribute [local go_sem] max2_int min2_int max_two min_two max_three min_three max_four min_four   -- for this text's walks alone
set_option linter.unusedVariables false
set_option linter.unusedSimpArgs false

/-! ### bank_Order: function 10 -/
/-! What May's yes says. -/
theorem units_may_neg {l : List Int} {n i : Int} (hi : i < 0) (hn : 0 ≤ n) : ∀ k : Nat, units_may.l0 k l n i = none
  | 0 => by simp [units_may.l0]
  | k + 1 => by
    simp only [units_may.l0]
    rw [if_pos (by omega), if_neg (by omega)]
theorem units_may_true {l : List Int} {B : Int} (hB : B = 9223372036854775808) : ∀ (k : Nat) (i : Nat), (i : Int) < B → units_may.l0 k l (l.length : Int) (i : Int) = some true → ∀ j : Nat, i ≤ j → j < l.length → 0 ≤ rd l j ∧ rd l j ≤ 1000
  | 0, _, _, h => by simp [units_may.l0] at h
  | k + 1, i, hi, h => by
    intro j hij hj
    simp only [units_may.l0] at h
    rw [if_pos (by omega), if_pos (by omega), if_pos (by omega)] at h
    by_cases h1 : rd l (i : Int) < 0
    · rw [if_pos h1] at h; cases h
    · rw [if_neg h1] at h
      by_cases h2 : rd l (i : Int) > 1000
      · rw [if_pos h2] at h; cases h
      · rw [if_neg h2] at h
        by_cases e : i = j
        · subst e; omega
        · by_cases hb2 : (i : Int) + 1 < B
          · have hw : wrap64 ((i : Int) + 1) = ((i + 1 : Nat) : Int) := by unfold wrap64; omega
            rw [hw] at h
            exact units_may_true hB k (i + 1) (by omega) h j (by omega) hj
          · have hw : wrap64 ((i : Int) + 1) < 0 := by unfold wrap64; omega
            rw [units_may_neg hw (by omega)] at h
            cases h
theorem units_Is_true {l : List Int} {n : Int} {k : Nat} (h : units_Is.f k l n = some true) : (l.length : Int) = n ∧ ∀ j : Nat, j < l.length → 0 ≤ rd l j ∧ rd l j ≤ 1000 := by
  unfold units_Is.f at h
  by_cases e : (l.length : Int) = n
  · rw [if_pos e] at h
    refine ⟨e, fun j hj => ?_⟩
    obtain ⟨b, hb, hs⟩ := Option.bind_eq_some_iff.mp h
    obtain rfl := Option.some.inj hs
    exact units_may_true rfl k 0 (by omega) hb j (by omega) hj
  · rw [if_neg e] at h; cases h
/-- A state that may be. -/
structure bank_Ok (l0 : List Int) (l1 l2 : List (List Int)) : Prop where
  n6 : l0.length ≤ 6
  av : ∀ j : Nat, j < l0.length → 0 ≤ rd l0 j ∧ rd l0 j ≤ 1000
  eq : l1.length = l2.length
  n32 : l1.length ≤ 32
  hl : ∀ i : Nat, i < l1.length → (rd_L1 l1 i).length = l0.length ∧ ∀ j : Nat, j < l0.length → 0 ≤ rd (rd_L1 l1 i) j ∧ rd (rd_L1 l1 i) j ≤ 1000
  cl : ∀ i : Nat, i < l1.length → (rd_L1 l2 i).length = l0.length ∧ ∀ j : Nat, j < l0.length → 0 ≤ rd (rd_L1 l2 i) j ∧ rd (rd_L1 l2 i) j ≤ 1000
theorem bank_rows_true {l1 l2 : List (List Int)} {n : Nat} (hl : l1.length ≤ 32) : ∀ (k i : Nat), bank_May.l0 k l1 l2 (n : Int) (l1.length : Int) (i : Int) = some true → ∀ j : Nat, i ≤ j → j < l1.length →
    ((rd_L1 l1 j).length = n ∧ ∀ q : Nat, q < n → 0 ≤ rd (rd_L1 l1 j) q ∧ rd (rd_L1 l1 j) q ≤ 1000) ∧ ((rd_L1 l2 j).length = n ∧ ∀ q : Nat, q < n → 0 ≤ rd (rd_L1 l2 j) q ∧ rd (rd_L1 l2 j) q ≤ 1000)
  | 0, _, h => by simp [bank_May.l0] at h
  | k + 1, i, h => by
    intro j hij hj
    simp only [bank_May.l0] at h
    rw [if_pos (by omega), if_pos (by omega), if_pos (by omega)] at h
    obtain ⟨b1, hb1, h⟩ := Option.bind_eq_some_iff.mp h
    cases b1 with
    | false => simp at h
    | true =>
      rw [if_pos rfl] at h
      by_cases h2 : (i : Int) < (l2.length : Int)
      · rw [if_pos h2] at h
        obtain ⟨b2, hb2, h⟩ := Option.bind_eq_some_iff.mp h
        cases b2 with
        | false => simp at h
        | true =>
          rw [if_pos rfl] at h
          obtain ⟨b3, hb3, h⟩ := Option.bind_eq_some_iff.mp h
          cases b3 with
          | false => simp at h
          | true =>
            rw [if_pos rfl] at h
            by_cases e : i = j
            · subst e
              have u1 := units_Is_true hb1
              have u2 := units_Is_true hb2
              exact ⟨⟨by omega, fun q hq => u1.2 q (by omega)⟩, ⟨by omega, fun q hq => u2.2 q (by omega)⟩⟩
            · have hw : wrap64 ((i : Int) + 1) = ((i + 1 : Nat) : Int) := by unfold wrap64; omega
              rw [hw] at h
              exact bank_rows_true hl k (i + 1) h j (by omega) hj
      · rw [if_neg h2] at h; cases h
theorem bank_May_true {k : Nat} {l0 : List Int} {l1 l2 : List (List Int)} (h : bank_May.f k l0 l1 l2 = some true) : bank_Ok l0 l1 l2 := by
  have jt : ∀ k, bank_May.j0 k l1 l2 (l0.length : Int) true ≠ some true := by
    intro k q
    cases k with
    | zero => simp [bank_May.j0] at q
    | succ k => simp [bank_May.j0] at q
  unfold bank_May.f at h
  by_cases h6 : (l0.length : Int) > 6
  · rw [if_pos h6] at h; exact absurd h (jt k)
  · rw [if_neg h6] at h
    obtain ⟨b1, hb1, h⟩ := Option.bind_eq_some_iff.mp h
    cases b1 with
    | false => rw [if_neg (by simp)] at h; exact absurd h (jt k)
    | true =>
      rw [if_pos rfl] at h
      by_cases he : (l1.length : Int) = (l2.length : Int)
      · rw [if_pos he] at h
        by_cases h32 : (l1.length : Int) > 32
        · rw [decide_eq_true h32] at h; exact absurd h (jt k)
        · rw [decide_eq_false h32] at h
          cases k with
          | zero => simp [bank_May.j0] at h
          | succ k =>
            simp only [bank_May.j0] at h
            rw [if_neg (by simp)] at h
            have r := bank_rows_true (by omega) k 0 h
            have u := units_Is_true hb1
            exact ⟨by omega, u.2, by omega, by omega, fun i hi => (r i (by omega) hi).1, fun i hi => (r i (by omega) hi).2⟩
      · rw [if_neg he] at h; exact absurd h (jt k)
/-- The banker's rounds: each time the first one that can, and it gives back what it holds. -/
def bank_run (H C : Nat → List Int) (n : Nat) : Nat → List Int → List Nat → List Int → List Int × Bool
  | 0, _, _, out => (out, true)
  | m + 1, th, L, out => match (List.range n).find? (fun i => decide (i ∈ L) && canTo th (H i) (C i) (C i).length) with
    | some i => bank_run H C n m (addN th (H i) (H i).length) (L.erase i) (out ++ [(i : Int)])
    | none => ([], false)
theorem find_first {p : Nat → Bool} {n k : Nat} (hk : k < n) (hp : p k = true) (h : ∀ i, i < k → p i = false) : (List.range n).find? p = some k := by
  rw [List.find?_range_eq_some]
  exact ⟨hp, List.mem_range.2 hk, fun i hi => by simp [h i hi]⟩
theorem find_no {p : Nat → Bool} {n : Nat} (h : ∀ i, i < n → p i = false) : (List.range n).find? p = none := by
  rw [List.find?_range_eq_none]
  exact fun i hi => by simp [h i hi]
theorem notIn_int {k : Nat} {L : List Nat} (h : k ∉ L) : ∀ i ∈ L, (k : Int) ≠ (i : Int) := by
  intro i hi e
  obtain rfl : k = i := by omega
  exact h hi
def bank_Order.f (k : Nat) (l0 : List Int) (l1 l2 : List (List Int)) : Option (List Int × Bool) :=
  (bank_May.f k l0 l1 l2).bind fun m => if m = true then some (bank_run (fun i => rd_L1 l1 (i : Int)) (fun i => rd_L1 l2 (i : Int)) l1.length l1.length l0 (List.range l1.length) []) else some ([], false)
theorem bank_Order.mono : ∀ a0 a1 a2 k, LeO (bank_Order.f k a0 a1 a2) (bank_Order.f (k + 1) a0 a1 a2) := by
  intro a0 a1 a2 k r h
  unfold bank_Order.f at h ⊢
  obtain ⟨m, hm, h⟩ := Option.bind_eq_some_iff.mp h
  rw [bank_May.mono a0 a1 a2 k m hm]
  exact h
set_option maxHeartbeats 16000000 in
set_option maxRecDepth 100000 in
theorem bank_Order.calls (k : Nat) (A0 : Option Addr) (c0 : Nat) (l0 : List Int) (A1 : Option Addr) (c1 : Nat) (l1 : List (List Int)) (A2 : Option Addr) (c2 : Nat) (l2 : List (List Int)) (r1 : List Int) (r2 : Bool) (w : World) (hr0 : Kd.C (Kd.int .i64) w A0 l0.length l0) (hc0 : l0.length ≤ c0) (hr1 : Kd.C (Kd.slice 3 (Kd.int .i64)) w A1 l1.length l1) (hc1 : l1.length ≤ c1) (hr2 : Kd.C (Kd.slice 3 (Kd.int .i64)) w A2 l2.length l2) (hc2 : l2.length ≤ c2) (h : bank_Order.f k l0 l1 l2 = some (r1, r2)) :
    Calls Try.prog 10 #[.slice A0 l0.length c0, .slice A1 l1.length c1, .slice A2 l2.length c2] w fun e w' => ∃ v0_ : Value, e = .returned (.tuple #[v0_, .bool r2]) ∧ Kd.R (Kd.int .i64) 3 w' w.heap.size (fun _ => True) v0_ r1 ∧ Below w.heap.size w w' := by
  unfold bank_Order.f at h
  obtain ⟨m, hm, h⟩ := Option.bind_eq_some_iff.mp h
  have HR0 := Aside0.mk hr0
  have HC0 := Aside0.mk hc0
  have HR1 := Aside0.mk hr1
  have HC1 := Aside0.mk hc1
  have HR2 := Aside0.mk hr2
  have HC2 := Aside0.mk hc2
  have HB := Aside0.mk (Below.refl w.heap.size w)
  have HMAY := Aside0.mk hm
  cases m with
  | false =>
    rw [if_neg (by simp)] at h
    have e := Option.some.inj h
    obtain ⟨rfl, rfl⟩ := Prod.mk.inj e
    clear hr0 hc0 hr1 hc1 hr2 hc2 hm h e
    go_enter Try.func10, Try.ntmps10
    go_wp2
    go_step3
    go_wp2_with (first
      | ((with_reducible refine gate_callee (f := 12) rfl ?_); refine goesL_ (some 13) rfl rfl Try.func12 (by kernel_rfl) rfl #[.slice A0 l0.length c0, .slice A1 l1.length c1, .slice A2 l2.length c2] rfl (by (try simp only [List.map_toArray, List.map_cons, List.map_nil]); first | done | rfl) ?_; (with_reducible refine (bank_May.calls k _ _ l0 _ _ l1 _ _ l2 false _ (Kd.C_below HR0.out HB.out) HC0.out (Kd.C_below HR1.out HB.out) HC1.out (Kd.C_below HR2.out HB.out) HC2.out HMAY.out).mono ?_); rintro e w13 ⟨rfl, hb⟩; refine ⟨_, rfl, ?_⟩; have n0_ := Aside0.mk (below_step HB.out hb); clear HB; have HB := n0_; clear n0_ hb))
    (try rw [Exit.noGoto_ret])
    refine bodyPost_ret (results_tmp2 rfl _ _ _) rfl ?_
    exact ⟨_, rfl, Kd.R_nil _ _ _ _ _, HB.out⟩
  | true =>
    rw [if_pos rfl] at h
    have hok := bank_May_true hm
    have OK := Aside0.mk hok
    have HRUN := Aside0.mk (Option.some.inj h)
    clear hr0 hc0 hr1 hc1 hr2 hc2 hm h hok
    have hu35 := Try.underlying35
    have hu37 := Try.underlying37
    go_enter Try.func10, Try.ntmps10
    go_wp2
    go_step3
    go_wp2_with (first
      | ((with_reducible refine gate_callee (f := 12) rfl ?_); refine goesL_ (some 13) rfl rfl Try.func12 (by kernel_rfl) rfl #[.slice A0 l0.length c0, .slice A1 l1.length c1, .slice A2 l2.length c2] rfl (by (try simp only [List.map_toArray, List.map_cons, List.map_nil]); first | done | rfl) ?_; (with_reducible refine (bank_May.calls k _ _ l0 _ _ l1 _ _ l2 true _ (Kd.C_below HR0.out HB.out) HC0.out (Kd.C_below HR1.out HB.out) HC1.out (Kd.C_below HR2.out HB.out) HC2.out HMAY.out).mono ?_); rintro e w13 ⟨rfl, hb⟩; refine ⟨_, rfl, ?_⟩; have n0_ := Aside0.mk (below_step HB.out hb); clear HB; have HB := n0_; clear n0_ hb)
      | ((with_reducible refine gate_callee (f := 20) rfl ?_); refine goesL_ (some 18) rfl rfl Try.func20 (by kernel_rfl) rfl #[.slice A0 l0.length c0, .slice A1 l1.length c1, .slice A2 l2.length c2] rfl (by (try simp only [List.map_toArray, List.map_cons, List.map_nil]); first | done | rfl) ?_; (with_reducible refine (bank_begin.calls _ _ l0 _ _ l1 _ _ l2 _ (Kd.C_below HR0.out HB.out) HC0.out (Kd.C_below HR1.out HB.out) HC1.out (Kd.C_below HR2.out HB.out) HC2.out ?sideE ?sideN ?sideL).mono ?_); (case sideE => exact Nat.le_of_eq OK.out.eq); (case sideN => exact OK.out.n32); (case sideL => exact OK.out.n6); rintro e w18 ⟨tv, bh, bc, rfl, ho, hmh, hmc, hgh, hgc, hne, hb⟩; refine ⟨_, rfl, ?_⟩; obtain ⟨At, ct, et⟩ := Kd.R_slice ho; subst et; have n0_ := Aside0.mk (below_step HB.out hb); have HO := Aside0.mk (Kd.R_lower ho (below_size HB.out)); have MH : Aside0 (w18.heap[bh]? = some (mapO (rowV w A1) (List.range l1.length) l1.length)) := ⟨hmh.trans (congrArg some (mapO_congr (fun i hi => rowV_later HR1.out HB.out i (List.mem_range.1 hi))))⟩; have MC : Aside0 (w18.heap[bc]? = some (mapO (rowV w A2) (List.range l1.length) l1.length)) := ⟨hmc.trans (congrArg some (mapO_congr (fun i hi => rowV_later HR2.out HB.out i (by have := OK.out.eq; have := List.mem_range.1 hi; omega))))⟩; have GEH := Aside0.mk (Nat.le_trans (below_size HB.out) hgh); have GEC := Aside0.mk (Nat.le_trans (below_size HB.out) hgc); have NHC := Aside0.mk hne; clear HB; have HB := n0_; clear n0_ ho hmh hmc hgh hgc hne hb)
      | ((with_reducible refine gate_dst (N := 8) rfl ?_); refine box_event ?hg (N := 8) ?hd (cs := #[.slice none 0 0, .map none, .map none]) (t := 37) ?hr ?_; (case hd => rfl); (case hg => rfl); (case hr => first | (go_simp; done) | (go_simp; rfl)); intro g8 hg w8 hbox hb; have n0_ := Aside0.mk (below_step HB.out hb); have n2_ := Aside0.mk (Kd.R_below HO.out hb); have n3_ := Aside0.mk (blk_below MH.out hb); have n4_ := Aside0.mk (blk_below MC.out hb); have BK8 := Aside0.mk hbox; have GE8 := Aside0.mk ((by rw [hg]; exact (below_size HB.out)) : w.heap.size ≤ g8); have hcz0 : w8.cell? ⟨g8, 0, none⟩ = some (.slice none 0 0) := (blk_cell hbox 0).trans rfl; have hcz1 : w8.cell? ⟨g8, 1, none⟩ = some (.map none) := (blk_cell hbox 1).trans rfl; have hcz2 : w8.cell? ⟨g8, 2, none⟩ = some (.map none) := (blk_cell hbox 2).trans rfl; have hfz0 : w8.frozen? ⟨g8, 0, none⟩ = false := blk_frozen hbox 0; have hfz1 : w8.frozen? ⟨g8, 1, none⟩ = false := blk_frozen hbox 1; have hfz2 : w8.frozen? ⟨g8, 2, none⟩ = false := blk_frozen hbox 2; clear HB HO MH MC; have HB := n0_; have HO := n2_; have MH := n3_; have MC := n4_; clear n0_ n2_ n3_ n4_; clear hg hbox hb))
    have NH8 := map_ne_cells MH.out BK8.out
    have NC8 := map_ne_cells MC.out BK8.out
    have n0_ := Aside0.mk (blk_put (cs' := #[.slice At l0.length ct, .map (some bh), .map (some bc)]) (blk_put (cs' := #[.slice At l0.length ct, .map (some bh), .map none]) (blk_put (cs' := #[.slice At l0.length ct, .map none, .map none]) BK8.out 0 (.slice At l0.length ct) rfl) 1 (.map (some bh)) rfl) 2 (.map (some bc)) rfl)
    have n2_ := Aside0.mk (obj_far (obj_far (obj_far MH.out (p := ⟨g8, 0, none⟩) NH8 (.slice At l0.length ct)) (p := ⟨g8, 1, none⟩) NH8 (.map (some bh))) (p := ⟨g8, 2, none⟩) NH8 (.map (some bc)))
    have n3_ := Aside0.mk (obj_far (obj_far (obj_far MC.out (p := ⟨g8, 0, none⟩) NC8 (.slice At l0.length ct)) (p := ⟨g8, 1, none⟩) NC8 (.map (some bh))) (p := ⟨g8, 2, none⟩) NC8 (.map (some bc)))
    have n4_ := Aside0.mk (Kd.R_far (Kd.R_far (Kd.R_far (Kd.R_types HO.out BK8.out (by intro q hq; rcases List.mem_cons.1 hq with rfl | hq; exact (by decide); cases hq)) (p := ⟨g8, 0, none⟩) (fun k hk => hk.2) (.slice At l0.length ct)) (p := ⟨g8, 1, none⟩) (fun k hk => hk.2) (.map (some bh))) (p := ⟨g8, 2, none⟩) (fun k hk => hk.2) (.map (some bc)))
    have n5_ := Aside0.mk (below_set (j := 2) (v := .map (some bc)) (below_set (j := 1) (v := .map (some bh)) (below_set (j := 0) (v := .slice At l0.length ct) HB.out GE8.out) GE8.out) GE8.out)
    clear BK8 MH MC HO HB hcz0 hcz1 hcz2 hfz0 hfz1 hfz2 NH8 NC8
    generalize (((w8.setCell { block := g8, off := 0 } (Value.slice At l0.length ct)).setCell { block := g8, off := 1 } (Value.map (some bh))).setCell { block := g8, off := 2 } (Value.map (some bc))) = w9 at n0_ n2_ n3_ n4_ n5_ ⊢
    have BK8 := n0_
    have MH := n2_
    have MC := n3_
    have HO := Aside0.mk (Kd.R_mono (ok' := fun _ => True) n4_.out (fun _ _ => trivial))
    have HB := n5_
    clear n0_ n2_ n3_ n4_ n5_
    go_step3
    go_wp2
    have N32 := Aside0.mk OK.out.n32
    have HN : Aside0 ((l1.length : Int) ≤ 32) := ⟨by have := N32.out; omega⟩
    go_loopg [6] l1.length (fun g v6 wx => ∃ (th : List Int) (L : List Nat) (out : List Int), Aside0 (L.length = g ∧ L.Nodup ∧ (∀ i ∈ L, i < l1.length) ∧ out.length + g = l1.length) ∧ Aside0 (th.length = l0.length ∧ ∀ j : Nat, j < l0.length → 0 ≤ rd th j ∧ rd th j + 1000 * g ≤ 33000) ∧
      Aside0 (bank_run (fun i => rd_L1 l1 (i : Int)) (fun i => rd_L1 l2 (i : Int)) l1.length g th L out = (r1, r2)) ∧ Aside0 (Kd.R (Kd.int .i64) 3 wx w.heap.size (fun _ => True) (.slice At l0.length ct) th) ∧ Aside0 (wx.heap[bh]? = some (mapO (rowV w A1) L l1.length)) ∧ Aside0 (wx.heap[bc]? = some (mapO (rowV w A2) (List.range l1.length) l1.length)) ∧
      Aside0 (wx.heap[g8]? = some (.cells #[.slice At l0.length ct, .map (some bh), .map (some bc)] 37 (0, 0))) ∧ Aside0 (Kd.R (Kd.int .i64) 3 wx w.heap.size (fun q => some q ≠ (Value.slice At l0.length ct).ownBlock ∧ q ≠ bh) v6 out) ∧ Aside0 (Below w.heap.size w wx))
    case atStart =>
      refine ⟨l0, List.range l1.length, [], ⟨by simp, List.nodup_range, fun i hi => List.mem_range.1 hi, by simp⟩, ⟨rfl, fun j hj => ?_⟩, HRUN, HO, MH, MC, BK8, ⟨Kd.R_nil _ _ _ _ _⟩, HB⟩
      have := OK.out.av j hj
      have := OK.out.n32
      omega
    case round =>
      obtain ⟨th, L, out, HL, HTH, HRUN, HO, MH, MC, BK8, OUT, HB⟩ := hrel
      have hc81 : wr.cell? ⟨g8, 1, none⟩ = some (.map (some bh)) := (blk_cell BK8.out 1).trans rfl
      cases gk with
      | zero =>
        have hl0 : decide (0 < L.length) = false := decide_eq_false (by have := HL.out.1; omega)
        go_wp2_with (first
          | (at_len; refine Kd.event_run rfl (exec_len rfl rfl (mlen Try.underlying35 MH.out _)) ?_))
        (try rw [Exit.noGoto_ret])
        refine bodyPost_ret (results_tmp2 rfl _ _ _) rfl ?_
        have e := HRUN.out
        simp only [bank_run] at e
        obtain ⟨rfl, rfl⟩ := Prod.mk.inj e
        exact ⟨_, rfl, Kd.R_mono OUT.out (fun _ _ => trivial), HB.out⟩
      | succ gk =>
        have hl0 : decide (0 < L.length) = true := decide_eq_true (by have := HL.out.1; omega)
        go_wp2_with (first
          | (at_len; refine Kd.event_run rfl (exec_len rfl rfl (mlen Try.underlying35 MH.out _)) ?_))
        clear hl0 hc81
        go_loopw [6, 25] (fun v i wx => v = u6 ∧ ∃ k : Nat, k ≤ l1.length ∧ i = .int .i64 (k : Int) ∧ Aside0 (∀ j, j < k → (decide (j ∈ L) && canTo th (rd_L1 l1 (j : Int)) (rd_L1 l2 (j : Int)) (rd_L1 l2 (j : Int)).length) = false) ∧ Aside0 (Kd.R (Kd.int .i64) 3 wx w.heap.size (fun _ => True) (.slice At l0.length ct) th) ∧ Aside0 (wx.heap[bh]? = some (mapO (rowV w A1) L l1.length)) ∧ Aside0 (wx.heap[bc]? = some (mapO (rowV w A2) (List.range l1.length) l1.length)) ∧
          Aside0 (wx.heap[g8]? = some (.cells #[.slice At l0.length ct, .map (some bh), .map (some bc)] 37 (0, 0))) ∧ Aside0 (Kd.R (Kd.int .i64) 3 wx w.heap.size (fun q => some q ≠ (Value.slice At l0.length ct).ownBlock ∧ q ≠ bh) u6 out) ∧ Aside0 (Below w.heap.size w wx)) (fun _ i _ => l1.length - (intOf i).toNat)
        case atStart => exact ⟨rfl, 0, Nat.zero_le _, rfl, ⟨fun j hj => absurd hj (Nat.not_lt_zero j)⟩, HO, MH, MC, BK8, OUT, HB⟩
        case round =>
          clear HO MH MC BK8 OUT HB
          obtain ⟨rfl, k, hk, rfl, NO, HO, MH, MC, BK8, OUT, HB⟩ := hrel
          by_cases hlt : k < l1.length
          · have hki : (k : Int) < (l1.length : Int) := by omega
            have hc80 : wr.cell? ⟨g8, 0, none⟩ = some (.slice At l0.length ct) := (blk_cell BK8.out 0).trans rfl
            have hc81 : wr.cell? ⟨g8, 1, none⟩ = some (.map (some bh)) := (blk_cell BK8.out 1).trans rfl
            have hc82 : wr.cell? ⟨g8, 2, none⟩ = some (.map (some bc)) := (blk_cell BK8.out 2).trans rfl
            have hw3 : (k : Int) ≤ 9223372036854775806 := by have := N32.out; omega
            have HK := Aside0.mk hlt
            by_cases hkL : k ∈ L
            · obtain ⟨ad1, Ah, ch, e1, _, eh, hlh, hRh⟩ := rowV_at HR1.out k hlt
              obtain ⟨ad2, Ac, cc, e2, _, ec, hlc, hRc⟩ := rowV_at HR2.out k (by have := OK.out.eq; omega)
              have OH := OK.out.hl k hlt
              have OC := OK.out.cl k hlt
              obtain ⟨hq1, hq2, hT⟩ := Kd.R_reads' HO.out
              clear hq1 hq2
              have CAN := bank_state_can.at bh bc k wr At th ct hT (rowV w A1) (rowV w A2) L (List.range l1.length) _ _ MH.out MC.out hkL (List.mem_range.2 hlt) Ah (rd_L1 l1 (k : Int)) ch eh (Kd.C_below hRh HB.out) Ac (rd_L1 l2 (k : Int)) cc ec (Kd.C_below hRc HB.out) (by rw [OH.1, OC.1]) (by rw [OC.1, HTH.out.1]) (by rw [OC.1]; exact OK.out.n6) (fun q hq => ⟨(OH.2 q (by rw [OC.1] at hq; exact hq)).1, (OH.2 q (by rw [OC.1] at hq; exact hq)).2, (OC.2 q (by rw [OC.1] at hq; exact hq)).1, (OC.2 q (by rw [OC.1] at hq; exact hq)).2⟩)
              rw [HTH.out.1] at CAN
              have EH := Aside0.mk eh
              have RH := Aside0.mk hRh
              have KL := Aside0.mk hkL
              have OHH := Aside0.mk OH
              have C0 := Aside0.mk CAN
              clear CAN hT eh hRh hkL OH OC ec hRc hlh hlc e1 e2 hk hlt
              cases hcan : canTo th (rd_L1 l1 (k : Int)) (rd_L1 l2 (k : Int)) (rd_L1 l2 (k : Int)).length with
              | false =>
                have CAN := C0
                rw [hcan] at CAN
                have HCAN := Aside0.mk hcan
                clear C0 hcan
                go_wp2_with (first
                  | ((with_reducible refine gate_callee (f := 21) rfl ?_); refine goesL_ (some 30) rfl rfl Try.func21 (by kernel_rfl) rfl #[.agg #[.slice At l0.length ct, .map (some bh), .map (some bc)], .int .i64 (k : Int)] rfl (by (try simp only [List.map_toArray, List.map_cons, List.map_nil]); first | done | rfl) ?_; (with_reducible refine CAN.out.mono ?_); rintro e w30 ⟨rfl, hb⟩; refine ⟨_, rfl, ?_⟩; have NB := Aside0.mk hb; clear hb))
                refine ⟨⟨rfl, k + 1, HK.out, by go_num, ⟨fun j hj => ?_⟩, ⟨Kd.R_below HO.out NB.out⟩, ⟨blk_below MH.out NB.out⟩, ⟨blk_below MC.out NB.out⟩, ⟨blk_below BK8.out NB.out⟩, ⟨Kd.R_below OUT.out NB.out⟩, ⟨below_step HB.out NB.out⟩⟩, by have := HK.out; simp [intOf]; omega⟩
                by_cases e : j = k
                · subst e; rw [HCAN.out, Bool.and_false]
                · exact NO.out j (by omega)
              | true =>
                have CAN := C0
                rw [hcan] at CAN
                have CBD : Aside0 (∀ q : Nat, q < (rd_L1 l1 (k : Int)).length → 0 ≤ rd (rd_L1 l1 (k : Int)) q ∧ rd (rd_L1 l1 (k : Int)) q ≤ 1000 ∧ 0 ≤ rd th q ∧ rd th q ≤ 1000000) := ⟨fun q hq => by
                  have q0 : q < l0.length := by rw [← OHH.out.1]; exact hq
                  have q1 := HTH.out.2 q q0
                  have q2 := OHH.out.2 q q0
                  omega⟩
                have HCAN := Aside0.mk hcan
                clear C0 hcan
                go_wp2_with (first
                  | ((with_reducible refine gate_callee (f := 21) rfl ?_); refine goesL_ (some 30) rfl rfl Try.func21 (by kernel_rfl) rfl #[.agg #[.slice At l0.length ct, .map (some bh), .map (some bc)], .int .i64 (k : Int)] rfl (by (try simp only [List.map_toArray, List.map_cons, List.map_nil]); first | done | rfl) ?_; (with_reducible refine CAN.out.mono ?_); rintro e w30 ⟨rfl, hb⟩; refine ⟨_, rfl, ?_⟩; have n0_ := Aside0.mk (Kd.R_below HO.out hb); have n1_ := Aside0.mk (blk_below MH.out hb); have n2_ := Aside0.mk (blk_below MC.out hb); have n3_ := Aside0.mk (blk_below BK8.out hb); have n4_ := Aside0.mk (Kd.R_below OUT.out hb); have n5_ := Aside0.mk (below_step HB.out hb); clear HO MH MC BK8 OUT HB; have HO := n0_; have MH := n1_; have MC := n2_; have BK8 := n3_; have OUT := n4_; have HB := n5_; clear n0_ n1_ n2_ n3_ n4_ n5_; clear hb hc80 hc81 hc82; have hc80 : w30.cell? ⟨g8, 0, none⟩ = some (.slice At l0.length ct) := (blk_cell BK8.out 0).trans rfl; have hc81 : w30.cell? ⟨g8, 1, none⟩ = some (.map (some bh)) := (blk_cell BK8.out 1).trans rfl; have hc82 : w30.cell? ⟨g8, 2, none⟩ = some (.map (some bc)) := (blk_cell BK8.out 2).trans rfl)
                  | ((with_reducible refine gate_callee (f := 22) rfl ?_); refine goesL_ (some 33) rfl rfl Try.func22 (by kernel_rfl) rfl #[.agg #[.slice At l0.length ct, .map (some bh), .map (some bc)], .int .i64 (k : Int)] rfl (by (try simp only [List.map_toArray, List.map_cons, List.map_nil]); first | done | rfl) ?_; have CO := bank_state_complete.calls (.slice At l0.length ct) bh bc k w w30 th (fun _ => True) HO.out HB.out (rowV w A1) L l1.length MH.out GEH.out KL.out Ah (rd_L1 l1 (k : Int)) ch EH.out RH.out (by rw [OHH.out.1, HTH.out.1]) (by rw [OHH.out.1]; exact OK.out.n6) CBD.out; (with_reducible refine CO.mono ?_); clear CO; rintro e w33 ⟨rfl, ho, hm, hk_, hbl, hs⟩; refine ⟨_, rfl, ?_⟩; have n0_ := Aside0.mk ho; have n1_ := Aside0.mk hm; have n2_ := Aside0.mk ((hk_ bc (blk_lt MC.out) (own_ne_map HO.out MC.out) (Ne.symm NHC.out)).trans MC.out); have n3_ := Aside0.mk ((hk_ g8 (blk_lt BK8.out) (Kd.R_ne HO.out BK8.out (by decide)) (Ne.symm (map_ne_cells MH.out BK8.out))).trans BK8.out); have n4_ := Aside0.mk (Kd.R_step OUT.out (fun q ho_ hq_ => hk_ q hq_ ho_.1 ho_.2)); have n5_ := Aside0.mk hbl; clear HO MH MC BK8 OUT HB; have HO := n0_; have MH := n1_; have MC := n2_; have BK8 := n3_; have OUT := n4_; have HB := n5_; clear n0_ n1_ n2_ n3_ n4_ n5_; clear ho hm hk_ hbl hs hc80 hc81 hc82)
                  | ((with_reducible refine gate_builtin (b := .append) (xs := #[.tmp 34, .tmp 36]) rfl ?_); at_builtin; refine Kd.R_append (Kd.int .i64) (w0 := w) w.heap.size rfl (.tmp 34) (.tmp 36) 22 3 (.int .i64 0) 8 rfl Try.underlying22 info3 rfl (by decide) (by omega) u6 out (k : Int) [.int .i64 (k : Int)] (fun q => some q ≠ (Value.slice At l0.length ct).ownBlock ∧ q ≠ bh) (fun _ => False) rfl rfl ?aP (fun _ hk => hk.elim) ?aF ?aO ?aB ?aS ?aL ?_; (case aP => exact rfl); (case aB => exact HB.out); (case aF => exact (fun q hq => ⟨fun e => by have := Kd.R_lt HO.out q e.symm; omega, fun e => by have := blk_lt MH.out; omega⟩)); (case aO => exact OUT.out); (case aS => exact (below_size HB.out)); (case aL => have := HL.out.2.2.2; have := N32.out; omega); intro v37 w37 ho hb hg hat; have n0_ := Aside0.mk (Kd.R_grown2 HO.out rfl hg (fun q hq => (OUT.out.1 q hq).1)); have n1_ := Aside0.mk ((hg.block bh (blk_lt MH.out) (own_ne_map OUT.out MH.out)).trans MH.out); have n2_ := Aside0.mk ((hg.block bc (blk_lt MC.out) (own_ne_map OUT.out MC.out)).trans MC.out); have n3_ := Aside0.mk ((hg.block g8 (blk_lt BK8.out) (Kd.R_ne OUT.out BK8.out (by decide))).trans BK8.out); have n4_ := Aside0.mk ho; have n5_ := Aside0.mk hb; clear HO MH MC BK8 OUT HB; have HO := n0_; have MH := n1_; have MC := n2_; have BK8 := n3_; have OUT := n4_; have HB := n5_; clear n0_ n1_ n2_ n3_ n4_ n5_; clear ho hb hg hat))
                go_roundg gk
                case measure => omega
                case rel =>
                  refine ⟨addN th (rd_L1 l1 (k : Int)) (rd_L1 l1 (k : Int)).length, L.erase k, out ++ [(k : Int)], ⟨?_, HL.out.2.1.erase k, fun i hi => HL.out.2.2.1 i (List.mem_of_mem_erase hi), ?_⟩, ⟨?_, fun j hj => ?_⟩, ⟨?_⟩, HO, MH, MC, BK8, OUT, HB⟩
                  · rw [List.length_erase_of_mem KL.out, HL.out.1]; rfl
                  · have := HL.out.2.2.2; simp; omega
                  · rw [addN_len]; exact HTH.out.1
                  · rw [addN_at]
                    have q1 := HTH.out.2 j hj
                    have q2 := OHH.out.2 j hj
                    split <;> omega
                  · have e := HRUN.out
                    simp only [bank_run] at e
                    rw [find_first (k := k) HK.out (by rw [decide_eq_true KL.out, HCAN.out]; rfl) NO.out] at e
                    exact e
            · have CAN := Aside0.mk (bank_state_can.no (.slice At l0.length ct) bh bc (k : Int) wr At l0.length ct rfl _ L _ MH.out (notIn_int hkL))
              have KL := Aside0.mk hkL
              clear hkL hk hlt
              go_wp2_with (first
                | ((with_reducible refine gate_callee (f := 21) rfl ?_); refine goesL_ (some 30) rfl rfl Try.func21 (by kernel_rfl) rfl #[.agg #[.slice At l0.length ct, .map (some bh), .map (some bc)], .int .i64 (k : Int)] rfl (by (try simp only [List.map_toArray, List.map_cons, List.map_nil]); first | done | rfl) ?_; (with_reducible refine CAN.out.mono ?_); rintro e w30 ⟨rfl, hb⟩; refine ⟨_, rfl, ?_⟩; have NB := Aside0.mk hb; clear hb))
              refine ⟨⟨rfl, k + 1, HK.out, by go_num, ⟨fun j hj => ?_⟩, ⟨Kd.R_below HO.out NB.out⟩, ⟨blk_below MH.out NB.out⟩, ⟨blk_below MC.out NB.out⟩, ⟨blk_below BK8.out NB.out⟩, ⟨Kd.R_below OUT.out NB.out⟩, ⟨below_step HB.out NB.out⟩⟩, by have := HK.out; simp [intOf]; omega⟩
              by_cases e : j = k
              · subst e; rw [decide_eq_false KL.out]; rfl
              · exact NO.out j (by omega)
          · obtain rfl : k = l1.length := by omega
            clear hk hlt
            have hki : ¬ ((l1.length : Int) < (l1.length : Int)) := by omega
            go_wp2
            (try rw [Exit.noGoto_ret])
            refine bodyPost_ret (results_tmp2 rfl _ _ _) rfl ?_
            have e := HRUN.out
            simp only [bank_run] at e
            rw [find_no NO.out] at e
            obtain ⟨rfl, rfl⟩ := Prod.mk.inj e
            exact ⟨_, rfl, Kd.R_nil _ _ _ _ _, HB.out⟩

end Go.Proofs.Ytlngcnijlijplaa.PBank
