-- Written by a program of this session (over the kit's printer): not typed by hand.
import Derived.Test.YtlngcnijlijplaaPBankx0
import Derived.Test.YtlngcnijlijplaaPBankx4
import Derived.Test.YtlngcnijlijplaaPBankx6
import Derived.Test.YtlngcnijlijplaaPBankx7
import Derived.Test.YtlngcnijlijplaaPBankx8
import Derived.WalkMore
namespace Go.Proofs.Ytlngcnijlijplaa.PBank
open Go.RowKit Go.Proofs.YtlngcnijlijplaaW.PrintWords Go.Proofs.YtlngcnijlijplaaW.PrintLast Go.Proofs.YtlngcnijlijplaaW.PrintMore
attribute [local go_sem] max2_int min2_int max_two min_two max_three min_three max_four min_four   -- for this text's walks alone
set_option linter.unusedVariables false
set_option linter.unusedSimpArgs false

/-! ### bank_Completes: function 17 -/
/-- The order gone through: each can when its turn comes. -/
def bank_comp (H C : Nat → List Int) : List Int → List Int → List Nat → Bool
  | [], _, _ => true
  | x :: r, th, L => if 0 ≤ x ∧ x.toNat ∈ L ∧ canTo th (H x.toNat) (C x.toNat) (C x.toNat).length = true then bank_comp H C r (addN th (H x.toNat) (H x.toNat).length) (L.erase x.toNat) else false
theorem bank_comp_no {H C : Nat → List Int} {x : Int} {r th : List Int} {L : List Nat} (h : ¬ (0 ≤ x ∧ x.toNat ∈ L ∧ canTo th (H x.toNat) (C x.toNat) (C x.toNat).length = true)) : bank_comp H C (x :: r) th L = false := by
  rw [bank_comp, if_neg h]
theorem bank_comp_yes {H C : Nat → List Int} {k : Nat} {r th : List Int} {L : List Nat} (h1 : k ∈ L) (h2 : canTo th (H k) (C k) (C k).length = true) : bank_comp H C ((k : Int) :: r) th L = bank_comp H C r (addN th (H k) (H k).length) (L.erase k) := by
  rw [bank_comp, if_pos ⟨by omega, by rw [Int.toNat_natCast]; exact ⟨h1, h2⟩⟩, Int.toNat_natCast]
theorem drop_rd {l : List Int} {j : Nat} (h : j < l.length) : l.drop j = rd l (j : Int) :: l.drop (j + 1) := by
  rw [List.drop_eq_getElem_cons h]
  congr 1
  simp [rd, h]
def bank_Completes.f (k : Nat) (l0 : List Int) (l1 l2 : List (List Int)) (l3 : List Int) : Option Bool :=
  (bank_May.f k l0 l1 l2).bind fun m => if m = true then (if l3.length = l1.length then some (bank_comp (fun i => rd_L1 l1 (i : Int)) (fun i => rd_L1 l2 (i : Int)) l3 l0 (List.range l1.length)) else some false) else some false
theorem bank_Completes.mono : ∀ a0 a1 a2 a3 k, LeO (bank_Completes.f k a0 a1 a2 a3) (bank_Completes.f (k + 1) a0 a1 a2 a3) := by
  intro a0 a1 a2 a3 k r h
  unfold bank_Completes.f at h ⊢
  obtain ⟨m, hm, h⟩ := Option.bind_eq_some_iff.mp h
  rw [bank_May.mono a0 a1 a2 k m hm]
  exact h
set_option maxHeartbeats 16000000 in
set_option maxRecDepth 100000 in
theorem bank_Completes.calls (k : Nat) (A0 : Option Addr) (c0 : Nat) (l0 : List Int) (A1 : Option Addr) (c1 : Nat) (l1 : List (List Int)) (A2 : Option Addr) (c2 : Nat) (l2 : List (List Int)) (A3 : Option Addr) (c3 : Nat) (l3 : List Int) (r1 : Bool) (w : World) (hr0 : Kd.C (Kd.int .i64) w A0 l0.length l0) (hc0 : l0.length ≤ c0) (hr1 : Kd.C (Kd.slice 3 (Kd.int .i64)) w A1 l1.length l1) (hc1 : l1.length ≤ c1) (hr2 : Kd.C (Kd.slice 3 (Kd.int .i64)) w A2 l2.length l2) (hc2 : l2.length ≤ c2) (hr3 : Kd.C (Kd.int .i64) w A3 l3.length l3) (hc3 : l3.length ≤ c3) (h : bank_Completes.f k l0 l1 l2 l3 = some r1) :
    Calls Try.prog 17 #[.slice A0 l0.length c0, .slice A1 l1.length c1, .slice A2 l2.length c2, .slice A3 l3.length c3] w fun e w' => e = .returned (.bool r1) ∧ Below w.heap.size w w' := by
  unfold bank_Completes.f at h
  obtain ⟨m, hm, h⟩ := Option.bind_eq_some_iff.mp h
  have HR0 := Aside0.mk hr0
  have HC0 := Aside0.mk hc0
  have HR1 := Aside0.mk hr1
  have HC1 := Aside0.mk hc1
  have HR2 := Aside0.mk hr2
  have HC2 := Aside0.mk hc2
  have HR3 := Aside0.mk hr3
  have HC3 := Aside0.mk hc3
  have HB := Aside0.mk (Below.refl w.heap.size w)
  have HMAY := Aside0.mk hm
  cases m with
  | false =>
    rw [if_neg (by simp)] at h
    obtain rfl := Option.some.inj h
    clear hr0 hc0 hr1 hc1 hr2 hc2 hr3 hc3 hm h
    go_enter Try.func17, Try.ntmps17
    go_wp2_with (first
      | ((with_reducible refine gate_callee (f := 12) rfl ?_); refine goesL_ (some 15) rfl rfl Try.func12 (by kernel_rfl) rfl #[.slice A0 l0.length c0, .slice A1 l1.length c1, .slice A2 l2.length c2] rfl (by (try simp only [List.map_toArray, List.map_cons, List.map_nil]); first | done | rfl) ?_; (with_reducible refine (bank_May.calls k _ _ l0 _ _ l1 _ _ l2 false _ (Kd.C_below HR0.out HB.out) HC0.out (Kd.C_below HR1.out HB.out) HC1.out (Kd.C_below HR2.out HB.out) HC2.out HMAY.out).mono ?_); rintro e w13 ⟨rfl, hb⟩; refine ⟨_, rfl, ?_⟩; have n0_ := Aside0.mk (below_step HB.out hb); clear HB; have HB := n0_; clear n0_ hb))
    refine bodyPost_ret (results_tmp rfl _ _ _) rfl ?_
    exact ⟨rfl, HB.out⟩
  | true =>
    rw [if_pos rfl] at h
    by_cases hlen : l3.length = l1.length
    case neg =>
      rw [if_neg hlen] at h
      obtain rfl := Option.some.inj h
      have hle : decide (l3.length = l1.length) = false := decide_eq_false hlen
      have hle' : ((l3.length : Int) == (l1.length : Int)) = false := beq_eq_false_iff_ne.2 (by omega)
      have hle2 : ((l3.length : Int) != (l1.length : Int)) = true := bne_iff_ne.2 (by omega)
      have hle3 : ¬ ((l3.length : Int) = (l1.length : Int)) := by omega
      clear hr0 hc0 hr1 hc1 hr2 hc2 hr3 hc3 hm h
      go_enter Try.func17, Try.ntmps17
      go_wp2_with (first
      | ((with_reducible refine gate_callee (f := 12) rfl ?_); refine goesL_ (some 15) rfl rfl Try.func12 (by kernel_rfl) rfl #[.slice A0 l0.length c0, .slice A1 l1.length c1, .slice A2 l2.length c2] rfl (by (try simp only [List.map_toArray, List.map_cons, List.map_nil]); first | done | rfl) ?_; (with_reducible refine (bank_May.calls k _ _ l0 _ _ l1 _ _ l2 true _ (Kd.C_below HR0.out HB.out) HC0.out (Kd.C_below HR1.out HB.out) HC1.out (Kd.C_below HR2.out HB.out) HC2.out HMAY.out).mono ?_); rintro e w13 ⟨rfl, hb⟩; refine ⟨_, rfl, ?_⟩; have n0_ := Aside0.mk (below_step HB.out hb); clear HB; have HB := n0_; clear n0_ hb))
      refine bodyPost_ret (results_tmp rfl _ _ _) rfl ?_
      exact ⟨rfl, HB.out⟩
    rw [if_pos hlen] at h
    have hok := bank_May_true hm
    have OK := Aside0.mk hok
    have HRUN0 := Aside0.mk (Option.some.inj h)
    have HLEN := Aside0.mk hlen
    clear hr0 hc0 hr1 hc1 hr2 hc2 hr3 hc3 hm h hok
    have hu35 := Try.underlying35
    have hu37 := Try.underlying37
    have hle2 : ((l3.length : Int) != (l1.length : Int)) = false := by rw [bne, beq_iff_eq.2 (by omega)]; rfl
    have hle' : ((l3.length : Int) == (l1.length : Int)) = true := beq_iff_eq.2 (by omega)
    have hle3 : (l3.length : Int) = (l1.length : Int) := by omega
    clear hlen
    go_enter Try.func17, Try.ntmps17
    go_wp2_with (first
      | ((with_reducible refine gate_callee (f := 12) rfl ?_); refine goesL_ (some 15) rfl rfl Try.func12 (by kernel_rfl) rfl #[.slice A0 l0.length c0, .slice A1 l1.length c1, .slice A2 l2.length c2] rfl (by (try simp only [List.map_toArray, List.map_cons, List.map_nil]); first | done | rfl) ?_; (with_reducible refine (bank_May.calls k _ _ l0 _ _ l1 _ _ l2 true _ (Kd.C_below HR0.out HB.out) HC0.out (Kd.C_below HR1.out HB.out) HC1.out (Kd.C_below HR2.out HB.out) HC2.out HMAY.out).mono ?_); rintro e w13 ⟨rfl, hb⟩; refine ⟨_, rfl, ?_⟩; have n0_ := Aside0.mk (below_step HB.out hb); clear HB; have HB := n0_; clear n0_ hb)
      | ((with_reducible refine gate_callee (f := 20) rfl ?_); refine goesL_ (some 27) rfl rfl Try.func20 (by kernel_rfl) rfl #[.slice A0 l0.length c0, .slice A1 l1.length c1, .slice A2 l2.length c2] rfl (by (try simp only [List.map_toArray, List.map_cons, List.map_nil]); first | done | rfl) ?_; (with_reducible refine (bank_begin.calls _ _ l0 _ _ l1 _ _ l2 _ (Kd.C_below HR0.out HB.out) HC0.out (Kd.C_below HR1.out HB.out) HC1.out (Kd.C_below HR2.out HB.out) HC2.out ?sideE ?sideN ?sideL).mono ?_); (case sideE => exact Nat.le_of_eq OK.out.eq); (case sideN => exact OK.out.n32); (case sideL => exact OK.out.n6); rintro e w18 ⟨tv, bh, bc, rfl, ho, hmh, hmc, hgh, hgc, hne, hb⟩; refine ⟨_, rfl, ?_⟩; obtain ⟨At, ct, et⟩ := Kd.R_slice ho; subst et; have n0_ := Aside0.mk (below_step HB.out hb); have HO := Aside0.mk (Kd.R_lower ho (below_size HB.out)); have MH : Aside0 (w18.heap[bh]? = some (mapO (rowV w A1) (List.range l1.length) l1.length)) := ⟨hmh.trans (congrArg some (mapO_congr (fun i hi => rowV_later HR1.out HB.out i (List.mem_range.1 hi))))⟩; have MC : Aside0 (w18.heap[bc]? = some (mapO (rowV w A2) (List.range l1.length) l1.length)) := ⟨hmc.trans (congrArg some (mapO_congr (fun i hi => rowV_later HR2.out HB.out i (by have := OK.out.eq; have := List.mem_range.1 hi; omega))))⟩; have GEH := Aside0.mk (Nat.le_trans (below_size HB.out) hgh); have GEC := Aside0.mk (Nat.le_trans (below_size HB.out) hgc); have NHC := Aside0.mk hne; clear HB; have HB := n0_; clear n0_ ho hmh hmc hgh hgc hne hb)
      | ((with_reducible refine gate_dst (N := 9) rfl ?_); refine box_event ?hg (N := 9) ?hd (cs := #[.slice none 0 0, .map none, .map none]) (t := 37) ?hr ?_; (case hd => rfl); (case hg => rfl); (case hr => first | (go_simp; done) | (go_simp; rfl)); intro g8 hg w8 hbox hb; have n0_ := Aside0.mk (below_step HB.out hb); have n2_ := Aside0.mk (Kd.R_below HO.out hb); have n3_ := Aside0.mk (blk_below MH.out hb); have n4_ := Aside0.mk (blk_below MC.out hb); have BK8 := Aside0.mk hbox; have GE8 := Aside0.mk ((by rw [hg]; exact (below_size HB.out)) : w.heap.size ≤ g8); have hcz0 : w8.cell? ⟨g8, 0, none⟩ = some (.slice none 0 0) := (blk_cell hbox 0).trans rfl; have hcz1 : w8.cell? ⟨g8, 1, none⟩ = some (.map none) := (blk_cell hbox 1).trans rfl; have hcz2 : w8.cell? ⟨g8, 2, none⟩ = some (.map none) := (blk_cell hbox 2).trans rfl; have hfz0 : w8.frozen? ⟨g8, 0, none⟩ = false := blk_frozen hbox 0; have hfz1 : w8.frozen? ⟨g8, 1, none⟩ = false := blk_frozen hbox 1; have hfz2 : w8.frozen? ⟨g8, 2, none⟩ = false := blk_frozen hbox 2; clear HB HO MH MC; have HB := n0_; have HO := n2_; have MH := n3_; have MC := n4_; clear n0_ n2_ n3_ n4_; clear hg hbox hb))
    have NH8 := map_ne_cells MH.out BK8.out
    have NC8 := map_ne_cells MC.out BK8.out
    have n0_ := Aside0.mk (blk_put (cs' := #[.slice At l0.length ct, .map (some bh), .map (some bc)]) (blk_put (cs' := #[.slice At l0.length ct, .map (some bh), .map none]) (blk_put (cs' := #[.slice At l0.length ct, .map none, .map none]) BK8.out 0 (.slice At l0.length ct) rfl) 1 (.map (some bh)) rfl) 2 (.map (some bc)) rfl)
    have n2_ := Aside0.mk (obj_far (obj_far (obj_far MH.out (p := ⟨g8, 0, none⟩) NH8 (.slice At l0.length ct)) (p := ⟨g8, 1, none⟩) NH8 (.map (some bh))) (p := ⟨g8, 2, none⟩) NH8 (.map (some bc)))
    have n3_ := Aside0.mk (obj_far (obj_far (obj_far MC.out (p := ⟨g8, 0, none⟩) NC8 (.slice At l0.length ct)) (p := ⟨g8, 1, none⟩) NC8 (.map (some bh))) (p := ⟨g8, 2, none⟩) NC8 (.map (some bc)))
    have n4_ := Aside0.mk (Kd.R_far (Kd.R_far (Kd.R_far (Kd.R_types HO.out BK8.out (by intro q hq; rcases List.mem_cons.1 hq with rfl | hq; exact (by decide); cases hq)) (p := ⟨g8, 0, none⟩) (fun k hk => hk.2) (.slice At l0.length ct)) (p := ⟨g8, 1, none⟩) (fun k hk => hk.2) (.map (some bh))) (p := ⟨g8, 2, none⟩) (fun k hk => hk.2) (.map (some bc)))
    have n5_ := Aside0.mk (below_set (j := 2) (v := .map (some bc)) (below_set (j := 1) (v := .map (some bh)) (below_set (j := 0) (v := .slice At l0.length ct) HB.out GE8.out) GE8.out) GE8.out)
    clear BK8 MH MC HO HB hcz0 hcz1 hcz2 hfz0 hfz1 hfz2 NH8 NC8
    generalize (((w8.setCell { block := g8, off := 0 } (Value.slice At l0.length ct)).setCell { block := g8, off := 1 } (Value.map (some bh))).setCell { block := g8, off := 2 } (Value.map (some bc))) = w9 at n0_ n2_ n3_ n4_ n5_ ⊢
    have BK8 := n0_
    have MH := n2_
    have MC := n3_
    have HO := Aside0.mk (Kd.R_mono (ok' := fun _ => True) n4_.out (fun _ _ => trivial))
    have HB := n5_
    clear n0_ n2_ n3_ n4_ n5_
    go_wp2
    clear hle2 hle' hle3
    have N32 := Aside0.mk OK.out.n32
    have HRUN := HRUN0
    go_loopw [30] (fun i wx => ∃ (j : Nat) (th : List Int) (L : List Nat), j ≤ l3.length ∧ i = .int .i64 (j : Int) ∧ Aside0 (∀ i ∈ L, i < l1.length) ∧ Aside0 (th.length = l0.length ∧ ∀ q : Nat, q < l0.length → 0 ≤ rd th q ∧ rd th q + 1000 * L.length ≤ 33000) ∧
      Aside0 (bank_comp (fun i => rd_L1 l1 (i : Int)) (fun i => rd_L1 l2 (i : Int)) (l3.drop j) th L = r1) ∧ Aside0 (Kd.R (Kd.int .i64) 3 wx w.heap.size (fun _ => True) (.slice At l0.length ct) th) ∧ Aside0 (wx.heap[bh]? = some (mapO (rowV w A1) L l1.length)) ∧ Aside0 (wx.heap[bc]? = some (mapO (rowV w A2) (List.range l1.length) l1.length)) ∧
      Aside0 (wx.heap[g8]? = some (.cells #[.slice At l0.length ct, .map (some bh), .map (some bc)] 37 (0, 0))) ∧ Aside0 (Below w.heap.size w wx)) (fun i _ => l3.length - (intOf i).toNat)
    case atStart =>
      refine ⟨0, l0, List.range l1.length, Nat.zero_le _, rfl, ⟨fun i hi => List.mem_range.1 hi⟩, ⟨rfl, fun j hj => ?_⟩, HRUN, HO, MH, MC, BK8, HB⟩
      have := OK.out.av j hj
      have := OK.out.n32
      rw [List.length_range]
      omega
    case round =>
      clear HO MH MC BK8 HB HRUN HRUN0
      obtain ⟨j, th, L, hj, rfl, HL, HTH, HRUN, HO, MH, MC, BK8, HB⟩ := hrel
      by_cases hlt : j < l3.length
      · obtain ⟨ad3, e3, hx3⟩ := Kd.at_int (Kd.C_below HR3.out HB.out) (j : Int) (by omega) (by omega)
        cases e3
        rw [Int.toNat_natCast] at hx3
        have hji : (j : Int) < (l1.length : Int) := by have := HLEN.out; omega
        have hji3 : (j : Int) < (l3.length : Int) := by omega
        have hc80 : wr.cell? ⟨g8, 0, none⟩ = some (.slice At l0.length ct) := (blk_cell BK8.out 0).trans rfl
        have hc81 : wr.cell? ⟨g8, 1, none⟩ = some (.map (some bh)) := (blk_cell BK8.out 1).trans rfl
        have hc82 : wr.cell? ⟨g8, 2, none⟩ = some (.map (some bc)) := (blk_cell BK8.out 2).trans rfl
        have hw3 : (j : Int) ≤ 9223372036854775806 := by have := N32.out; have := HLEN.out; omega
        have HJ := Aside0.mk hlt
        have n0_ := HRUN.out
        rw [drop_rd hlt] at n0_
        clear HRUN
        obtain ⟨x, ex⟩ : ∃ x, x = rd l3 (j : Int) := ⟨_, rfl⟩
        rw [← ex] at hx3 n0_
        clear ex
        have HRUN := Aside0.mk n0_
        clear n0_
        by_cases hxL : ∃ k, k ∈ L ∧ x = ((k : Nat) : Int)
        · obtain ⟨k, hkL, rfl⟩ := hxL
          have hkn := HL.out k hkL
          obtain ⟨ad1, Ah, ch, e1, _, eh, hlh, hRh⟩ := rowV_at HR1.out k hkn
          obtain ⟨ad2, Ac, cc, e2, _, ec, hlc, hRc⟩ := rowV_at HR2.out k (by have := OK.out.eq; omega)
          have OH := OK.out.hl k hkn
          have OC := OK.out.cl k hkn
          obtain ⟨hq1, hq2, hT⟩ := Kd.R_reads' HO.out
          clear hq1 hq2
          have CAN := bank_state_can.at bh bc k wr At th ct hT (rowV w A1) (rowV w A2) L (List.range l1.length) _ _ MH.out MC.out hkL (List.mem_range.2 hkn) Ah (rd_L1 l1 (k : Int)) ch eh (Kd.C_below hRh HB.out) Ac (rd_L1 l2 (k : Int)) cc ec (Kd.C_below hRc HB.out) (by rw [OH.1, OC.1]) (by rw [OC.1, HTH.out.1]) (by rw [OC.1]; exact OK.out.n6) (fun q hq => ⟨(OH.2 q (by rw [OC.1] at hq; exact hq)).1, (OH.2 q (by rw [OC.1] at hq; exact hq)).2, (OC.2 q (by rw [OC.1] at hq; exact hq)).1, (OC.2 q (by rw [OC.1] at hq; exact hq)).2⟩)
          rw [HTH.out.1] at CAN
          have EH := Aside0.mk eh
          have RH := Aside0.mk hRh
          have KL := Aside0.mk hkL
          have OHH := Aside0.mk OH
          have C0 := Aside0.mk CAN
          clear CAN hT eh hRh hkL hkn OH OC ec hRc hlh hlc e1 e2 hj hlt
          cases hcan : canTo th (rd_L1 l1 (k : Int)) (rd_L1 l2 (k : Int)) (rd_L1 l2 (k : Int)).length with
          | false =>
            have CAN := C0
            rw [hcan] at CAN
            have HCAN := Aside0.mk hcan
            clear C0 hcan
            go_wp2_with (first
              | ((with_reducible refine gate_callee (f := 21) rfl ?_); refine goesL_ (some 36) rfl rfl Try.func21 (by kernel_rfl) rfl #[.agg #[.slice At l0.length ct, .map (some bh), .map (some bc)], .int .i64 (k : Int)] rfl (by (try simp only [List.map_toArray, List.map_cons, List.map_nil]); first | done | rfl) ?_; (with_reducible refine CAN.out.mono ?_); rintro e w30 ⟨rfl, hb⟩; refine ⟨_, rfl, ?_⟩; have NB := Aside0.mk hb; clear hb))
            refine bodyPost_ret (results_tmp rfl _ _ _) rfl ?_
            have e := HRUN.out
            rw [bank_comp_no (by rw [Int.toNat_natCast, HCAN.out]; simp)] at e
            exact ⟨by rw [← e]; rfl, below_step HB.out NB.out⟩
          | true =>
            have CAN := C0
            rw [hcan] at CAN
            have HCAN := Aside0.mk hcan
            clear C0 hcan
            have CBD : Aside0 (∀ q : Nat, q < (rd_L1 l1 (k : Int)).length → 0 ≤ rd (rd_L1 l1 (k : Int)) q ∧ rd (rd_L1 l1 (k : Int)) q ≤ 1000 ∧ 0 ≤ rd th q ∧ rd th q ≤ 1000000) := ⟨fun q hq => by
              have q0 : q < l0.length := by rw [← OHH.out.1]; exact hq
              have q1 := HTH.out.2 q q0
              have q2 := OHH.out.2 q q0
              omega⟩
            go_wp2_with (first
              | ((with_reducible refine gate_callee (f := 21) rfl ?_); refine goesL_ (some 36) rfl rfl Try.func21 (by kernel_rfl) rfl #[.agg #[.slice At l0.length ct, .map (some bh), .map (some bc)], .int .i64 (k : Int)] rfl (by (try simp only [List.map_toArray, List.map_cons, List.map_nil]); first | done | rfl) ?_; (with_reducible refine CAN.out.mono ?_); rintro e w30 ⟨rfl, hb⟩; refine ⟨_, rfl, ?_⟩; have n0_ := Aside0.mk (Kd.R_below HO.out hb); have n1_ := Aside0.mk (blk_below MH.out hb); have n2_ := Aside0.mk (blk_below MC.out hb); have n3_ := Aside0.mk (blk_below BK8.out hb); have n5_ := Aside0.mk (below_step HB.out hb); clear HO MH MC BK8 HB; have HO := n0_; have MH := n1_; have MC := n2_; have BK8 := n3_; have HB := n5_; clear n0_ n1_ n2_ n3_ n5_; clear hb hc80 hc81 hc82; have hc80 : w30.cell? ⟨g8, 0, none⟩ = some (.slice At l0.length ct) := (blk_cell BK8.out 0).trans rfl; have hc81 : w30.cell? ⟨g8, 1, none⟩ = some (.map (some bh)) := (blk_cell BK8.out 1).trans rfl; have hc82 : w30.cell? ⟨g8, 2, none⟩ = some (.map (some bc)) := (blk_cell BK8.out 2).trans rfl)
              | ((with_reducible refine gate_callee (f := 22) rfl ?_); refine goesL_ (some 40) rfl rfl Try.func22 (by kernel_rfl) rfl #[.agg #[.slice At l0.length ct, .map (some bh), .map (some bc)], .int .i64 (k : Int)] rfl (by (try simp only [List.map_toArray, List.map_cons, List.map_nil]); first | done | rfl) ?_; have CO := bank_state_complete.calls (.slice At l0.length ct) bh bc k w w30 th (fun _ => True) HO.out HB.out (rowV w A1) L l1.length MH.out GEH.out KL.out Ah (rd_L1 l1 (k : Int)) ch EH.out RH.out (by rw [OHH.out.1, HTH.out.1]) (by rw [OHH.out.1]; exact OK.out.n6) CBD.out; (with_reducible refine CO.mono ?_); clear CO; rintro e w33 ⟨rfl, ho, hm, hk_, hbl, hs⟩; refine ⟨_, rfl, ?_⟩; have n0_ := Aside0.mk ho; have n1_ := Aside0.mk hm; have n2_ := Aside0.mk ((hk_ bc (blk_lt MC.out) (own_ne_map HO.out MC.out) (Ne.symm NHC.out)).trans MC.out); have n3_ := Aside0.mk ((hk_ g8 (blk_lt BK8.out) (Kd.R_ne HO.out BK8.out (by decide)) (Ne.symm (map_ne_cells MH.out BK8.out))).trans BK8.out); have n5_ := Aside0.mk hbl; clear HO MH MC BK8 HB; have HO := n0_; have MH := n1_; have MC := n2_; have BK8 := n3_; have HB := n5_; clear n0_ n1_ n2_ n3_ n5_; clear ho hm hk_ hbl hs hc80 hc81 hc82))
            refine ⟨⟨j + 1, addN th (rd_L1 l1 (k : Int)) (rd_L1 l1 (k : Int)).length, L.erase k, HJ.out, by go_num, ⟨fun i hi => HL.out i (List.mem_of_mem_erase hi)⟩, ⟨?_, fun q hq => ?_⟩, ⟨?_⟩, HO, MH, MC, BK8, HB⟩, by have := HJ.out; simp [intOf]; omega⟩
            · rw [addN_len]; exact HTH.out.1
            · rw [addN_at, List.length_erase_of_mem KL.out]
              have q1 := HTH.out.2 q hq
              have q2 := OHH.out.2 q hq
              have q3 : 0 < L.length := List.length_pos_of_mem KL.out
              split <;> omega
            · have e := HRUN.out
              rw [bank_comp_yes KL.out HCAN.out] at e
              exact e
        · have CAN := Aside0.mk (bank_state_can.no (.slice At l0.length ct) bh bc x wr At l0.length ct rfl _ L _ MH.out (fun i hi e => hxL ⟨i, hi, e⟩))
          have HX := Aside0.mk hxL
          clear hxL hj hlt
          go_wp2_with (first
            | ((with_reducible refine gate_callee (f := 21) rfl ?_); refine goesL_ (some 36) rfl rfl Try.func21 (by kernel_rfl) rfl #[.agg #[.slice At l0.length ct, .map (some bh), .map (some bc)], .int .i64 x] rfl (by (try simp only [List.map_toArray, List.map_cons, List.map_nil]); first | done | rfl) ?_; (with_reducible refine CAN.out.mono ?_); rintro e w30 ⟨rfl, hb⟩; refine ⟨_, rfl, ?_⟩; have NB := Aside0.mk hb; clear hb))
          refine bodyPost_ret (results_tmp rfl _ _ _) rfl ?_
          have e := HRUN.out
          rw [bank_comp_no (fun q => HX.out ⟨x.toNat, q.2.1, by have := q.1; omega⟩)] at e
          exact ⟨by rw [← e]; rfl, below_step HB.out NB.out⟩
      · obtain rfl : j = l3.length := by omega
        clear hj hlt
        have hji : ¬ ((l3.length : Int) < (l1.length : Int)) := by have := HLEN.out; omega
        go_wp2
        refine bodyPost_ret (results_tmp rfl _ _ _) rfl ?_
        have e := HRUN.out
        rw [List.drop_length] at e
        exact ⟨by rw [← e]; rfl, HB.out⟩

end Go.Proofs.Ytlngcnijlijplaa.PBank
