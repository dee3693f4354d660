-- Written by a program of this session (over the kit's printer): not typed by hand.
import Derived.Test.YtlngcnijlijplaaPBankx0
import Derived.Test.YtlngcnijlijplaaPBankx6
namespace Go.Proofs.Ytlngcnijlijplaa.PBank
open Go.RowKit Go.Proofs.YtlngcnijlijplaaW.PrintWords Go.Proofs.YtlngcnijlijplaaW.PrintLast Go.Proofs.YtlngcnijlijplaaW.PrintMore
attribute [local go_sem] max2_int min2_int max_two min_two max_three min_three max_four min_four   -- for this text's walks alone
set_option linter.unusedVariables false
set_option linter.unusedSimpArgs false

/-! ### bank_state_can: function 21 -/
/-- Of the first k classes there is enough. -/
def canTo (th hl cl : List Int) (k : Nat) : Bool := (List.range k).all fun j => decide (rd cl (j : Int) - rd hl (j : Int) ≤ rd th (j : Int))
theorem canTo_succ {th hl cl : List Int} {k : Nat} : canTo th hl cl (k + 1) = (canTo th hl cl k && decide (rd cl (k : Int) - rd hl (k : Int) ≤ rd th (k : Int))) := by
  simp [canTo, List.range_succ]
theorem canTo_less {th hl cl : List Int} {k n : Nat} (h : canTo th hl cl k = false) (hk : k ≤ n) : canTo th hl cl n = false := by
  rw [← Bool.not_eq_true] at h ⊢
  intro q
  apply h
  simp only [canTo, List.all_eq_true, List.mem_range] at q ⊢
  exact fun j hj => q j (by omega)
set_option maxHeartbeats 8000000 in
theorem bank_state_can.no (tv : Value) (bh bc : Nat) (a1 : Int) (w : World) (At : Option Addr) (lt ct : Nat) (etv : tv = .slice At lt ct) (vh : Nat → Value) (L : List Nat) (ck : Nat) (hh : w.heap[bh]? = some (mapO vh L ck)) (hx : ∀ i ∈ L, a1 ≠ (i : Int)) :
    Calls Try.prog 21 #[.agg #[tv, .map (some bh), .map (some bc)], .int .i64 a1] w fun e w' => e = .returned (.bool false) ∧ Below w.heap.size w w' := by
  subst etv
  have HB := Aside0.mk (Below.refl w.heap.size w)
  have MH := Aside0.mk hh
  have HX := Aside0.mk hx
  clear hh hx
  have hu35 := Try.underlying35
  have hu37 := Try.underlying37
  go_enter Try.func21, Try.ntmps21
  go_wp2_with (first
    | ((with_reducible refine gate_dst (N := 2) rfl ?_); refine box_event ?hg (N := 2) ?hd (cs := #[.slice At lt ct, .map (some bh), .map (some bc)]) (t := 37) ?hr ?_; (case hd => rfl); (case hg => rfl); (case hr => first | (go_simp; done) | (go_simp; rfl)); intro g2 hg w2 hbox hb; have n0_ := Aside0.mk (below_step HB.out hb); have n1_ := Aside0.mk (blk_below MH.out hb); have hc1 : w2.cell? ⟨g2, 1, none⟩ = some (.map (some bh)) := (blk_cell hbox 1).trans rfl; clear HB MH; have HB := n0_; have MH := n1_; clear n0_ n1_; clear hg hbox hb)
    | ((with_reducible refine gate_dst (N := 13) rfl ?_); refine Kd.event_run rfl (exec_lookup rfl rfl rfl (mlook_out Try.underlying35 Try.underlying3 (zero22 _) MH.out HX.out true)) ?_))
  go_ret
  exact ⟨rfl, HB.out⟩
set_option maxHeartbeats 8000000 in
set_option maxRecDepth 100000 in
theorem bank_state_can.at (bh bc : Nat) (x : Nat) (w : World) (At : Option Addr) (th : List Int) (ct : Nat) (hT : Kd.C (Kd.int .i64) w At th.length th) (vh vc : Nat → Value) (L L0 : List Nat) (ck ck0 : Nat) (hh : w.heap[bh]? = some (mapO vh L ck)) (hc : w.heap[bc]? = some (mapO vc L0 ck0)) (hx : x ∈ L) (hx0 : x ∈ L0)
    (Ah : Option Addr) (hl : List Int) (ch : Nat) (eh : vh x = .slice Ah hl.length ch) (hR : Kd.C (Kd.int .i64) w Ah hl.length hl) (Ac : Option Addr) (cl : List Int) (cc : Nat) (ec : vc x = .slice Ac cl.length cc) (hC : Kd.C (Kd.int .i64) w Ac cl.length cl)
    (h1 : hl.length = cl.length) (h2 : th.length = cl.length) (h6 : cl.length ≤ 6) (hb : ∀ k : Nat, k < cl.length → 0 ≤ rd hl k ∧ rd hl k ≤ 1000 ∧ 0 ≤ rd cl k ∧ rd cl k ≤ 1000) :
    Calls Try.prog 21 #[.agg #[.slice At th.length ct, .map (some bh), .map (some bc)], .int .i64 (x : Int)] w fun e w' => e = .returned (.bool (canTo th hl cl cl.length)) ∧ Below w.heap.size w w' := by
  have HB := Aside0.mk (Below.refl w.heap.size w)
  have MH := Aside0.mk hh
  have MC := Aside0.mk hc
  have HX := Aside0.mk hx
  have HX0 := Aside0.mk hx0
  have EH := Aside0.mk eh
  have EC := Aside0.mk ec
  have HT := Aside0.mk hT
  have HR := Aside0.mk hR
  have HC := Aside0.mk hC
  have HBD := Aside0.mk hb
  have H1 := Aside0.mk h1
  have H2 := Aside0.mk h2
  have H6 := Aside0.mk h6
  clear hh hc hx hx0 eh ec hT hR hC hb h1 h2 h6
  have hu35 := Try.underlying35
  have hu37 := Try.underlying37
  go_enter Try.func21, Try.ntmps21
  go_wp2_with (first
    | ((with_reducible refine gate_dst (N := 2) rfl ?_); refine box_event ?hg (N := 2) ?hd (cs := #[.slice At th.length ct, .map (some bh), .map (some bc)]) (t := 37) ?hr ?_; (case hd => rfl); (case hg => rfl); (case hr => first | (go_simp; done) | (go_simp; rfl)); intro g2 hg w2 hbox hb; have n0_ := Aside0.mk (below_step HB.out hb); have n1_ := Aside0.mk (blk_below MH.out hb); have n2_ := Aside0.mk (blk_below MC.out hb); have BK2 := Aside0.mk hbox; have hc1 : w2.cell? ⟨g2, 1, none⟩ = some (.map (some bh)) := (blk_cell hbox 1).trans rfl; have hc2 : w2.cell? ⟨g2, 2, none⟩ = some (.map (some bc)) := (blk_cell hbox 2).trans rfl; clear HB MH MC; have HB := n0_; have MH := n1_; have MC := n2_; clear n0_ n1_ n2_; clear hg hbox hb)
    | ((with_reducible refine gate_dst (N := 13) rfl ?_); refine Kd.event_run rfl (exec_lookup rfl rfl rfl (mlook_t Try.underlying35 Try.underlying3 MH.out HX.out EH.out)) ?_)
    | ((with_reducible refine gate_dst (N := 21) rfl ?_); refine Kd.event_run rfl (exec_lookup rfl rfl rfl (mlook_f Try.underlying35 Try.underlying3 MC.out HX0.out EC.out)) ?_))
  clear hc1 hc2
  go_loopw [23] (fun i wr => ∃ k : Nat, k ≤ cl.length ∧ i = .int .i64 (k : Int) ∧ Aside0 (canTo th hl cl k = true) ∧ Aside0 (wr.heap[g2]? = some (.cells #[.slice At th.length ct, .map (some bh), .map (some bc)] 37 (0, 0))) ∧ Aside0 (Below w.heap.size w wr)) (fun i _ => cl.length - (intOf i).toNat)
  case atStart => exact ⟨0, Nat.zero_le _, rfl, ⟨rfl⟩, BK2, HB⟩
  case round =>
    obtain ⟨k, hk, rfl, HK, BK2, HB⟩ := hrel
    by_cases hlt : k < cl.length
    · obtain ⟨adc, e1, hxc⟩ := Kd.at_int (Kd.C_below HC.out HB.out) (k : Int) (by omega) (by omega)
      obtain ⟨adh, e2, hxh⟩ := Kd.at_int (Kd.C_below HR.out HB.out) (k : Int) (by omega) (by have := H1.out; omega)
      obtain ⟨adt, e3, hxt⟩ := Kd.at_int (Kd.C_below HT.out HB.out) (k : Int) (by omega) (by have := H2.out; omega)
      cases e1
      cases e2
      cases e3
      rw [Int.toNat_natCast] at hxc hxh hxt
      have hk1 : (k : Int) < (cl.length : Int) := by omega
      have hk2 : (k : Int) < (hl.length : Int) := by have := H1.out; omega
      have hk3 : (k : Int) < (th.length : Int) := by have := H2.out; omega
      have hc0 : wr.cell? ⟨g2, 0, none⟩ = some (.slice (some adt) th.length ct) := (blk_cell BK2.out 0).trans rfl
      obtain ⟨b1, b2, b3, b4⟩ := HBD.out k hlt
      have hw3 : (k : Int) ≤ 9223372036854775806 := by have := H6.out; omega
      obtain ⟨xc, exc⟩ : ∃ xc, xc = rd cl (k : Int) := ⟨_, rfl⟩
      obtain ⟨xh, exh⟩ : ∃ xh, xh = rd hl (k : Int) := ⟨_, rfl⟩
      obtain ⟨xt, ext⟩ : ∃ xt, xt = rd th (k : Int) := ⟨_, rfl⟩
      rw [← exc] at hxc b3 b4
      rw [← exh] at hxh b1 b2
      rw [← ext] at hxt
      have EXC := Aside0.mk exc
      have EXH := Aside0.mk exh
      have EXT := Aside0.mk ext
      clear exc exh ext
      rcases Int.lt_or_le xt (xc - xh) with hq | hq
      · have HQ := Aside0.mk hq
        go_wp2
        repeat (go_quiet (fail); try go_wp2)
        go_ret
        exact ⟨by rw [canTo_less (k := k + 1) (n := cl.length) (by rw [canTo_succ, ← EXC.out, ← EXH.out, ← EXT.out, decide_eq_false (by have := HQ.out; omega), Bool.and_false]) (by omega)]; rfl, by repeat (first | exact HB.out | apply pw_below_drewN)⟩
      · have HQ := Aside0.mk hq
        go_wp2
        repeat (go_quiet (fail); try go_wp2)
        go_roundw
        case rel => exact ⟨k + 1, by omega, by go_num, ⟨by rw [canTo_succ, HK.out, ← EXC.out, ← EXH.out, ← EXT.out, decide_eq_true (by have := HQ.out; omega)]; rfl⟩, ⟨BK2.out⟩, ⟨by repeat (first | exact HB.out | apply pw_below_drewN)⟩⟩
        case measure => simp [intOf]; omega
    · obtain rfl : k = cl.length := by omega
      go_wp2
      go_ret
      exact ⟨by rw [HK.out]; rfl, HB.out⟩

/-! ### bank_state_complete: function 22 -/
/-- The first k numbers added. -/
def addN (th hl : List Int) : Nat → List Int
  | 0 => th
  | k + 1 => (addN th hl k).set k (rd th (k : Int) + rd hl (k : Int))
theorem addN_len (th hl : List Int) : ∀ k, (addN th hl k).length = th.length
  | 0 => rfl
  | k + 1 => by rw [addN, List.length_set, addN_len th hl k]
theorem addN_at (th hl : List Int) : ∀ k j : Nat, rd (addN th hl k) (j : Int) = if j < k ∧ j < th.length then rd th (j : Int) + rd hl (j : Int) else rd th (j : Int)
  | 0, j => by simp [addN]
  | k + 1, j => by
    have ih := addN_at th hl k j
    have hl' := addN_len th hl k
    simp only [rd, Int.toNat_natCast, List.getD_eq_getElem?_getD] at ih ⊢
    rw [addN, List.getElem?_set]
    by_cases e : k = j
    · subst e
      by_cases h : k < th.length
      · rw [if_pos rfl, if_pos (by omega), if_pos ⟨by omega, h⟩]
        simp [rd]
      · rw [if_pos rfl, if_neg (by omega), if_neg (by omega)]
        rw [List.getElem?_eq_none (by omega)]
    · rw [if_neg e, ih]
      by_cases h : j < k ∧ j < th.length
      · rw [if_pos h, if_pos (by omega)]
      · rw [if_neg h, if_neg (by omega)]
set_option maxHeartbeats 8000000 in
set_option maxRecDepth 100000 in
theorem bank_state_complete.calls (tv : Value) (bh bc : Nat) (x : Nat) (w0 w : World) (th : List Int) (ok : Nat → Prop) (hO : Kd.R (Kd.int .i64) 3 w w0.heap.size ok tv th) (hB : Below w0.heap.size w0 w) (vh : Nat → Value) (L : List Nat) (ck : Nat) (hh : w.heap[bh]? = some (mapO vh L ck)) (hge : w0.heap.size ≤ bh) (hx : x ∈ L)
    (Ah : Option Addr) (hl : List Int) (ch : Nat) (eh : vh x = .slice Ah hl.length ch) (hR : Kd.C (Kd.int .i64) w0 Ah hl.length hl) (h1 : hl.length = th.length) (h6 : hl.length ≤ 6) (hb : ∀ k : Nat, k < hl.length → 0 ≤ rd hl k ∧ rd hl k ≤ 1000 ∧ 0 ≤ rd th k ∧ rd th k ≤ 1000000) :
    Calls Try.prog 22 #[.agg #[tv, .map (some bh), .map (some bc)], .int .i64 (x : Int)] w fun e w' => e = .returned (.tuple #[]) ∧ Kd.R (Kd.int .i64) 3 w' w0.heap.size ok tv (addN th hl hl.length) ∧ w'.heap[bh]? = some (mapO vh (L.erase x) ck) ∧
      (∀ g, g < w.heap.size → some g ≠ tv.ownBlock → g ≠ bh → w'.heap[g]? = w.heap[g]?) ∧ Below w0.heap.size w0 w' ∧ w.heap.size ≤ w'.heap.size := by
  obtain ⟨At, ct, etv⟩ := Kd.R_slice hO
  have HO := Aside0.mk hO
  have HB := Aside0.mk hB
  have MH := Aside0.mk hh
  have HX := Aside0.mk hx
  have EH := Aside0.mk eh
  have HR := Aside0.mk hR
  have HBD := Aside0.mk hb
  have H1 := Aside0.mk h1
  have H6 := Aside0.mk h6
  have GEH := Aside0.mk hge
  have HE : Aside0 (∀ g, g < w.heap.size → some g ≠ tv.ownBlock → g ≠ bh → w.heap[g]? = w.heap[g]?) := ⟨fun _ _ _ _ => rfl⟩
  have HS := Aside0.mk (Nat.le_refl w.heap.size)
  clear hO hB hh hx eh hR hb h1 h6 hge
  have hu35 := Try.underlying35
  have hu37 := Try.underlying37
  have ETV := Aside0.mk etv
  clear etv
  rw [ETV.out]
  rw [ETV.out] at HO HE
  go_enter Try.func22, Try.ntmps22
  go_wp2_with (first
    | ((with_reducible refine gate_dst (N := 2) rfl ?_); refine box_event ?hg (N := 2) ?hd (cs := #[.slice At th.length ct, .map (some bh), .map (some bc)]) (t := 37) ?hr ?_; (case hd => rfl); (case hg => rfl); (case hr => first | (go_simp; done) | (go_simp; rfl)); intro g2 hg w2 hbox hb; have n0_ := Aside0.mk (below_step HB.out hb); have n1_ := Aside0.mk (blk_below MH.out hb); have n2_ := Aside0.mk (Kd.R_below HO.out hb); have GE2 := Aside0.mk ((by rw [hg]; exact Nat.le_refl _) : w.heap.size ≤ g2); have n3_ : Aside0 (∀ g, g < w.heap.size → some g ≠ (Value.slice At th.length ct).ownBlock → g ≠ bh → w2.heap[g]? = w.heap[g]?) := ⟨fun g h1 _ _ => hb.block g h1⟩; have n4_ := Aside0.mk hb.size; have BK2 := Aside0.mk hbox; have hc1 : w2.cell? ⟨g2, 1, none⟩ = some (.map (some bh)) := (blk_cell hbox 1).trans rfl; clear HB MH HO HE HS; have HB := n0_; have MH := n1_; have HO := n2_; have HE := n3_; have HS := n4_; clear n0_ n1_ n2_ n3_ n4_; clear hg hbox hb)
    | ((with_reducible refine gate_dst (N := 9) rfl ?_); refine Kd.event_run rfl (exec_lookup rfl rfl rfl (mlook_f Try.underlying35 Try.underlying3 MH.out HX.out EH.out)) ?_))
  clear hc1
  go_loopw [11] (fun i wr => ∃ k : Nat, k ≤ hl.length ∧ i = .int .i64 (k : Int) ∧ Aside0 (Kd.R (Kd.int .i64) 3 wr w0.heap.size ok (.slice At th.length ct) (addN th hl k)) ∧ Aside0 (wr.heap[g2]? = some (.cells #[.slice At th.length ct, .map (some bh), .map (some bc)] 37 (0, 0))) ∧ Aside0 (wr.heap[bh]? = some (mapO vh L ck)) ∧
    Aside0 (∀ g, g < w.heap.size → some g ≠ (Value.slice At th.length ct).ownBlock → g ≠ bh → wr.heap[g]? = w.heap[g]?) ∧ Aside0 (Below w0.heap.size w0 wr) ∧ Aside0 (w.heap.size ≤ wr.heap.size)) (fun i _ => hl.length - (intOf i).toNat)
  case atStart => exact ⟨0, Nat.zero_le _, rfl, HO, BK2, MH, HE, HB, HS⟩
  case round =>
    obtain ⟨k, hk, rfl, HO, BK2, MH, HE, HB, HS⟩ := hrel
    by_cases hlt : k < hl.length
    · obtain ⟨adh, e2, hxh⟩ := Kd.at_int (Kd.C_below HR.out HB.out) (k : Int) (by omega) (by omega)
      cases e2
      rw [Int.toNat_natCast] at hxh
      have hk2 : (k : Int) < (hl.length : Int) := by omega
      have hk3 : (k : Int) < (th.length : Int) := by have := H1.out; omega
      obtain ⟨gt, egt, hgt⟩ : ∃ gt, At = some ⟨gt, 0, none⟩ ∧ w0.heap.size ≤ gt := by
        obtain ⟨_, q⟩ := Kd.own_of_R HO.out
        rcases q with ⟨q1, q2⟩ | ⟨g, cap, cur, q1, q2, _⟩
        · rw [addN_len] at q2; omega
        · injection q1 with q3 q4 q5
          exact ⟨g, q3, q2⟩
      subst egt
      have HGT := Aside0.mk hgt
      clear hgt
      have hcell := Kd.R_celln 0 HO.out (k : Int) (by omega) (by omega)
      rw [Int.toNat_natCast] at hcell
      obtain ⟨hct, hft⟩ := hcell
      have hc0 : wr.cell? ⟨g2, 0, none⟩ = some (.slice (some ⟨gt, 0, none⟩) th.length ct) := (blk_cell BK2.out 0).trans rfl
      obtain ⟨b1, b2, b3, b4⟩ := HBD.out k hlt
      have hw3 : (k : Int) ≤ 9223372036854775806 := by have := H6.out; omega
      obtain ⟨xh, exh⟩ : ∃ xh, xh = rd hl (k : Int) := ⟨_, rfl⟩
      obtain ⟨xt, ext⟩ : ∃ xt, xt = rd th (k : Int) := ⟨_, rfl⟩
      have hq : rdOf 0 (addN th hl k) (k : Int) = xt := by
        have := addN_at th hl k k
        rw [if_neg (by omega)] at this
        rw [ext]; exact this
      rw [hq] at hct
      rw [← exh] at hxh b1 b2
      rw [← ext] at b3 b4
      have EXH := Aside0.mk exh
      have EXT := Aside0.mk ext
      clear exh ext hq
      go_wp2
      go_roundw
      case rel =>
        have N2 : g2 ≠ gt := fun e => Kd.R_ne HO.out BK2.out (by decide) (congrArg some e)
        have NB : bh ≠ gt := fun e => own_ne_map HO.out MH.out (congrArg some e)
        refine ⟨k + 1, by omega, by go_num, ⟨?_⟩, ⟨blk_far BK2.out (p := ⟨gt, k, none⟩) N2 _⟩, ⟨obj_far MH.out (p := ⟨gt, k, none⟩) NB _⟩, ⟨fun g q1 q2 q3 => ?_⟩, ⟨below_set HB.out HGT.out⟩, ⟨?_⟩⟩
        · have q := Kd.R_putn HO.out (k : Int) (xt + xh)
          rw [Int.toNat_natCast] at q
          have e : (addN th hl k).set k (xt + xh) = addN th hl (k + 1) := by rw [addN, EXT.out, EXH.out]
          rw [e] at q
          exact q
        · rw [Below.heap_setCell wr ⟨gt, k, none⟩ _ g (fun e => q2 (congrArg some e))]
          exact HE.out g q1 q2 q3
        · have := HS.out
          simpa [World.setCell] using this
      case measure => simp [intOf]; omega
    · obtain rfl : k = hl.length := by omega
      have hc1 : wr.cell? ⟨g2, 1, none⟩ = some (.map (some bh)) := (blk_cell BK2.out 1).trans rfl
      go_wp2_with (first
        | (at_delete; refine Kd.event_run rfl (exec_del rfl rfl rfl (mdel Try.underlying35 Try.underlying3 MH.out HX.out _)) ?_))
      refine bodyPost_end (results_none rfl _ _ _) rfl ?_
      have NG : ∀ g, g ≠ bh → (ChangeMaps.setBlock wr bh (mapO vh (L.erase x) ck)).heap[g]? = wr.heap[g]? := fun g q => setBlock_other MH.out q
      refine ⟨rfl, Kd.R_grown2 HO.out rfl (grown_block MH.out) (fun q hq => by obtain rfl := Option.some.inj hq; exact own_ne_map HO.out MH.out), setBlock_same MH.out, fun g q1 q2 q3 => (NG g q3).trans (HE.out g q1 q2 q3), below_block HB.out MH.out GEH.out, ?_⟩
      have := HS.out
      simpa [ChangeMaps.setBlock] using this

end Go.Proofs.Ytlngcnijlijplaa.PBank
