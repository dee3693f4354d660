-- Written by a program of this session (over the kit's printer): not typed by hand.
import Derived.Test.YtdbcmmckjlbffaaPHoltOx0
import Derived.Test.YtdbcmmckjlbffaaPHoltOx1
import Derived.Test.YtdbcmmckjlbffaaPHoltOx2
import Derived.Test.YtdbcmmckjlbffaaPHoltOx3
import Derived.WalkMore
import Derived.StillTailTactics
import Derived.Laws.EntriesVeiled
namespace Go.Proofs.Ytdbcmmckjlbffaa.PHoltO
open Go.RowKit Go.Proofs.YtdbcmmckjlbffaaW.PrintWords Go.Proofs.YtdbcmmckjlbffaaW.PrintLast Go.Proofs.YtdbcmmckjlbffaaW.PrintMore
attribute [local go_sem] max2_int min2_int max_two min_two max_three min_three max_four min_four   -- for this text's walks alone
set_option linter.unusedVariables false
set_option linter.unusedSimpArgs false

/-! ### holt_Deadlocked: function 16 -/
/-! Deadlocked: the closure, the library's walk over a set, the function. -/
def fitsB (l2 : List (List Int)) (th : List Int) (x : Int) : Bool := ((rd_L1 l2 x).zip th).all (fun y => decide (y.1 ≤ y.2)) && decide ((rd_L1 l2 x).length = th.length)
theorem fitsB_f (l2 : List (List Int)) (th : List Int) (x : Int) : units_Fits.f (rd_L1 l2 x) th = some (fitsB l2 th x) := rfl
set_option maxHeartbeats 4000000 in
set_option maxRecDepth 100000 in
theorem dead_clo.calls (w : World) (g6 g9 : Nat) (A2 : Option Addr) (c2 : Nat) (At : Option Addr) (ct : Nat) (l2 : List (List Int)) (th : List Int) (x : Int) (b : Bool)
    (h6 : w.heap[g6]? = some (.cells #[.slice A2 l2.length c2] 23 (0, 0))) (h9 : w.heap[g9]? = some (.cells #[.slice At th.length ct] 22 (0, 0))) (hr2 : Kd.C (Kd.slice 3 (Kd.int .i64)) w A2 l2.length l2) (hT : Kd.C (Kd.int .i64) w At th.length th) (hct : th.length ≤ ct) (hx0 : 0 ≤ x) (hx1 : x < (l2.length : Int)) (hb : fitsB l2 th x = b) :
    Calls Try.prog 29 #[.int .i64 x, .pointer (some ⟨g6, 0, none⟩), .pointer (some ⟨g9, 0, none⟩)] w fun e w' => e = .returned (.bool b) ∧ Below w.heap.size w w' := by
  have hca : w.cell? ⟨g6, 0, none⟩ = some (.slice A2 l2.length c2) := (blk_cell h6 0).trans rfl
  have hct2 : w.cell? ⟨g9, 0, none⟩ = some (.slice At th.length ct) := (blk_cell h9 0).trans rfl
  obtain ⟨ad2, Aa, ca, e2, hcx, hla, hRa⟩ := at_L1 hr2 x hx0 hx1
  subst e2
  have RA := Aside0.mk hRa
  have LA := Aside0.mk hla
  have TT := Aside0.mk hT
  have LT := Aside0.mk hct
  have HF : Aside0 (units_Fits.f (rd_L1 l2 x) th = some b) := ⟨by rw [← hb]; exact fitsB_f l2 th x⟩
  clear hRa hla hT hct hr2 h6 h9 hb
  go_enter Try.func29, Try.ntmps29
  go_wp2_with (fail)
  go_still_tail 5, (by kernel_rfl)
  refine at_drew (W := w) ?_
  intro Wd hdb
  clear hca hct2 hcx
  have HB := Aside0.mk hdb
  clear hdb
  go_wp2_with (first
    | (go_at_call 24; (with_reducible refine (units_Fits.calls _ _ (rd_L1 l2 x) _ _ th b _ (Kd.C_below RA.out HB.out) LA.out (Kd.C_below TT.out HB.out) LT.out HF.out).mono ?_); rintro e w10 ⟨rfl, hb⟩; have HB2 := Aside0.mk (below_step HB.out hb); clear hb))
  go_ret
  exact ⟨rfl, HB2.out⟩
def FnV (g6 g9 : Nat) : Value := .func (.func 29) #[] #[.pointer (some ⟨g6, 0, none⟩), .pointer (some ⟨g9, 0, none⟩)]
def IdxPost (w : World) (l3 : List Int) (p : Int → Bool) (e : Ending) (w' : World) : Prop := (∃ r : Int, e = .returned (.int .i64 r) ∧ (0 ≤ r ↔ l3.any p = true)) ∧ Below w.heap.size w w'
set_option maxHeartbeats 4000000 in
set_option maxRecDepth 100000 in
theorem dead_idx.calls (w : World) (g6 g9 : Nat) (A2 : Option Addr) (c2 : Nat) (At : Option Addr) (ct : Nat) (l2 : List (List Int)) (th : List Int) (A3 : Option Addr) (c3 : Nat) (l3 : List Int)
    (h6 : w.heap[g6]? = some (.cells #[.slice A2 l2.length c2] 23 (0, 0))) (h9 : w.heap[g9]? = some (.cells #[.slice At th.length ct] 22 (0, 0))) (hr2 : Kd.C (Kd.slice 3 (Kd.int .i64)) w A2 l2.length l2) (hT : Kd.C (Kd.int .i64) w At th.length th) (hct : th.length ≤ ct) (hr3 : Kd.C (Kd.int .i64) w A3 l3.length l3) (hin : ∀ q : Nat, q < l3.length → 0 ≤ rd l3 (q : Int) ∧ rd l3 (q : Int) < (l2.length : Int)) :
    Calls Try.prog 34 #[.slice A3 l3.length c3, .func (.func 29) #[] #[.pointer (some ⟨g6, 0, none⟩), .pointer (some ⟨g9, 0, none⟩)]] w (IdxPost w l3 (fitsB l2 th)) := by
  have H6 := Aside0.mk h6
  have H9 := Aside0.mk h9
  have R2 := Aside0.mk hr2
  have TT := Aside0.mk hT
  have LT := Aside0.mk hct
  have R3 := Aside0.mk hr3
  have HIN := Aside0.mk hin
  have L3 := Aside0.mk hr3.2.1
  clear h6 h9 hr2 hT hct hr3 hin
  have HB := Aside0.mk (Below.refl w.heap.size w)
  go_enter Try.func34, Try.ntmps34
  go_wp2_with (fail)
  go_loopw [8] (fun v8 wx => ∃ i : Nat, i ≤ l3.length ∧ v8 = .int .i64 (i : Int) ∧ Aside0 ((l3.take i).any (fitsB l2 th) = false) ∧ Aside0 (Below w.heap.size w wx)) (fun v8 _ => l3.length - (intOf v8).toNat)
  case atStart => exact ⟨0, Nat.zero_le _, rfl, ⟨by simp⟩, HB⟩
  case round =>
    clear HB
    obtain ⟨i, hi, rfl, NO, HB⟩ := hrel
    by_cases hlt : i < l3.length
    · have hii : (i : Int) < (l3.length : Int) := by omega
      have HI := Aside0.mk hlt
      have hw3 : (i : Int) ≤ 9223372036854775806 := by have := L3.out; omega
      have hin := HIN.out i hlt
      obtain ⟨ad3, e3, hcx⟩ := Kd.at_int R3.out (i : Int) (by omega) hii
      rw [Int.toNat_natCast] at hcx
      subst e3
      have hcx2 : wr.cell? (ad3.add i) = some (.int .i64 (rd l3 (i : Int))) := pw_cell_below HB.out hcx
      have HX := Aside0.mk (dead_clo.calls wr g6 g9 A2 c2 At ct l2 th (rd l3 (i : Int)) (fitsB l2 th (rd l3 (i : Int))) (blk_below H6.out HB.out) (blk_below H9.out HB.out) (Kd.C_below R2.out HB.out) (Kd.C_below TT.out HB.out) LT.out hin.1 hin.2 rfl)
      have et : l3.take (i + 1) = l3.take i ++ [rd l3 (i : Int)] := by
        rw [List.take_succ_eq_append_getElem hlt]
        simp [rd, List.getD_eq_getElem?_getD, List.getElem?_eq_getElem hlt]
      have ET := Aside0.mk et
      clear hlt hi hcx hin et
      cases hf : fitsB l2 th (rd l3 (i : Int)) with
      | true =>
        rw [hf] at HX
        have HF := Aside0.mk hf
        clear hf
        go_wp2_with (first
          | (go_at_call 29; (with_reducible refine HX.out.mono ?_); rintro e w16 ⟨rfl, hb⟩; have HB2 := Aside0.mk (below_step HB.out hb); clear hb))
        go_ret
        refine ⟨⟨_, rfl, ?_⟩, HB2.out⟩
        refine ⟨fun _ => ?_, fun _ => by omega⟩
        have e := List.take_append_drop (i + 1) l3
        rw [← e, ET.out, List.any_append, List.any_append]
        simp [HF.out]
      | false =>
        rw [hf] at HX
        have HF := Aside0.mk hf
        clear hf
        go_wp2_with (first
          | (go_at_call 29; (with_reducible refine HX.out.mono ?_); rintro e w16 ⟨rfl, hb⟩; have HB2 := Aside0.mk (below_step HB.out hb); clear hb))
        exact ⟨⟨i + 1, HI.out, by go_num, ⟨by rw [ET.out, List.any_append, NO.out]; simp [HF.out]⟩, HB2⟩, by have := HI.out; simp [intOf]; omega⟩
    · obtain rfl : i = l3.length := by omega
      clear hlt hi
      go_wp2_with (fail)
      go_ret
      refine ⟨⟨_, rfl, ?_⟩, HB.out⟩
      have := NO.out
      rw [List.take_length] at this
      rw [this]
      exact ⟨fun h => by omega, fun h => by cases h⟩
set_option maxHeartbeats 4000000 in
set_option maxRecDepth 100000 in
theorem dead_has.calls (w : World) (g6 g9 : Nat) (A2 : Option Addr) (c2 : Nat) (At : Option Addr) (ct : Nat) (l2 : List (List Int)) (th : List Int) (A3 : Option Addr) (c3 : Nat) (l3 : List Int)
    (h6 : w.heap[g6]? = some (.cells #[.slice A2 l2.length c2] 23 (0, 0))) (h9 : w.heap[g9]? = some (.cells #[.slice At th.length ct] 22 (0, 0))) (hr2 : Kd.C (Kd.slice 3 (Kd.int .i64)) w A2 l2.length l2) (hT : Kd.C (Kd.int .i64) w At th.length th) (hct : th.length ≤ ct) (hr3 : Kd.C (Kd.int .i64) w A3 l3.length l3) (hin : ∀ q : Nat, q < l3.length → 0 ≤ rd l3 (q : Int) ∧ rd l3 (q : Int) < (l2.length : Int)) (b : Bool) (hb : l3.any (fitsB l2 th) = b) :
    Calls Try.prog 28 #[.slice A3 l3.length c3, .func (.func 29) #[] #[.pointer (some ⟨g6, 0, none⟩), .pointer (some ⟨g9, 0, none⟩)]] w fun e w' => e = .returned (.bool b) ∧ Below w.heap.size w w' := by
  have HX := Aside0.mk (dead_idx.calls w g6 g9 A2 c2 At ct l2 th A3 c3 l3 h6 h9 hr2 hT hct hr3 hin)
  have HBB := Aside0.mk hb
  clear h6 h9 hr2 hT hct hr3 hin hb
  cases b with
  | true =>
    go_enter Try.func28, Try.ntmps28
    go_wp2_with (first
      | (go_at_call 34; (with_reducible refine HX.out.mono ?_); intro e w7 HP; obtain ⟨⟨r, rfl, hr⟩, hb⟩ := HP; have hr0 : decide (0 ≤ r) = true := decide_eq_true (hr.2 HBB.out); have HB := Aside0.mk hb; clear hb hr))
    go_ret
    exact ⟨rfl, HB.out⟩
  | false =>
    go_enter Try.func28, Try.ntmps28
    go_wp2_with (first
      | (go_at_call 34; (with_reducible refine HX.out.mono ?_); intro e w7 HP; obtain ⟨⟨r, rfl, hr⟩, hb⟩ := HP; have hr0 : decide (0 ≤ r) = false := decide_eq_false (fun q => by rw [HBB.out] at hr; exact absurd (hr.1 q) (by simp)); have HB := Aside0.mk hb; clear hb hr))
    go_ret
    exact ⟨rfl, HB.out⟩
/-- The walk: what there is with what those outside of the set hold, and how many of the set were met. -/
def hwalk (H : Nat → List Int) (s : List Int) : Nat → Nat → List Int → Nat → List Int × Nat
  | 0, _, th, k => (th, k)
  | d + 1, i, th, k => if k < s.length ∧ rd s (k : Int) = (i : Int) then hwalk H s d (i + 1) th (k + 1) else hwalk H s d (i + 1) (addN th (H i) (H i).length) k
def hwalkD (l0 : List Int) (l1 l2 : List (List Int)) (s : List Int) : Bool :=
  if (hwalk (fun i => rd_L1 l1 (i : Int)) s l1.length 0 l0 0).2 = s.length then !(s.any (fitsB l2 (hwalk (fun i => rd_L1 l1 (i : Int)) s l1.length 0 l0 0).1)) else false
def holt_Deadlocked.f (k : Nat) (l0 : List Int) (l1 l2 : List (List Int)) (l3 : List Int) : Option Bool :=
  (holt_May.f k l0 l1 l2).bind fun m => some (if m = true then (if l3.length = 0 then false else hwalkD l0 l1 l2 l3) else false)
theorem holt_Deadlocked.mono : ∀ a0 a1 a2 a3 k, LeO (holt_Deadlocked.f k a0 a1 a2 a3) (holt_Deadlocked.f (k + 1) a0 a1 a2 a3) := by
  intro a0 a1 a2 a3 k r h
  unfold holt_Deadlocked.f at h ⊢
  obtain ⟨m, hm, h⟩ := Option.bind_eq_some_iff.mp h
  rw [holt_May.mono a0 a1 a2 k m hm]
  exact h
/-- What there is stays in bounds: i were passed. -/
def ThAt (d : Nat) (th : List Int) (i : Nat) : Prop := th.length = d ∧ ∀ j : Nat, j < d → 0 ≤ rd th j ∧ rd th j ≤ 1000 + 1000 * (i : Int)
theorem ThAt.more {d : Nat} {th h : List Int} {i : Nat} (H : ThAt d th i) (hh : h.length = d ∧ ∀ j : Nat, j < d → 0 ≤ rd h j ∧ rd h j ≤ 1000) : ThAt d (addN th h h.length) (i + 1) := by
  refine ⟨by rw [addN_len]; exact H.1, fun j hj => ?_⟩
  have q1 := H.2 j hj
  have q2 := hh.2 j hj
  rw [addN_at]
  split <;> omega
theorem ThAt.same {d : Nat} {th : List Int} {i : Nat} (H : ThAt d th i) : ThAt d th (i + 1) := ⟨H.1, fun j hj => by
  have q1 := H.2 j hj
  omega⟩
set_option maxHeartbeats 8000000 in
set_option maxRecDepth 100000 in
theorem holt_Deadlocked.calls (k : Nat) (A0 : Option Addr) (c0 : Nat) (l0 : List Int) (A1 : Option Addr) (c1 : Nat) (l1 : List (List Int)) (A2 : Option Addr) (c2 : Nat) (l2 : List (List Int)) (A3 : Option Addr) (c3 : Nat) (l3 : List Int) (r : Bool) (w : World) (hr0 : Kd.C (Kd.int .i64) w A0 l0.length l0) (hc0 : l0.length ≤ c0) (hr1 : Kd.C (Kd.slice 3 (Kd.int .i64)) w A1 l1.length l1) (hc1 : l1.length ≤ c1) (hr2 : Kd.C (Kd.slice 3 (Kd.int .i64)) w A2 l2.length l2) (hc2 : l2.length ≤ c2) (hr3 : Kd.C (Kd.int .i64) w A3 l3.length l3) (hc3 : l3.length ≤ c3) (h : holt_Deadlocked.f k l0 l1 l2 l3 = some r) :
    Calls Try.prog 16 #[.slice A0 l0.length c0, .slice A1 l1.length c1, .slice A2 l2.length c2, .slice A3 l3.length c3] w fun e w' => e = .returned (.bool r) ∧ Below w.heap.size w w' := by
  unfold holt_Deadlocked.f at h
  obtain ⟨m, hm, hx⟩ := Option.bind_eq_some_iff.mp h
  clear h
  have HX := Aside0.mk (Option.some.inj hx)
  clear hx
  have HR0 := Aside0.mk hr0
  have HC0 := Aside0.mk hc0
  have HR1 := Aside0.mk hr1
  have HC1 := Aside0.mk hc1
  have HR2 := Aside0.mk hr2
  have HC2 := Aside0.mk hc2
  have HR3 := Aside0.mk hr3
  have HC3 := Aside0.mk hc3
  have L3 := Aside0.mk hr3.2.1
  have HB := Aside0.mk (Below.refl w.heap.size w)
  have HMAY := Aside0.mk hm
  clear hr0 hc0 hr1 hc1 hr2 hc2 hr3 hc3 hm
  cases m with
  | false =>
    have e := HX.out
    rw [if_neg (by simp)] at e
    subst e
    clear HX
    go_enter Try.func16, Try.ntmps16
    go_wp2_with (first
      | ((with_reducible refine gate_dst (N := 6) rfl ?_); refine box_event ?hg (N := 6) ?hd (cs := #[.slice A2 l2.length c2]) (t := 23) ?hr ?_; (case hd => rfl); (case hg => rfl); (case hr => first | (go_simp; done) | (go_simp; rfl)); intro g6 hg w6 hbox hb; have n0_ := Aside0.mk (below_step HB.out hb); have n1_ := Aside0.mk (hbox); clear HB; have HB := n0_; have BK6 := n1_; clear n0_ n1_; have hc6 : w6.cell? ⟨g6, 0, none⟩ = some (.slice A2 l2.length c2) := (blk_cell hbox 0).trans rfl; clear hg hbox hb)
      | (go_at_call 10; (with_reducible refine (holt_May.calls k _ _ l0 _ _ l1 _ _ l2 false _ (Kd.C_below HR0.out HB.out) HC0.out (Kd.C_below HR1.out HB.out) HC1.out (Kd.C_below HR2.out HB.out) HC2.out HMAY.out).mono ?_); rintro e w15 ⟨rfl, hd⟩; have hb := hd.below; have n0_ := Aside0.mk (below_step HB.out hb); have n1_ := Aside0.mk (blk_below BK6.out hb); clear HB BK6; have HB := n0_; have BK6 := n1_; clear n0_ n1_; clear hd hb hc6))
    go_ret
    exact ⟨rfl, HB.out⟩
  | true =>
    by_cases hz : l3.length = 0
    · have e := HX.out
      rw [if_pos rfl, if_pos hz] at e
      subst e
      clear HX
      have hzb : ((l3.length : Int) == 0) = true := by simpa using hz
      clear hz
      go_enter Try.func16, Try.ntmps16
      go_wp2_with (first
        | ((with_reducible refine gate_dst (N := 6) rfl ?_); refine box_event ?hg (N := 6) ?hd (cs := #[.slice A2 l2.length c2]) (t := 23) ?hr ?_; (case hd => rfl); (case hg => rfl); (case hr => first | (go_simp; done) | (go_simp; rfl)); intro g6 hg w6 hbox hb; have n0_ := Aside0.mk (below_step HB.out hb); have n1_ := Aside0.mk (hbox); clear HB; have HB := n0_; have BK6 := n1_; clear n0_ n1_; have hc6 : w6.cell? ⟨g6, 0, none⟩ = some (.slice A2 l2.length c2) := (blk_cell hbox 0).trans rfl; clear hg hbox hb)
        | (go_at_call 10; (with_reducible refine (holt_May.calls k _ _ l0 _ _ l1 _ _ l2 true _ (Kd.C_below HR0.out HB.out) HC0.out (Kd.C_below HR1.out HB.out) HC1.out (Kd.C_below HR2.out HB.out) HC2.out HMAY.out).mono ?_); rintro e w15 ⟨rfl, hd⟩; have hb := hd.below; have n0_ := Aside0.mk (below_step HB.out hb); have n1_ := Aside0.mk (blk_below BK6.out hb); clear HB BK6; have HB := n0_; have BK6 := n1_; clear n0_ n1_; clear hd hb hc6))
      go_ret
      exact ⟨rfl, HB.out⟩
    · have e := HX.out
      rw [if_pos rfl, if_neg hz] at e
      have HRUN := Aside0.mk e
      have OK := Aside0.mk (holt_May_true HMAY.out)
      have hzb : ((l3.length : Int) == 0) = false := by simpa using hz
      clear hz HX e
      go_enter Try.func16, Try.ntmps16
      go_upto_region 4 with (first
        | ((with_reducible refine gate_dst (N := 6) rfl ?_); refine box_event ?hg (N := 6) ?hd (cs := #[.slice A2 l2.length c2]) (t := 23) ?hr ?_; (case hd => rfl); (case hg => rfl); (case hr => first | (go_simp; done) | (go_simp; rfl)); intro g6 hg w6 hbox hb; have n0_ := Aside0.mk (below_step HB.out hb); have n1_ := Aside0.mk (hbox); clear HB; have HB := n0_; have BK6 := n1_; clear n0_ n1_; have hc6 : w6.cell? ⟨g6, 0, none⟩ = some (.slice A2 l2.length c2) := (blk_cell hbox 0).trans rfl; clear hg hbox hb)
        | (go_at_call 10; (with_reducible refine (holt_May.calls k _ _ l0 _ _ l1 _ _ l2 true _ (Kd.C_below HR0.out HB.out) HC0.out (Kd.C_below HR1.out HB.out) HC1.out (Kd.C_below HR2.out HB.out) HC2.out HMAY.out).mono ?_); rintro e w15 ⟨rfl, hd⟩; have hb := hd.below; have n0_ := Aside0.mk (below_step HB.out hb); have n1_ := Aside0.mk (blk_below BK6.out hb); clear HB BK6; have HB := n0_; have BK6 := n1_; clear n0_ n1_; clear hd hb hc6)
        | (go_at_call 22; (with_reducible refine (slices_Clone_int_int.calls _ _ l0 l0 _ (Kd.C_below HR0.out HB.out) HC0.out ?cl).mono ?_); (case cl => unfold slices_Clone_int_int.f; rw [if_pos (by have := OK.out.n6; omega)]); rintro e w18 ⟨tv, rfl, ho, hb⟩; obtain ⟨At, ct, et⟩ := Kd.R_slice ho; subst et; have n0_ := Aside0.mk (below_step HB.out hb); have n1_ := Aside0.mk (blk_below BK6.out hb); have n2_ := Aside0.mk (Kd.R_lower ho (below_size HB.out)); clear HB BK6; have HB := n0_; have BK6 := n1_; have HO := n2_; clear n0_ n1_ n2_; clear ho hb)
        | ((with_reducible refine gate_dst (N := 9) rfl ?_); refine box_event ?hg (N := 9) ?hd (cs := #[.slice none 0 0]) (t := 22) ?hr ?_; (case hd => rfl); (case hg => rfl); (case hr => first | (go_simp; done) | (go_simp; rfl)); intro g9 hg w9 hbox hb; have n0_ := Aside0.mk (below_step HB.out hb); have n1_ := Aside0.mk (blk_below BK6.out hb); have n2_ := Aside0.mk (Kd.R_below HO.out hb); have n3_ := Aside0.mk (hbox); have n4_ := Aside0.mk ((by rw [hg]; exact below_size HB.out : w.heap.size ≤ g9)); clear HB BK6 HO; have HB := n0_; have BK6 := n1_; have HO := n2_; have BK9 := n3_; have GE9 := n4_; clear n0_ n1_ n2_ n3_ n4_; have hc9 : w9.cell? ⟨g9, 0, none⟩ = some (.slice none 0 0) := (blk_cell hbox 0).trans rfl; have hf9 : w9.frozen? ⟨g9, 0, none⟩ = false := blk_frozen hbox 0; clear hg hbox hb))
      have n0_ := Aside0.mk (blk_far BK6.out (p := ⟨g9, 0, none⟩) (cells_ne BK6.out BK9.out (by decide)) (.slice At l0.length ct))
      have n1_ := Aside0.mk (Kd.R_mono (Kd.R_far (Kd.R_types HO.out BK9.out (by intro q hq; rcases List.mem_cons.1 hq with rfl | hq; exact (by decide); cases hq)) (p := ⟨g9, 0, none⟩) (fun k hk => hk.2) (.slice At l0.length ct)) (fun _ h => h.1))
      have n2_ := Aside0.mk (blk_put (cs' := #[.slice At l0.length ct]) BK9.out 0 (.slice At l0.length ct) rfl)
      have n3_ := Aside0.mk (below_set (j := 0) (v := .slice At l0.length ct) HB.out GE9.out)
      clear BK6 HO BK9 HB hc9 hf9
      generalize (w9.setCell { block := g9, off := 0 } (Value.slice At l0.length ct)) = W1 at n0_ n1_ n2_ n3_ ⊢
      have BK6 := n0_
      have HO := n1_
      have BK9 := n2_
      have HB := n3_
      clear n0_ n1_ n2_ n3_
      clear hzb
      go_wp2_with (fail)
      go_loopw [10, 26] (fun v10 v26 wx => ∃ (i kk : Nat) (th : List Int), i ≤ l1.length ∧ kk ≤ l3.length ∧ v10 = .int .i64 (kk : Int) ∧ v26 = .int .i64 (i : Int) ∧ Aside0 (hwalk (fun i => rd_L1 l1 (i : Int)) l3 (l1.length - i) i th kk = hwalk (fun i => rd_L1 l1 (i : Int)) l3 l1.length 0 l0 0) ∧ Aside0 (Kd.R (Kd.int .i64) 3 wx w.heap.size (fun q => some q = (Value.slice At l0.length ct).ownBlock) (.slice At l0.length ct) th) ∧ Aside0 (wx.heap[g6]? = some (.cells #[.slice A2 l2.length c2] 23 (0, 0))) ∧ Aside0 (wx.heap[g9]? = some (.cells #[.slice At l0.length ct] 22 (0, 0))) ∧ Aside0 (ThAt l0.length th i) ∧ Aside0 (∀ q : Nat, q < kk → 0 ≤ rd l3 (q : Int) ∧ rd l3 (q : Int) < (l1.length : Int)) ∧ Aside0 (Below w.heap.size w wx)) (fun _ v26 _ => l1.length - (intOf v26).toNat)
      case atStart => exact ⟨0, 0, l0, Nat.zero_le _, Nat.zero_le _, rfl, rfl, ⟨rfl⟩, ⟨Kd.R_reok rfl HO.out (fun k hk => hk.symm)⟩, BK6, BK9, ⟨rfl, fun j hj => by have := OK.out.av j hj; omega⟩, ⟨fun q hq => by omega⟩, HB⟩
      case round =>
        clear HO BK6 BK9 HB
        obtain ⟨i, kk, th, hi, hk, rfl, rfl, HP, HO, BK6, BK9, TA, HIN, HB⟩ := hrel
        by_cases hlt : i < l1.length
        · have hii : (i : Int) < (l1.length : Int) := by omega
          have HI := Aside0.mk hlt
          have hw3 : (i : Int) ≤ 9223372036854775806 := by have := OK.out.n32; omega
          have hp := HP.out
          rw [show l1.length - i = (l1.length - (i + 1)) + 1 from by omega, hwalk] at hp
          clear HP
          by_cases hkl : kk < l3.length
          · have hki : (kk : Int) < (l3.length : Int) := by omega
            have hw4 : (kk : Int) ≤ 9223372036854775806 := by have := L3.out; omega
            have HKL := Aside0.mk hkl
            obtain ⟨ad3, e3, hcx⟩ := Kd.at_int HR3.out (kk : Int) (by omega) hki
            rw [Int.toNat_natCast] at hcx
            subst e3
            have hcx2 : wr.cell? (ad3.add kk) = some (.int .i64 (rd l3 (kk : Int))) := pw_cell_below HB.out hcx
            clear hcx
            by_cases hq : rd l3 (kk : Int) = (i : Int)
            · rw [if_pos ⟨hkl, hq⟩] at hp
              have HP := Aside0.mk hp
              have HQ := Aside0.mk hq
              have hqb : (rd l3 (kk : Int) == (i : Int)) = true := beq_iff_eq.2 hq
              clear hp hq hlt hi hk hkl
              go_wp2_with (fail)
              exact ⟨⟨i + 1, kk + 1, th, HI.out, HKL.out, by go_num, by go_num, HP, HO, BK6, BK9, ⟨TA.out.same⟩, ⟨fun q hq => by
                by_cases e : q = kk
                · subst e; rw [HQ.out]; have := HI.out; omega
                · exact HIN.out q (by omega)⟩, HB⟩, by have := HI.out; simp [intOf]; omega⟩
            · rw [if_neg (fun z => hq z.2)] at hp
              have HP := Aside0.mk hp
              have hqb : (rd l3 (kk : Int) == (i : Int)) = false := by simpa using hq
              have HK := Aside0.mk hk
              clear hp hq hlt hi hk hkl
              have hct : wr.cell? ⟨g9, 0, none⟩ = some (.slice At l0.length ct) := (blk_cell BK9.out 0).trans rfl
              obtain ⟨ad1, Ah, ch, e1, hcy, hlh, hRh⟩ := at_L1 HR1.out (i : Int) (by omega) hii
              rw [Int.toNat_natCast] at hcy
              subst e1
              have hcy2 : wr.cell? (ad1.add i) = some (.slice Ah (rd_L1 l1 (i : Int)).length ch) := pw_cell_below HB.out hcy
              have RH := Aside0.mk hRh
              have LH := Aside0.mk hlh
              clear hRh hlh hcy
              go_wp2_with (fail)
              go_still_tail 5, (by kernel_rfl)
              refine at_drew (W := wr) ?_
              intro We hdb
              clear hct hcy2 hcx2
              have n0_ := Aside0.mk (blk_below BK6.out hdb)
              have n1_ := Aside0.mk (Kd.R_below HO.out hdb)
              have n2_ := Aside0.mk (blk_below BK9.out hdb)
              have n3_ := Aside0.mk (below_step HB.out hdb)
              clear BK6 HO BK9 HB hdb
              have BK6 := n0_
              have HO := n1_
              have BK9 := n2_
              have HB := n3_
              clear n0_ n1_ n2_ n3_
              have HI2 := OK.out.hl i HI.out
              have AC := hadd.calls ((rd_L1 l1 (i : Int)).length + 1) (fun q => some q = (Value.slice At l0.length ct).ownBlock) (.slice At l0.length ct) th Ah ch (rd_L1 l1 (i : Int)) (addN th (rd_L1 l1 (i : Int)) (rd_L1 l1 (i : Int)).length) w We HB.out HO.out (Kd.C_kept_came (Kd.heap_int .i64) RH.out HB.out (fun k hk => by rcases Kd.R_base2 HO.out with q | ⟨k', q, q2⟩; (rw [q] at hk; cases hk); (rw [q] at hk; cases hk; exact q2))) LH.out
                (hadd_is th (rd_L1 l1 (i : Int)) (by have := HI2.1; have := TA.out.1; omega) (by rw [HI2.1]; exact OK.out.n6) (fun q hq => by
                  have q1 := TA.out.2 q (by rw [HI2.1] at hq; exact hq)
                  have q2 := HI2.2 q (by rw [HI2.1] at hq; exact hq)
                  have q3 := OK.out.n32
                  have q4 := HI.out
                  omega))
              have ACA := Aside0.mk AC
              have HI3 := Aside0.mk HI2
              clear AC HI2
              go_wp2_with (first
                | (go_at_call 25; (with_reducible refine ACA.out.mono ?_); rintro e w37 ⟨rfl, hr, hb, hk⟩; have n0_ := Aside0.mk (blk_kept BK6.out hk (Kd.R_ne HO.out BK6.out (by decide))); have n1_ := Aside0.mk (Kd.R_reok (ok := fun q => some q = (Value.slice At l0.length ct).ownBlock) rfl hr (fun k hk => hk.symm)); have n2_ := Aside0.mk (blk_kept BK9.out hk (Kd.R_ne HO.out BK9.out (by decide))); have n3_ := Aside0.mk hb; clear BK6 HO BK9 HB hb hr hk; have BK6 := n0_; have HO := n1_; have BK9 := n2_; have HB := n3_; clear n0_ n1_ n2_ n3_))
              exact ⟨⟨i + 1, kk, addN th (rd_L1 l1 (i : Int)) (rd_L1 l1 (i : Int)).length, HI.out, HK.out, rfl, by go_num, HP, HO, BK6, BK9, ⟨TA.out.more HI3.out⟩, HIN, HB⟩, by have := HI.out; simp [intOf]; omega⟩
          · have hki : ¬ (kk : Int) < (l3.length : Int) := by omega
            rw [if_neg (fun z => hkl z.1)] at hp
            have HP := Aside0.mk hp
            have HK := Aside0.mk hk
            have hkd : decide ((kk : Int) < (l3.length : Int)) = false := decide_eq_false hki
            clear hp hlt hi hk hkl
            have hct : wr.cell? ⟨g9, 0, none⟩ = some (.slice At l0.length ct) := (blk_cell BK9.out 0).trans rfl
            obtain ⟨ad1, Ah, ch, e1, hcy, hlh, hRh⟩ := at_L1 HR1.out (i : Int) (by omega) hii
            rw [Int.toNat_natCast] at hcy
            subst e1
            have hcy2 : wr.cell? (ad1.add i) = some (.slice Ah (rd_L1 l1 (i : Int)).length ch) := pw_cell_below HB.out hcy
            have RH := Aside0.mk hRh
            have LH := Aside0.mk hlh
            clear hRh hlh hcy
            go_wp2_with (fail)
            go_still_tail 5, (by kernel_rfl)
            refine at_drew (W := wr) ?_
            intro We hdb
            clear hct hcy2 
            have n0_ := Aside0.mk (blk_below BK6.out hdb)
            have n1_ := Aside0.mk (Kd.R_below HO.out hdb)
            have n2_ := Aside0.mk (blk_below BK9.out hdb)
            have n3_ := Aside0.mk (below_step HB.out hdb)
            clear BK6 HO BK9 HB hdb
            have BK6 := n0_
            have HO := n1_
            have BK9 := n2_
            have HB := n3_
            clear n0_ n1_ n2_ n3_
            have HI2 := OK.out.hl i HI.out
            have AC := hadd.calls ((rd_L1 l1 (i : Int)).length + 1) (fun q => some q = (Value.slice At l0.length ct).ownBlock) (.slice At l0.length ct) th Ah ch (rd_L1 l1 (i : Int)) (addN th (rd_L1 l1 (i : Int)) (rd_L1 l1 (i : Int)).length) w We HB.out HO.out (Kd.C_kept_came (Kd.heap_int .i64) RH.out HB.out (fun k hk => by rcases Kd.R_base2 HO.out with q | ⟨k', q, q2⟩; (rw [q] at hk; cases hk); (rw [q] at hk; cases hk; exact q2))) LH.out
              (hadd_is th (rd_L1 l1 (i : Int)) (by have := HI2.1; have := TA.out.1; omega) (by rw [HI2.1]; exact OK.out.n6) (fun q hq => by
                have q1 := TA.out.2 q (by rw [HI2.1] at hq; exact hq)
                have q2 := HI2.2 q (by rw [HI2.1] at hq; exact hq)
                have q3 := OK.out.n32
                have q4 := HI.out
                omega))
            have ACA := Aside0.mk AC
            have HI3 := Aside0.mk HI2
            clear AC HI2
            go_wp2_with (first
              | (go_at_call 25; (with_reducible refine ACA.out.mono ?_); rintro e w37 ⟨rfl, hr, hb, hk⟩; have n0_ := Aside0.mk (blk_kept BK6.out hk (Kd.R_ne HO.out BK6.out (by decide))); have n1_ := Aside0.mk (Kd.R_reok (ok := fun q => some q = (Value.slice At l0.length ct).ownBlock) rfl hr (fun k hk => hk.symm)); have n2_ := Aside0.mk (blk_kept BK9.out hk (Kd.R_ne HO.out BK9.out (by decide))); have n3_ := Aside0.mk hb; clear BK6 HO BK9 HB hb hr hk; have BK6 := n0_; have HO := n1_; have BK9 := n2_; have HB := n3_; clear n0_ n1_ n2_ n3_))
            exact ⟨⟨i + 1, kk, addN th (rd_L1 l1 (i : Int)) (rd_L1 l1 (i : Int)).length, HI.out, HK.out, rfl, by go_num, HP, HO, BK6, BK9, ⟨TA.out.more HI3.out⟩, HIN, HB⟩, by have := HI.out; simp [intOf]; omega⟩
        · obtain rfl : i = l1.length := by omega
          have hp := HP.out
          rw [Nat.sub_self, hwalk] at hp
          have e := HRUN.out
          unfold hwalkD at e
          rw [← hp] at e
          simp only at e
          clear hlt hi HP hp HRUN
          by_cases hkl : kk = l3.length
          · rw [if_pos hkl] at e
            subst hkl
            have ha := Aside0.mk e
            have hT := Kd.R_reads' HO.out
            have hc := hT.2.1
            rw [hT.1] at hc
            have b9 := BK9.out
            rw [hT.1] at b9
            have DC := Aside0.mk (dead_has.calls wr g6 g9 A2 c2 At ct l2 th A3 c3 l3 BK6.out b9 (Kd.C_below HR2.out HB.out) hT.2.2 hc (Kd.C_below HR3.out HB.out) (fun q hq => by have := HIN.out q hq; rw [← OK.out.eq]; exact this) (!r) (by rw [← ha.out]; simp))
            clear hT hc b9 e
            go_wp2_with (first
              | (go_at_call 28; (with_reducible refine DC.out.mono ?_); rintro e w57 ⟨rfl, hb⟩; have HB2 := Aside0.mk (below_step HB.out hb); clear hb))
            go_ret
            exact ⟨rfl, HB2.out⟩
          · rw [if_neg hkl] at e
            subst e
            have hne : ((kk : Int) == (l3.length : Int)) = false := by simp; omega
            clear hkl hk
            go_wp2_with (fail)
            go_ret
            exact ⟨rfl, HB.out⟩

end Go.Proofs.Ytdbcmmckjlbffaa.PHoltO
