-- Written by a program of this session (over the kit's printer): not typed by hand.
import Derived.Test.YtfbcilmiagmijaaPUnitsx0
import Derived.Test.YtfbcilmiagmijaaPUnitsx2
import Derived.Test.YtfbcilmiagmijaaPUnitsx3
import Derived.Test.YtfbcilmiagmijaaPUnitsx6
import Derived.RangeFuncNested
import Derived.RangeFuncBound
import Derived.RangeFuncCalls
import Derived.RangeFuncLeaves
import Derived.RangeFuncFrom
import Derived.RangeFuncBox
import Derived.RangeFuncWrites
import Derived.Maps.AppendAt
import Derived.Shelf.Abstract
import Derived.Shelf.RegionOpen
import Derived.OwnWalkIn
import Derived.TacticsInMore
import Derived.LoopNIn
import Derived.LoopIn
namespace Go.Proofs.Ytfbcilmiagmijaa.PUnits
open Go.RowKit Go.Proofs.YtfbcilmiagmijaaW.PrintWords Go.Proofs.YtfbcilmiagmijaaW.PrintLast Go.Proofs.YtfbcilmiagmijaaW.PrintMore
attribute [local go_sem] max2_int min2_int max_two min_two max_three min_three max_four min_four   -- for this text's walks alone
set_option linter.unusedVariables false
set_option linter.unusedSimpArgs false

/-! ### units_Plus: function 31 -/
section
open Go.Shelf
attribute [local go_sem] Oper.semAt_some
theorem units_Plus.sum_two (x y : Int) (h0 : 0 ≤ x) (h1 : x ≤ 1000) (h2 : 0 ≤ y) (h3 : y ≤ 1000) : units_sum.f 5 [x, y] = some (x + y) := by
  have w0 : wrap64 (0 + 1) = 1 := by unfold wrap64; omega
  have w1 : wrap64 (1 + 1) = 2 := by unfold wrap64; omega
  have w4 : wrap64 1 = 1 := by unfold wrap64; omega
  have w2 : wrap64 (0 + x) = x := by unfold wrap64; omega
  have w5 : wrap64 x = x := by unfold wrap64; omega
  have w6 : wrap64 2 = 2 := by unfold wrap64; omega
  have w3 : wrap64 (x + y) = x + y := by unfold wrap64; omega
  simp only [units_sum.f, units_sum.l0, rd, List.length_cons, List.length_nil, w0, w1, w2, w3]
  simp [w0, w1, w2, w3, w4, w5, w6]
theorem units_Plus.sum2 {x y : Int} {W : World} {B : Nat} (h0 : W.cell? ⟨B, 0, none⟩ = some (.int .i64 x)) (h1 : W.cell? ⟨B, 1, none⟩ = some (.int .i64 y)) (h : units_sum.f 5 [x, y] = some (x + y)) :
    Calls Try.prog 53 #[.slice (some ⟨B, 0, none⟩) 2 2] W fun e W' => e = .returned (.int .i64 (x + y)) ∧ Drawn0 W W' :=
  units_sum.calls 5 _ 2 [x, y] _ W (units_each.reads_two h0 h1) (by simp) h
theorem units_Plus.one (x y : Int) (h0 : 0 ≤ x) (h1 : x ≤ 1000) (h2 : 0 ≤ y) (h3 : y ≤ 1000) (w : World) : Calls Try.prog 52 #[.int .i64 x, .int .i64 y] w fun e w' => e = .returned (.int .i64 (x + y)) ∧ Below w.heap.size w w' := by
  have HS := Aside0.mk (units_Plus.sum_two x y h0 h1 h2 h3)
  clear h0 h1 h2 h3
  go_enter Try.func52, Try.ntmps52
  go_wp2_with (go_at_call 53; (with_reducible refine (units_Plus.sum2 (x := x) (y := y) ?side1 ?side2 HS.out).mono ?_); (case side1 => simp); (case side2 => simp); rintro e w' ⟨rfl, ⟨m, rfl⟩⟩)
  go_ret
  exact ⟨rfl, pw_below_drewN (below_alloc (Below.refl _ _) _) _⟩
/-- What comes of two numbers. -/
def units_Plus.g (x y : Int) : Int := (fun x y => x + y) x y
/-- This pair may be, and so may what comes of it. -/
def units_Plus.okP (x : Int × Int) : Bool := (units_each.okB x.1 && units_each.okB x.2) && units_each.okB (units_Plus.g x.1 x.2)
theorem units_Plus.okB_bd {x : Int} (h : units_each.okB x = true) : 0 ≤ x ∧ x ≤ 1000 := by simpa [units_each.okB] using h
/-- What the rounds so far have told. -/
def units_Plus.Good (pre : List (Int × Int)) : Prop := pre.all units_Plus.okP = true
theorem units_Plus.Good.snoc {pre : List (Int × Int)} {x : Int × Int} (h : units_Plus.Good pre) (hx : units_Plus.okP x = true) : units_Plus.Good (pre ++ [x]) := by
  unfold units_Plus.Good at *
  rw [List.all_append, h]; simpa using hx
def units_Plus.outs (pre : List (Int × Int)) : List Int := pre.map (fun x => units_Plus.g x.1 x.2)
theorem units_Plus.outs_snoc (pre : List (Int × Int)) (x : Int × Int) : units_Plus.outs (pre ++ [x]) = units_Plus.outs pre ++ [units_Plus.g x.1 x.2] := by simp [units_Plus.outs]
theorem units_Plus.outs_length (pre : List (Int × Int)) : (units_Plus.outs pre).length = pre.length := by simp [units_Plus.outs]
def units_Plus.Bad (pre : List (Int × Int)) : Prop := ∃ x ∈ pre, units_Plus.okP x = false
/-- The numbers so far lie in a row of the call's own, whose value the box holds. -/
def units_Plus.Row (n0 B : Nat) (pre : List (Int × Int)) (W : World) : Prop := ∃ v, Boxed W B 23 v ∧ W.ownsRow n0 3 1 v (units_Plus.outs pre).length ((units_Plus.outs pre).map (Value.int .i64)) ∧ units_Plus.Good pre
/-- What holds between two rounds. -/
structure units_Plus.I (w : World) (A0 : Option Addr) (k0 n0 : Nat) (A1 : Option Addr) (k1 n1 : Nat) (pre : List (Int × Int)) (W : World) : Prop where
  row : units_Plus.Row w.heap.size (w.heap.size + 1) pre W
  fn : Boxed W w.heap.size 58 (.func (.func 52) #[] #[])
  ok : Boxed W (w.heap.size + 1 + 1) 4 (.bool false)
  a : Boxed W (w.heap.size + 1 + 1 + 1) 23 (.slice A0 n0 k0)
  b : Boxed W (w.heap.size + 1 + 1 + 1 + 1) 23 (.slice A1 n1 k1)
  below : Below w.heap.size w W
theorem units_Plus.I.own (w : World) (A0 : Option Addr) (k0 n0 : Nat) (A1 : Option Addr) (k1 n1 : Nat) {B : Nat} (hB : w.heap.size ≤ B) : OwnFrom B (fun pre W => units_Plus.I w A0 k0 n0 A1 k1 n1 pre W) := fun s W W' row hs hg hr =>
  have hr' := fun r e => (hr r e).2
  ⟨holdsRow_own w.heap.size (w.heap.size + 1) 23 3 1 (fun pre => (units_Plus.outs pre).length) (fun pre => (units_Plus.outs pre).map (Value.int .i64)) (fun pre _ => units_Plus.Good pre) s W W' row hs.row hg hr',
   boxed_own _ _ (fun _ => _) s W W' row hs.fn hg hr', boxed_own _ _ (fun _ => _) s W W' row hs.ok hg hr', boxed_own _ _ (fun _ => _) s W W' row hs.a hg hr', boxed_own _ _ (fun _ => _) s W W' row hs.b hg hr',
   ownFrom_below (Nat.le_refl _) hB s W W' row hs.below hg hr⟩
/-- What holds where a round has left. -/
structure units_Plus.X (w : World) (c : Code) (pre : List (Int × Int)) (W : World) : Prop where
  ret : c = .ret
  bad : units_Plus.Bad pre
  out : Boxed W (w.heap.size + 1) 23 (.slice none 0 0)
  ok : Boxed W (w.heap.size + 1 + 1) 4 (.bool false)
  below : Below w.heap.size w W
theorem units_Plus.X.own (w : World) (c : Code) {B : Nat} (hB : w.heap.size ≤ B) : OwnFrom B (units_Plus.X w c) := fun s W W' row hs hg hr =>
  have hr' := fun r e => (hr r e).2
  ⟨hs.ret, hs.bad, boxed_own _ _ (fun _ => _) s W W' row hs.out hg hr', boxed_own _ _ (fun _ => _) s W W' row hs.ok hg hr', ownFrom_below (Nat.le_refl _) hB s W W' row hs.below hg hr⟩
theorem units_Plus.box_below {W W' : World} {B : Nat} {t : TypeId} {v : Value} (h : Boxed W B t v) (hb : Below W.heap.size W W') : Boxed W' B t v := (hb.block B h.lt).trans h
theorem units_Plus.keeps_below {W W' : World} (hb : Below W.heap.size W W') : KeepsOthers W W' := KeepsOthers.of_grownBy (grown_of_below hb none) (fun j o e _ => by cases e)
/-- What holds between two rounds holds when blocks have come. -/
theorem units_Plus.I.later {w : World} {A0 : Option Addr} {k0 n0 : Nat} {A1 : Option Addr} {k1 n1 : Nat} {pre : List (Int × Int)} {W W' : World} (h : units_Plus.I w A0 k0 n0 A1 k1 n1 pre W) (hb : Below W.heap.size W W') : units_Plus.I w A0 k0 n0 A1 k1 n1 pre W' := by
  obtain ⟨v, h1, h2, h3⟩ := h.row
  exact ⟨⟨v, units_Plus.box_below h1 hb, pw_own_below h2 hb, h3⟩, units_Plus.box_below h.fn hb, units_Plus.box_below h.ok hb, units_Plus.box_below h.a hb, units_Plus.box_below h.b hb, h.below.trans (hb.mono h.below.size)⟩
theorem units_Plus.X_close {w : World} {A0 : Option Addr} {k0 n0 : Nat} {A1 : Option Addr} {k1 n1 : Nat} {pre : List (Int × Int)} {W Wk : World} {x : Int × Int} (h : units_Plus.I w A0 k0 n0 A1 k1 n1 pre W) (hb : Below W.heap.size W Wk) (hx : units_Plus.okP x = false) :
    KeepsOthers W ((Wk.setCell ⟨w.heap.size + 1, 0, none⟩ (.slice none 0 0)).setCell ⟨w.heap.size + 1 + 1, 0, none⟩ (.bool false)) ∧ units_Plus.X w .ret (pre ++ [x]) ((Wk.setCell ⟨w.heap.size + 1, 0, none⟩ (.slice none 0 0)).setCell ⟨w.heap.size + 1 + 1, 0, none⟩ (.bool false)) := by
  obtain ⟨v, h1, h2, h3⟩ := h.row
  refine ⟨((units_Plus.keeps_below hb).trans (KeepsOthers.setCell _ _ _)).trans (KeepsOthers.setCell _ _ _), ⟨rfl, ⟨x, by simp, hx⟩, ?_, ?_, ?_⟩⟩
  · exact (Boxed.set _ (units_Plus.box_below h1 hb)).other (by omega) _
  · exact Boxed.set _ ((units_Plus.box_below h.ok hb).other (by omega) _)
  · exact ((h.below.trans (hb.mono h.below.size)).setCell (p := ⟨w.heap.size + 1, 0, none⟩) (by simp) _).setCell (p := ⟨w.heap.size + 1 + 1, 0, none⟩) (by simp; omega) _
theorem units_Plus.I_close {w : World} {A0 : Option Addr} {k0 n0 : Nat} {A1 : Option Addr} {k1 n1 : Nat} {pre : List (Int × Int)} {W W4 w1 : World} {x : Int × Int} {v v' : Value} {z : Int} (h : units_Plus.I w A0 k0 n0 A1 k1 n1 pre W) (hv : Boxed W (w.heap.size + 1) 23 v)
    (hrow : W.ownsRow w.heap.size 3 1 v (units_Plus.outs pre).length ((units_Plus.outs pre).map (Value.int .i64))) (hgood : units_Plus.Good pre) (hb : Below W.heap.size W W4) (hown : w1.ownsRow w.heap.size 3 1 v' ((units_Plus.outs pre).length + 1) ((units_Plus.outs pre).map (Value.int .i64) ++ [.int .i64 z]))
    (hgrow : (W4.alloc (.cells #[.int .i64 z] 3)).grownBy w1 v.ownBlock) (hx : units_Plus.okP x = true) (hz : z = units_Plus.g x.1 x.2) :
    Boxed w1 (w.heap.size + 1) 23 v ∧ KeepsOthers W (w1.setCell ⟨w.heap.size + 1, 0, none⟩ v') ∧ units_pairs.Kp w.heap.size (w.heap.size + 1 + 1 + 1) (w.heap.size + 1 + 1 + 1 + 1) W (w1.setCell ⟨w.heap.size + 1, 0, none⟩ v') ∧ units_Plus.I w A0 k0 n0 A1 k1 n1 (pre ++ [x]) (w1.setCell ⟨w.heap.size + 1, 0, none⟩ v') := by
  have hw := h.below.size
  have hv4 := units_Plus.box_below hv hb
  have hr4 := pw_own_below hrow hb
  obtain ⟨hv1, hv2, hr2, hk2, hb2⟩ := hv4.appended (by decide) hr4 (Nat.le_trans hw hb.size) (Nat.le_succ _) hown hgrow
  have keep : ∀ {B t : Nat} {u : Value}, Boxed W B t u → t ≠ 3 → B ≠ w.heap.size + 1 → Boxed (w1.setCell ⟨w.heap.size + 1, 0, none⟩ v') B t u := fun hB ht hne =>
    (((units_Plus.box_below hB hb).alloc (.cells #[.int .i64 z] 3)).kept hgrow (((units_Plus.box_below hB hb).alloc (.cells #[.int .i64 z] 3)).not_row ht (hr4.alloc (.cells #[.int .i64 z] 3)))).other hne v'
  have ha := keep h.a (by decide) (by omega)
  have hb' := keep h.b (by decide) (by omega)
  have hbel : Below w.heap.size W (w1.setCell ⟨w.heap.size + 1, 0, none⟩ v') := (hb.mono hw).trans hb2
  refine ⟨hv1, (units_Plus.keeps_below hb).trans hk2, ⟨hbel, ha.cell.trans h.a.cell.symm, hb'.cell.trans h.b.cell.symm⟩, ⟨v', hv2, ?_, hgood.snoc hx⟩, keep h.fn (by decide) (by omega), keep h.ok (by decide) (by omega), ha, hb', h.below.trans hbel⟩
  rw [units_Plus.outs_snoc, List.length_append, List.map_append, ← hz]
  exact hr2
set_option maxRecDepth 100000 in
set_option maxHeartbeats 8000000 in
theorem units_Plus.each (A0 : Option Addr) (k0 : Nat) (l0 : List Int) (A1 : Option Addr) (k1 : Nat) (l1 : List Int) (w : World) (hr0 : Kd.C (Kd.int .i64) w A0 l0.length l0) (hr1 : Kd.C (Kd.int .i64) w A1 l1.length l1)
    (hlen : l0.length = l1.length) (hmax : l0.length < 17592186044416) :
    Calls Try.prog 51 #[.slice A0 l0.length k0, .slice A1 l1.length k1, .func (.func 52) #[] #[]] w fun e w' =>
      (∃ v, e = .returned (.tuple #[v, .bool true]) ∧ w'.ownsRow w.heap.size 3 1 v (units_Plus.outs (l0.zip l1)).length ((units_Plus.outs (l0.zip l1)).map (Value.int .i64)) ∧ units_Plus.Good (l0.zip l1) ∧ Below w.heap.size w w') ∨
      (e = .returned (.tuple #[.slice none 0 0, .bool false]) ∧ units_Plus.Bad (l0.zip l1) ∧ Below w.heap.size w w') := by
  have HR0 := Aside0.mk hr0
  have HR1 := Aside0.mk hr1
  have hb0 : ((l0.length : Int) != (l1.length : Int)) = false := bne_eq_false_iff_eq.mpr (by omega)
  have HL := Aside0.mk hlen
  have HM := Aside0.mk hmax
  clear hr0 hr1 hlen hmax
  obtain ⟨i0, hi, hz0, hz1, hz2⟩ := info_parts (show (Try.prog.info? 3).map (fun i => (i.zero, i.size, i.bytes)) = some (some (.int .i64 0), 1, 8) by kernel_rfl)
  refine (callsIn_wide (n := 3)).1 ?_
  refine callsIn_of_wp_marks Try.func51 rfl trivial ?_ rfl
  simp only [Try.ntmps51, List.size_toArray, List.length_cons, List.length_nil, Nat.reduceAdd, Nat.reduceSub, Array.replicate_succ, Array.replicate_zero, List.push_toArray, List.append_toArray, List.nil_append, List.cons_append]
  have hf1 : Fence.wide.fn 57 := trivial
  gi_wp2_with (gi_at_call 57; (with_reducible refine (units_pairs.make _ _ _ _ _ _ _ _).mono ?_); rintro e w' ⟨rfl, rfl⟩)
  obtain ⟨W0, hW⟩ : ∃ W0, (((((w.alloc (.cells #[.func (.func 52) #[] #[]] 58)).alloc (.cells #[.slice none 0 0] 23)).alloc (.cells #[.bool false] 4)).alloc (.cells #[.slice A0 l0.length k0] 23)).alloc (.cells #[.slice A1 l1.length k1] 23)) = W0 := ⟨_, rfl⟩
  have hI0 : units_Plus.I w A0 k0 l0.length A1 k1 l1.length [] W0 := by
    rw [← hW]
    have e0 := Boxed.new w 58 (.func (.func 52) #[] #[])
    have e1 := Boxed.new (w.alloc (.cells #[.func (.func 52) #[] #[]] 58)) 23 (.slice none 0 0)
    have e2 := Boxed.new ((w.alloc (.cells #[.func (.func 52) #[] #[]] 58)).alloc (.cells #[.slice none 0 0] 23)) 4 (.bool false)
    have e3 := Boxed.new (((w.alloc (.cells #[.func (.func 52) #[] #[]] 58)).alloc (.cells #[.slice none 0 0] 23)).alloc (.cells #[.bool false] 4)) 23 (.slice A0 l0.length k0)
    have e4 := Boxed.new ((((w.alloc (.cells #[.func (.func 52) #[] #[]] 58)).alloc (.cells #[.slice none 0 0] 23)).alloc (.cells #[.bool false] 4)).alloc (.cells #[.slice A0 l0.length k0] 23)) 23 (.slice A1 l1.length k1)
    simp only [World.size_alloc] at e1 e2 e3 e4
    exact ⟨⟨_, ((e1.alloc _).alloc _).alloc _, World.ownsRow_nil _ _ _ _, rfl⟩, (((e0.alloc _).alloc _).alloc _).alloc _, (e2.alloc _).alloc _, e3.alloc _, e4, ((((Below.refl _ w).alloc (Nat.le_refl _) _).alloc (by simp) _).alloc (by simp; omega) _).alloc (by simp; omega) _ |>.alloc (by simp; omega) _⟩
  have hsz : W0.heap.size = w.heap.size + 5 := by rw [← hW]; simp
  rw [hW]
  clear hW
  have HI0 := Aside0.mk hI0
  clear hI0
  refine wpIn_rangeFunc_ownF rfl (by omega) (gf := 58) (lb := #[.pointer (some ⟨w.heap.size + 1 + 1 + 1, 0, none⟩), .pointer (some ⟨w.heap.size + 1 + 1 + 1 + 1, 0, none⟩)]) rfl trivial (enters_of Try.func58 (by kernel_rfl) rfl)
    (units_pairs.iter 2 (w.heap.size + 1 + 1 + 1) (w.heap.size + 1 + 1 + 1 + 1) w A0 k0 l0 A1 k1 l1 HR0.out HR1.out W0 HI0.out.below (by omega) (by omega) HI0.out.a.cell HI0.out.b.cell) (fun h k => h.trans k)
    (fun W l o o' hl ho hc hw => units_pairs.Kp_put W o' (by omega) (by omega) (by omega) ho hc hw) (Below.refl _ _) (fun _ => rfl)
    (units_Plus.I w A0 k0 l0.length A1 k1 l1.length) (units_Plus.X w) (units_Plus.I.own w A0 k0 l0.length A1 k1 l1.length (by omega)) (fun c => units_Plus.X.own w c (by omega)) HI0.out
    (fun x => { tmps := #[.slice A0 l0.length k0, .slice A1 l1.length k1, .func (.func 52) #[] #[], undef, undef, .pointer (some ⟨w.heap.size, 0, none⟩), .pointer (some ⟨w.heap.size + 1, 0, none⟩), .pointer (some ⟨w.heap.size + 1 + 1, 0, none⟩), .int .i64 x.1, .int .i64 x.2,
          .slice A0 l0.length k0, .int .i64 l0.length, .slice A1 l1.length k1, .int .i64 l1.length, .bool false, .slice A0 l0.length k0, .slice A1 l1.length k1,
          .func (.func 58) #[] #[.pointer (some ⟨w.heap.size + 1 + 1 + 1, 0, none⟩), .pointer (some ⟨w.heap.size + 1 + 1 + 1 + 1, 0, none⟩)], .int .i64 x.1, .int .i64 x.2,
          undef, undef, undef, undef, undef, undef, undef, undef, undef, undef, undef, undef, undef, undef, undef, undef, undef, undef, undef, undef, undef, undef], defers := [] }) ?assign ?body ?done ?stop
  case assign =>
    intro l x W K hK
    gi_wp2
    exact hK
  case body =>
    rintro l pre ⟨x, y⟩ W hI hpl
    have HI := Aside0.mk hI
    have HPL := Aside0.mk hpl
    have hfc := hI.fn.cell
    have hoc := hI.ok.cell
    have hof := hI.ok.frozen
    obtain ⟨v, hv, hrow, hgood⟩ := hI.row
    have hvc := hv.cell
    have hvf := hv.frozen
    have HV := Aside0.mk hv
    have HROW := Aside0.mk hrow
    have HGOOD := Aside0.mk hgood
    clear hI hpl hv hrow hgood
    have hf2 : Fence.wide.fn 56 := trivial
    have hf3 : Fence.wide.fn 52 := trivial
    obtain ⟨b2, hb2⟩ : ∃ b2, Aside0 ((units_each.okB x && units_each.okB y) = b2) := ⟨_, ⟨rfl⟩⟩
    cases b2 with
    | false =>
      gi_wp2_with (gi_at_call 56; (with_reducible refine (units_each.may2 l _ (x := x) (y := y) (b := false) hb2.out ?side1 ?side2).mono ?_); (case side1 => simp); (case side2 => simp); rintro e W1 ⟨rfl, hd⟩; have HB1 : Aside0 (Below W.heap.size W W1) := ⟨below_then (below_alloc (Below.refl _ _) _) (by simp) hd.below⟩; clear hd; have hfc1 := (units_Plus.box_below HI.out.fn HB1.out).cell; have hoc1 := (units_Plus.box_below HI.out.ok HB1.out).cell; have hof1 := (units_Plus.box_below HI.out.ok HB1.out).frozen; have hvc1 := (units_Plus.box_below HV.out HB1.out).cell; have hvf1 := (units_Plus.box_below HV.out HB1.out).frozen)
      refine ⟨fun _ h => (by cases h), ?_⟩
      gi_wp2
      exact units_Plus.X_close HI.out HB1.out (by show (_ && _) = false; rw [hb2.out]; rfl)
    | true =>
      obtain ⟨⟨x0, x1⟩, ⟨y0, y1⟩⟩ : (0 ≤ x ∧ x ≤ 1000) ∧ (0 ≤ y ∧ y ≤ 1000) := by
        have := hb2.out
        simp only [Bool.and_eq_true] at this
        exact ⟨units_Plus.okB_bd this.1, units_Plus.okB_bd this.2⟩
      obtain ⟨z, hz⟩ : ∃ z, Aside0 (z = units_Plus.g x y) := ⟨_, ⟨rfl⟩⟩
      have HONE : Aside0 (∀ n W, CallsIn (Fence.wide.inRound l) n Try.prog 52 #[.int .i64 x, .int .i64 y] W fun e W' => e = .returned (.int .i64 z) ∧ Below W.heap.size W W') := ⟨fun n W => CallsIn.inRound l (callsIn_wide.2 (by rw [hz.out]; exact units_Plus.one x y x0 x1 y0 y1 W))⟩
      clear x0 x1 y0 y1
      obtain ⟨b3, hb3⟩ : ∃ b3, Aside0 (units_each.okB z = b3) := ⟨_, ⟨rfl⟩⟩
      cases b3 with
      | false =>
        gi_wp2_with (first | (gi_at_call 56; (with_reducible refine (units_each.may2 l _ (x := x) (y := y) (b := true) hb2.out ?side1 ?side2).mono ?_); (case side1 => simp); (case side2 => simp); rintro e W1 ⟨rfl, hd⟩; have HB1 : Aside0 (Below W.heap.size W W1) := ⟨below_then (below_alloc (Below.refl _ _) _) (by simp) hd.below⟩; clear hd; have hfc1 := (units_Plus.box_below HI.out.fn HB1.out).cell; have hoc1 := (units_Plus.box_below HI.out.ok HB1.out).cell; have hof1 := (units_Plus.box_below HI.out.ok HB1.out).frozen; have hvc1 := (units_Plus.box_below HV.out HB1.out).cell; have hvf1 := (units_Plus.box_below HV.out HB1.out).frozen) | (gi_at_call 52; (with_reducible refine (HONE.out _ _).mono ?_); rintro e W2 ⟨rfl, hd⟩; have HB2 : Aside0 (Below W.heap.size W W2) := ⟨HB1.out.trans (hd.mono HB1.out.size)⟩; clear hd) | (gi_at_call 56; (with_reducible refine (units_each.may1 l _ (x := z) hb3.out ?sidf1).mono ?_); (case sidf1 => simp); rintro e W3 ⟨rfl, hd⟩; have HB3 : Aside0 (Below W.heap.size W W3) := ⟨below_then (below_alloc HB2.out _) (by simp; have := HB2.out.size; omega) hd.below⟩; clear hd; have hfc3 := (units_Plus.box_below HI.out.fn HB3.out).cell; have hoc3 := (units_Plus.box_below HI.out.ok HB3.out).cell; have hof3 := (units_Plus.box_below HI.out.ok HB3.out).frozen; have hvc3 := (units_Plus.box_below HV.out HB3.out).cell; have hvf3 := (units_Plus.box_below HV.out HB3.out).frozen))
        exact units_Plus.X_close HI.out HB3.out (by show (_ && units_each.okB (units_Plus.g x y)) = false; rw [← hz.out, hb3.out, Bool.and_false])
      | true =>
        gi_wp2_with (first | (gi_at_call 56; (with_reducible refine (units_each.may2 l _ (x := x) (y := y) (b := true) hb2.out ?side1 ?side2).mono ?_); (case side1 => simp); (case side2 => simp); rintro e W1 ⟨rfl, hd⟩; have HB1 : Aside0 (Below W.heap.size W W1) := ⟨below_then (below_alloc (Below.refl _ _) _) (by simp) hd.below⟩; clear hd; have hfc1 := (units_Plus.box_below HI.out.fn HB1.out).cell; have hoc1 := (units_Plus.box_below HI.out.ok HB1.out).cell; have hof1 := (units_Plus.box_below HI.out.ok HB1.out).frozen; have hvc1 := (units_Plus.box_below HV.out HB1.out).cell; have hvf1 := (units_Plus.box_below HV.out HB1.out).frozen) | (gi_at_call 52; (with_reducible refine (HONE.out _ _).mono ?_); rintro e W2 ⟨rfl, hd⟩; have HB2 : Aside0 (Below W.heap.size W W2) := ⟨HB1.out.trans (hd.mono HB1.out.size)⟩; clear hd) | (gi_at_call 56; (with_reducible refine (units_each.may1 l _ (x := z) hb3.out ?sidf1).mono ?_); (case sidf1 => simp); rintro e W3 ⟨rfl, hd⟩; have HB3 : Aside0 (Below W.heap.size W W3) := ⟨below_then (below_alloc HB2.out _) (by simp; have := HB2.out.size; omega) hd.below⟩; clear hd; have hfc3 := (units_Plus.box_below HI.out.fn HB3.out).cell; have hoc3 := (units_Plus.box_below HI.out.ok HB3.out).cell; have hof3 := (units_Plus.box_below HI.out.ok HB3.out).frozen; have hvc3 := (units_Plus.box_below HV.out HB3.out).cell; have hvf3 := (units_Plus.box_below HV.out HB3.out).frozen))
        refine wpIn_region_any (by kernel_rfl) ?_
        change wpAnyIn _ _ _ _ _ _ _ _ _ (World.drew _)
        refine units_each.take' (i := 2) (N := some 36) (v := ?_) (a' := ?_) (listed' := #[false, false, true, false, false, false, false, false]) (by kernel_rfl) rfl rfl (by kernel_rfl) (by kernel_rfl) (by kernel_rfl) (fun _ _ _ h => h) ⟨Or.inl ⟨by rfl, ?_⟩, fun _ => rfl⟩ rfl ?_ ?_
        rotate_left
        rotate_left
        · intro w
          go_simp
          with_reducible rfl
        · simp only [Act.put, List.setIfInBounds_toArray, List.set_cons_zero, List.set_cons_succ]
          rfl
        refine units_each.take' (i := 3) (N := some 37) (v := ?_) (a' := ?_) (listed' := #[false, false, true, true, false, false, false, false]) (by kernel_rfl) rfl rfl (by kernel_rfl) (by kernel_rfl) (by kernel_rfl) (fun _ _ _ h => h) ⟨Or.inl ⟨by rfl, ?_⟩, fun _ => rfl⟩ rfl ?_ ?_
        rotate_left
        rotate_left
        · intro w
          go_simp
          with_reducible rfl
        · simp only [Act.put, List.setIfInBounds_toArray, List.set_cons_zero, List.set_cons_succ]
          rfl
        have HINF := Aside0.mk (And.intro hi (And.intro hz0 (And.intro hz1 hz2)))
        clear hi hz0 hz1 hz2
        have HOL : Aside0 ((units_Plus.outs pre).length < 17592186044416) := ⟨by rw [units_Plus.outs_length]; have := HPL.out; have := HM.out; omega⟩
        have HOKP : Aside0 (units_Plus.okP (x, y) = true) := ⟨by show (_ && units_each.okB (units_Plus.g x y)) = true; rw [hb2.out, ← hz.out, hb3.out]; rfl⟩
        refine units_each.two (i := 0) (j := 1) (by kernel_rfl) rfl rfl (fun K hK => ?_) (fun K hK => ?_)
        · gi_wp2
          refine units_each.seq [1, 4, 5, 6, 7] [_, _, _, _, _] _ _ _ rfl (by kernel_rfl) ?_
          simp only [List.getElem_toArray, List.getElem_cons_succ, List.getElem_cons_zero]
          gi_wp2_with (first | (gi_at_call 52; (with_reducible refine (HONE.out _ _).mono ?_); rintro e W4 ⟨rfl, hd⟩; have HB4 : Aside0 (Below W.heap.size W W4) := ⟨(below_drew HB3.out).trans (hd.mono HB3.out.size)⟩; clear hd; have hvc4 := (units_Plus.box_below HV.out HB4.out).cell; have hfc4 := (units_Plus.box_below HI.out.fn HB4.out).cell; have HROW4 := Aside0.mk (pw_own_below HROW.out HB4.out)) | (gi_at_builtin; refine wpListIn_append_own _ rfl _ _ 23 rfl w.heap.size 3 i0 (.int .i64 0) 1 8 Try.underlying23 HINF.out.1 HINF.out.2.1 HINF.out.2.2.1 HINF.out.2.2.2 rfl (by decide) _ _ _ rfl (HROW4.out.alloc _) ⟨W4.heap.size, 0, none⟩ 1 1 [.int .i64 z] rfl rfl (cell_one_new _ _ _) (by simp [Value.oneCell']) (by unfold maxLen; have := HOL.out; omega) (by have := HOL.out; omega) (by have := HB4.out.size; have := HI.out.below.size; simp; omega) ?_; intro v' w1 hown' hgrow _; obtain ⟨g', cap', rfl⟩ := ownsRow_succ hown'; have HCL := Aside0.mk (units_Plus.I_close (x := (x, y)) HI.out HV.out HROW.out HGOOD.out HB4.out hown' hgrow HOKP.out hz.out); clear hown' hgrow; have hwc1 := HCL.out.1.cell; have hwf1 := HCL.out.1.frozen))
          exact HCL.out.2
        · gi_wp2
          refine units_each.two (i := 0) (j := 4) (by kernel_rfl) rfl rfl (fun K hK => ?_) (fun K hK => ?_)
          · gi_wp2
            refine units_each.seq [4, 5, 6, 7] [_, _, _, _] _ _ _ rfl (by kernel_rfl) ?_
            simp only [List.getElem_toArray, List.getElem_cons_succ, List.getElem_cons_zero]
            gi_wp2_with (first | (gi_at_call 52; (with_reducible refine (HONE.out _ _).mono ?_); rintro e W4 ⟨rfl, hd⟩; have HB4 : Aside0 (Below W.heap.size W W4) := ⟨(below_drew HB3.out).trans (hd.mono HB3.out.size)⟩; clear hd; have hvc4 := (units_Plus.box_below HV.out HB4.out).cell; have hfc4 := (units_Plus.box_below HI.out.fn HB4.out).cell; have HROW4 := Aside0.mk (pw_own_below HROW.out HB4.out)) | (gi_at_builtin; refine wpListIn_append_own _ rfl _ _ 23 rfl w.heap.size 3 i0 (.int .i64 0) 1 8 Try.underlying23 HINF.out.1 HINF.out.2.1 HINF.out.2.2.1 HINF.out.2.2.2 rfl (by decide) _ _ _ rfl (HROW4.out.alloc _) ⟨W4.heap.size, 0, none⟩ 1 1 [.int .i64 z] rfl rfl (cell_one_new _ _ _) (by simp [Value.oneCell']) (by unfold maxLen; have := HOL.out; omega) (by have := HOL.out; omega) (by have := HB4.out.size; have := HI.out.below.size; simp; omega) ?_; intro v' w1 hown' hgrow _; obtain ⟨g', cap', rfl⟩ := ownsRow_succ hown'; have HCL := Aside0.mk (units_Plus.I_close (x := (x, y)) HI.out HV.out HROW.out HGOOD.out HB4.out hown' hgrow HOKP.out hz.out); clear hown' hgrow; have hwc1 := HCL.out.1.cell; have hwf1 := HCL.out.1.frozen))
            exact HCL.out.2
          · simp only [List.getElem_toArray, List.getElem_cons_succ, List.getElem_cons_zero]
            gi_wp2_with (gi_at_call 52; (with_reducible refine (HONE.out _ _).mono ?_); rintro e W4 ⟨rfl, hd⟩; have HB4 : Aside0 (Below W.heap.size W W4) := ⟨(below_drew HB3.out).trans (hd.mono HB3.out.size)⟩; clear hd; have hvc4 := (units_Plus.box_below HV.out HB4.out).cell; have hfc4 := (units_Plus.box_below HI.out.fn HB4.out).cell; have HROW4 := Aside0.mk (pw_own_below HROW.out HB4.out))
            refine units_each.two (i := 0) (j := 5) (by kernel_rfl) rfl rfl (fun K hK => ?_) (fun K hK => ?_)
            · gi_wp2
              refine units_each.seq [5, 6, 7] [_, _, _] _ _ _ rfl (by kernel_rfl) ?_
              simp only [List.getElem_toArray, List.getElem_cons_succ, List.getElem_cons_zero]
              gi_wp2_with (gi_at_builtin; refine wpListIn_append_own _ rfl _ _ 23 rfl w.heap.size 3 i0 (.int .i64 0) 1 8 Try.underlying23 HINF.out.1 HINF.out.2.1 HINF.out.2.2.1 HINF.out.2.2.2 rfl (by decide) _ _ _ rfl (HROW4.out.alloc _) ⟨W4.heap.size, 0, none⟩ 1 1 [.int .i64 z] rfl rfl (cell_one_new _ _ _) (by simp [Value.oneCell']) (by unfold maxLen; have := HOL.out; omega) (by have := HOL.out; omega) (by have := HB4.out.size; have := HI.out.below.size; simp; omega) ?_; intro v' w1 hown' hgrow _; obtain ⟨g', cap', rfl⟩ := ownsRow_succ hown'; have HCL := Aside0.mk (units_Plus.I_close (x := (x, y)) HI.out HV.out HROW.out HGOOD.out HB4.out hown' hgrow HOKP.out hz.out); clear hown' hgrow; have hwc1 := HCL.out.1.cell; have hwf1 := HCL.out.1.frozen)
              exact HCL.out.2
            · gi_wp2
              have hvc5 := units_pairs.cell_old (.cells #[.int .i64 z] 3) hvc4
              refine units_each.seq [0, 6, 7] [_, _, _] _ _ _ rfl (by kernel_rfl) ?_
              simp only [List.getElem_toArray, List.getElem_cons_succ, List.getElem_cons_zero]
              gi_wp2_with (gi_at_builtin; refine wpListIn_append_own _ rfl _ _ 23 rfl w.heap.size 3 i0 (.int .i64 0) 1 8 Try.underlying23 HINF.out.1 HINF.out.2.1 HINF.out.2.2.1 HINF.out.2.2.2 rfl (by decide) _ _ _ rfl (HROW4.out.alloc _) ⟨W4.heap.size, 0, none⟩ 1 1 [.int .i64 z] rfl rfl (cell_one_new _ _ _) (by simp [Value.oneCell']) (by unfold maxLen; have := HOL.out; omega) (by have := HOL.out; omega) (by have := HB4.out.size; have := HI.out.below.size; simp; omega) ?_; intro v' w1 hown' hgrow _; obtain ⟨g', cap', rfl⟩ := ownsRow_succ hown'; have HCL := Aside0.mk (units_Plus.I_close (x := (x, y)) HI.out HV.out HROW.out HGOOD.out HB4.out hown' hgrow HOKP.out hz.out); clear hown' hgrow; have hwc1 := HCL.out.1.cell; have hwf1 := HCL.out.1.frozen)
              exact HCL.out.2
  case done =>
    rintro D ys W hD rfl hI hK
    obtain ⟨v, hv, hrow, hgood⟩ := hI.row
    have hvc := hv.cell
    have hvf := hv.frozen
    have hoc := hI.ok.cell
    have hof := hI.ok.frozen
    have HI := Aside0.mk hI
    have HV := Aside0.mk hv
    have HROW := Aside0.mk hrow
    have HGOOD := Aside0.mk hgood
    clear hI hv hrow hgood
    obtain ⟨A', c', rfl⟩ := own_slice HROW.out
    gi_wp2
    have hv1 := Boxed.set (.slice A' (units_Plus.outs (l0.zip l1)).length c') HV.out
    have hk1 := HI.out.ok.other (B' := w.heap.size + 1) (by omega) (.slice A' (units_Plus.outs (l0.zip l1)).length c')
    have hv2 := hv1.other (B' := w.heap.size + 1 + 1) (by omega) (.bool true)
    have hk2 := Boxed.set (.bool true) hk1
    have hr1 := HROW.out.kept (grownBy_setCell' W (w.heap.size + 1) (.slice A' (units_Plus.outs (l0.zip l1)).length c')) (.inr (HV.out.not_row (by decide) HROW.out).symm)
    have hr2 := hr1.kept (grownBy_setCell' (W.setCell ⟨w.heap.size + 1, 0, none⟩ (.slice A' (units_Plus.outs (l0.zip l1)).length c')) (w.heap.size + 1 + 1) (.bool true)) (.inr (hk1.not_row (by decide) hr1).symm)
    have hb2 := (HI.out.below.setCell (p := ⟨w.heap.size + 1, 0, none⟩) (by simp) (.slice A' (units_Plus.outs (l0.zip l1)).length c')).setCell (p := ⟨w.heap.size + 1 + 1, 0, none⟩) (by simp; omega) (.bool true)
    have hK1 := (KeepsOthers.setCell W ⟨w.heap.size + 1, 0, none⟩ (.slice A' (units_Plus.outs (l0.zip l1)).length c')).same D _ hK rfl
    have hK2 := (KeepsOthers.setCell _ ⟨w.heap.size + 1 + 1, 0, none⟩ (.bool true)).same D _ hK1 rfl
    refine ⟨by simp, .inl ⟨_, _, rfl, run_takeDeferred hK2, ?_⟩⟩
    have hc5 := Go.cell_kept hv2.cell (grownBy_putObj' _ D (.deferred none)) (fun r e => by cases e; exact ⟨_, hK2, rfl⟩)
    have hc6 := Go.cell_kept hk2.cell (grownBy_putObj' _ D (.deferred none)) (fun r e => by cases e; exact ⟨_, hK2, rfl⟩)
    refine ⟨.tuple #[(.slice A' (units_Plus.outs (l0.zip l1)).length c'), .bool true], ?_, .inl ⟨(.slice A' (units_Plus.outs (l0.zip l1)).length c'), rfl, ownsRow_putObj hr2 _ hK2 rfl, HGOOD.out, hb2.trans (belowK_b (w := w) (Nat.le_refl _) _ D _ _ (by omega) hK2 rfl rfl)⟩⟩
    simp [results, Try.f51, go_sem, hc5, hc6]
  case stop =>
    rintro D c pre W hD hpre hX hK
    obtain ⟨rfl, ⟨p, hp, hbad⟩, hout, hok, hbel⟩ := hX
    have HOUT := Aside0.mk hout
    have HOK := Aside0.mk hok
    have HBEL := Aside0.mk hbel
    have HBAD : Aside0 (units_Plus.Bad (l0.zip l1)) := ⟨⟨p, hpre.subset hp, hbad⟩⟩
    clear hout hok hbel hp hbad
    gi_wp2
    refine ⟨by simp, .inl ⟨_, _, rfl, run_takeDeferred hK, ?_⟩⟩
    have hc5 := Go.cell_kept HOUT.out.cell (grownBy_putObj' _ D (.deferred none)) (fun r e => by cases e; exact ⟨_, hK, rfl⟩)
    have hc6 := Go.cell_kept HOK.out.cell (grownBy_putObj' _ D (.deferred none)) (fun r e => by cases e; exact ⟨_, hK, rfl⟩)
    refine ⟨.tuple #[.slice none 0 0, .bool false], ?_, .inr ⟨rfl, HBAD.out, HBEL.out.trans (belowK_b (w := w) (Nat.le_refl _) W D _ _ (by omega) hK rfl rfl)⟩⟩
    simp [results, Try.f51, go_sem, hc5, hc6]
set_option maxHeartbeats 4000000 in
theorem units_Plus.each_ne (A0 : Option Addr) (k0 : Nat) (l0 : List Int) (A1 : Option Addr) (k1 : Nat) (l1 : List Int) (w : World) (hlen : ¬ l0.length = l1.length) :
    Calls Try.prog 51 #[.slice A0 l0.length k0, .slice A1 l1.length k1, .func (.func 52) #[] #[]] w fun e w' => e = .returned (.tuple #[.slice none 0 0, .bool false]) ∧ Below w.heap.size w w' := by
  have hb0 : ((l0.length : Int) != (l1.length : Int)) = true := bne_iff_ne.mpr (by omega)
  clear hlen
  go_enter Try.func51, Try.ntmps51
  go_wp2
  refine bodyPost_ret (v := .tuple #[.slice none 0 0, .bool false]) (by simp [results, Try.f51, go_sem]) rfl ⟨rfl, ?_⟩
  repeat (first | exact Below.refl _ _ | refine Below.setCell ?_ (by simp) _ | refine Below.setCell ?_ (by simp; omega) _ | refine below_alloc ?_ _)
/-- What comes of two lists, number by number. -/
def units_Plus.f (l0 : List Int) (l1 : List Int) : Option (List Int × Bool) :=
  if l0.length < 17592186044416 then some (if l0.length = l1.length then (if (l0.zip l1).all units_Plus.okP = true then (units_Plus.outs (l0.zip l1), true) else ([], false)) else ([], false)) else none
set_option maxHeartbeats 4000000 in
theorem units_Plus.calls (A0 : Option Addr) (c0 : Nat) (l0 : List Int) (A1 : Option Addr) (c1 : Nat) (l1 : List Int) (r1 : List Int) (r2 : Bool) (w : World) (hr0 : Kd.C (Kd.int .i64) w A0 l0.length l0) (hc0 : l0.length ≤ c0) (hr1 : Kd.C (Kd.int .i64) w A1 l1.length l1) (hc1 : l1.length ≤ c1) (h : units_Plus.f l0 l1 = some (r1, r2)) :
    Calls Try.prog 31 #[.slice A0 l0.length c0, .slice A1 l1.length c1] w fun e w' => ∃ v0_ : Value, e = .returned (.tuple #[v0_, .bool r2]) ∧ Kd.R (Kd.int .i64) 3 w' w.heap.size (fun _ => True) v0_ r1 ∧ Below w.heap.size w w' := by
  unfold units_Plus.f at h
  by_cases hmax : l0.length < 17592186044416
  · rw [if_pos hmax] at h
    replace h := Option.some.inj h
    by_cases hlen : l0.length = l1.length
    · rw [if_pos hlen] at h
      have HC := Aside0.mk (units_Plus.each A0 c0 l0 A1 c1 l1 w hr0 hr1 hlen hmax)
      have H := Aside0.mk h
      clear hr0 hr1 hlen hmax h hc0 hc1
      go_enter Try.func31, Try.ntmps31
      go_wp2_with fail
      (with_reducible refine HC.out.mono ?_)
      rintro e w' (⟨v, rfl, hrow, hgood, hb⟩ | ⟨rfl, ⟨p, hp, hbad⟩, hb⟩)
      · have HR := Aside0.mk hrow
        have HG := Aside0.mk hgood
        have HB := Aside0.mk hb
        clear hrow hgood hb
        go_wp2
        go_ret2
        have h1 := H.out
        rw [if_pos (show (l0.zip l1).all units_Plus.okP = true from HG.out)] at h1
        cases h1
        exact ⟨v, rfl, Kd.R_of_own (enc := Value.int .i64) (h1 := fun _ => rfl) HR.out (fun _ _ => trivial), HB.out⟩
      · have HG : Aside0 (¬ (l0.zip l1).all units_Plus.okP = true) := ⟨fun hg => by
          have := List.all_eq_true.1 hg p hp
          rw [hbad] at this
          cases this⟩
        have HB := Aside0.mk hb
        clear hp hbad hb
        go_wp2
        go_ret2
        have h1 := H.out
        rw [if_neg HG.out] at h1
        cases h1
        exact ⟨_, rfl, Kd.R_nil _ _ _ _ _, HB.out⟩
    · rw [if_neg hlen] at h
      have HC := Aside0.mk (units_Plus.each_ne A0 c0 l0 A1 c1 l1 w hlen)
      have H := Aside0.mk h
      clear hr0 hr1 hlen hmax h hc0 hc1
      go_enter Try.func31, Try.ntmps31
      go_wp2_with fail
      (with_reducible refine HC.out.mono ?_)
      rintro e w' ⟨rfl, hb⟩
      have HB := Aside0.mk hb
      clear hb
      go_wp2
      go_ret2
      have h1 := H.out
      cases h1
      exact ⟨_, rfl, Kd.R_nil _ _ _ _ _, HB.out⟩
  · rw [if_neg hmax] at h
    cases h
end

end Go.Proofs.Ytfbcilmiagmijaa.PUnits
