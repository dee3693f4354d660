import Derived.Test.YtdgaklldijkoaaaPCodex0
import Derived.Test.YtdgaklldijkoaaaCodeR
import Derived.Test.YtdgaklldijkoaaaPCodex10
import Derived.BigQuiet
import Derived.IntWalk
import Derived.WalkMore
import Derived.Laws.EntriesVeiled
import Derived.StillTailTactics
import Derived.Laws.BitsAllLaws
import Derived.Laws.BitsLemmas
import Derived.Laws.Strings
import Derived.Lib.SlBytesConst
import Derived.Deep.Matrix
import Derived.Deep.Slices
import Derived.Deep.Fields
import Derived.ChangeSame
import Derived.ChangeArms
import Derived.OpenShut
namespace Go.Proofs.Ytdgaklldijkoaaa.PCode
open Go.RowKit Go.Proofs.YtdgaklldijkoaaaW.PrintWords Go.Proofs.YtdgaklldijkoaaaW.PrintLast Go.Proofs.YtdgaklldijkoaaaW.PrintMore
attribute [local go_sem] max2_int min2_int max_two min_two max_three min_three max_four min_four
set_option linter.unusedVariables false
set_option linter.unusedSimpArgs false
/-! Facts for CodeTorn. -/
theorem Byt_take {l : List Int} (k : Nat) (h : Byt l) : Byt (l.take k) := fun x hx => h x (List.mem_of_mem_take hx)
theorem Byt_one {l : List Int} {y : Int} (h : Byt l) (hy : 0 ≤ y ∧ y ≤ 255) : Byt (l ++ [y]) := fun x hx => by
  rcases List.mem_append.1 hx with hx | hx
  · exact h x hx
  · cases List.mem_singleton.1 hx
    exact ⟨hy.1, by omega⟩
/-- The bytes' xor. -/
def xor8 (x y : Int) : Int := Go.bits .xor .u8 x y
theorem within_c {w : World} {a m : Int} {k : Nat} (h : signalboxmake_Within.f a 0 m = some (k : Int)) : Calls Try.prog 18 #[.int .i64 a, .int .i64 0, .int .i64 m] w fun e w' => e = .returned (.int .i64 (k : Int)) ∧ Below w.heap.size w w' :=
  (signalboxmake_Within.calls a 0 m k w h).mono fun _ _ h => ⟨h.1, h.2.below⟩
theorem dec_e {w : World} {A : Option Addr} {c n : Nat} {l : List Int} {q : Pg} {f : Int} (he : dec l = (q, f)) (hn : n = l.length) (hy : Byt l) (hC : Kd.C (Kd.int .u8) w A l.length l) (hc : l.length ≤ c) :
    Calls Try.prog 14 #[.slice A n c] w fun e w' => (∃ B0 d0 B1 d1 B2 d2 B4 d4 B5 d5 B6 d6 B7 d7, e = .returned (.tuple #[.agg #[.slice B0 q.a.length d0, .slice B1 q.b.length d1, .slice B2 q.c.length d2, .int .i64 q.d, .slice B4 q.e.length d4, .slice B5 q.f.length d5, .slice B6 q.g.length d6, .slice B7 q.h.length d7, .int .i64 q.i], .int .i64 f]) ∧ PX w' B0 d0 B1 d1 B2 d2 B4 d4 B5 d5 B6 d6 B7 d7 q) ∧ Below w.heap.size w w' := by
  have H := decode_any hn hy hC hc
  rw [he] at H
  exact H.mono fun e w' ⟨v, k1, ⟨B0, d0, B1, d1, B2, d2, B4, d4, B5, d5, B6, d6, B7, d7, k2, k3⟩, k4⟩ => ⟨⟨B0, d0, B1, d1, B2, d2, B4, d4, B5, d5, B6, d6, B7, d7, by rw [k1, k2], k3⟩, k4⟩
set_option maxHeartbeats 16000000 in
set_option maxRecDepth 100000 in
theorem torn_small {w : World} {v : Value} {p : Pg} {k y : Int} (h : PR w v p) (hs : Ev (fun k => signalboxmake_Small.f k p.a p.b p.c p.d p.e p.f p.g p.h p.i 3000) false) : Calls Try.prog 6 #[v, .int .i64 k, .int .u8 y] w fun e w' => e = .returned (.bool true) ∧ Below w.heap.size w w' := by
  obtain ⟨A0, c0, A1, c1, A2, c2, A4, c4, A5, c5, A6, c6, A7, c7, rfl, hx⟩ := h
  have HP := Aside0.mk hx
  have HS := Aside0.mk hs
  have HB := Aside0.mk (Below.refl w.heap.size w)
  clear hx hs
  go_enter Try.func6, Try.ntmps6
  go_wp2_with (first | ((with_reducible refine gate_dst (N := 3) rfl ?_); refine box_event ?hg (N := 3) ?hd (cs := (pv A0 c0 A1 c1 A2 c2 A4 c4 A5 c5 A6 c6 A7 c7 p)) (t := 29) ?hr ?_; (case hd => rfl); (case hg => rfl); (case hr => first | (go_simp; done) | (go_simp; rfl)); intro g3 hg w3 hbox hb; have n0_ := Aside0.mk (below_step HB.out hb); have n1_ := Aside0.mk (HP.out.below hb); have n2_ := Aside0.mk (hbox); clear HB HP; have HB := n0_; have HP := n1_; have BP := n2_; clear n0_ n1_ n2_; have hcp0 : w3.cell? ⟨g3, 0, none⟩ = some (.slice A0 p.a.length c0) := (blk_cell BP.out 0).trans rfl; have hcp1 : w3.cell? ⟨g3, 1, none⟩ = some (.slice A1 p.b.length c1) := (blk_cell BP.out 1).trans rfl; have hcp2 : w3.cell? ⟨g3, 2, none⟩ = some (.slice A2 p.c.length c2) := (blk_cell BP.out 2).trans rfl; have hcp3 : w3.cell? ⟨g3, 3, none⟩ = some (.int .i64 p.d) := (blk_cell BP.out 3).trans rfl; have hcp4 : w3.cell? ⟨g3, 4, none⟩ = some (.slice A4 p.e.length c4) := (blk_cell BP.out 4).trans rfl; have hcp5 : w3.cell? ⟨g3, 5, none⟩ = some (.slice A5 p.f.length c5) := (blk_cell BP.out 5).trans rfl; have hcp6 : w3.cell? ⟨g3, 6, none⟩ = some (.slice A6 p.g.length c6) := (blk_cell BP.out 6).trans rfl; have hcp7 : w3.cell? ⟨g3, 7, none⟩ = some (.slice A7 p.h.length c7) := (blk_cell BP.out 7).trans rfl; have hcp8 : w3.cell? ⟨g3, 8, none⟩ = some (.int .i64 p.i) := (blk_cell BP.out 8).trans rfl; clear hg hbox hb) | (go_at_call 8; (with_reducible refine (small_any HP.out.pr HS.out).mono ?_); rintro e w8 ⟨rfl, hb⟩; have n0_ := Aside0.mk (below_step HB.out hb); have n1_ := Aside0.mk (HP.out.below hb); have n2_ := Aside0.mk (blk_below BP.out hb); clear HB HP BP; have HB := n0_; have HP := n1_; have BP := n2_; clear n0_ n1_ n2_; clear hb; have hcp0 : w8.cell? ⟨g3, 0, none⟩ = some (.slice A0 p.a.length c0) := (blk_cell BP.out 0).trans rfl; have hcp1 : w8.cell? ⟨g3, 1, none⟩ = some (.slice A1 p.b.length c1) := (blk_cell BP.out 1).trans rfl; have hcp2 : w8.cell? ⟨g3, 2, none⟩ = some (.slice A2 p.c.length c2) := (blk_cell BP.out 2).trans rfl; have hcp3 : w8.cell? ⟨g3, 3, none⟩ = some (.int .i64 p.d) := (blk_cell BP.out 3).trans rfl; have hcp4 : w8.cell? ⟨g3, 4, none⟩ = some (.slice A4 p.e.length c4) := (blk_cell BP.out 4).trans rfl; have hcp5 : w8.cell? ⟨g3, 5, none⟩ = some (.slice A5 p.f.length c5) := (blk_cell BP.out 5).trans rfl; have hcp6 : w8.cell? ⟨g3, 6, none⟩ = some (.slice A6 p.g.length c6) := (blk_cell BP.out 6).trans rfl; have hcp7 : w8.cell? ⟨g3, 7, none⟩ = some (.slice A7 p.h.length c7) := (blk_cell BP.out 7).trans rfl; have hcp8 : w8.cell? ⟨g3, 8, none⟩ = some (.int .i64 p.i) := (blk_cell BP.out 8).trans rfl) | (go_at_call 9; (with_reducible refine (awake6_any _).mono ?_); rintro e w9 ⟨rfl, hb⟩; have n0_ := Aside0.mk (below_step HB.out hb); clear HB; have HB := n0_; clear n0_; clear hb))
  go_ret
  exact ⟨rfl, HB.out⟩
set_option maxHeartbeats 16000000 in
set_option maxRecDepth 100000 in
theorem torn_refused {w : World} {v : Value} {p : Pg} {k y : Int} (h : PR w v p) (hs : Ev (fun k => signalboxmake_Small.f k p.a p.b p.c p.d p.e p.f p.g p.h p.i 3000) true) (he : encP p = ([], 1)) : Calls Try.prog 6 #[v, .int .i64 k, .int .u8 y] w fun e w' => e = .returned (.bool true) ∧ Below w.heap.size w w' := by
  obtain ⟨A0, c0, A1, c1, A2, c2, A4, c4, A5, c5, A6, c6, A7, c7, rfl, hx⟩ := h
  have HP := Aside0.mk hx
  have HS := Aside0.mk hs
  have HE := Aside0.mk he
  have HB := Aside0.mk (Below.refl w.heap.size w)
  clear hx hs he
  go_enter Try.func6, Try.ntmps6
  go_wp2_with (first | ((with_reducible refine gate_dst (N := 3) rfl ?_); refine box_event ?hg (N := 3) ?hd (cs := (pv A0 c0 A1 c1 A2 c2 A4 c4 A5 c5 A6 c6 A7 c7 p)) (t := 29) ?hr ?_; (case hd => rfl); (case hg => rfl); (case hr => first | (go_simp; done) | (go_simp; rfl)); intro g3 hg w3 hbox hb; have n0_ := Aside0.mk (below_step HB.out hb); have n1_ := Aside0.mk (HP.out.below hb); have n2_ := Aside0.mk (hbox); clear HB HP; have HB := n0_; have HP := n1_; have BP := n2_; clear n0_ n1_ n2_; have hcp0 : w3.cell? ⟨g3, 0, none⟩ = some (.slice A0 p.a.length c0) := (blk_cell BP.out 0).trans rfl; have hcp1 : w3.cell? ⟨g3, 1, none⟩ = some (.slice A1 p.b.length c1) := (blk_cell BP.out 1).trans rfl; have hcp2 : w3.cell? ⟨g3, 2, none⟩ = some (.slice A2 p.c.length c2) := (blk_cell BP.out 2).trans rfl; have hcp3 : w3.cell? ⟨g3, 3, none⟩ = some (.int .i64 p.d) := (blk_cell BP.out 3).trans rfl; have hcp4 : w3.cell? ⟨g3, 4, none⟩ = some (.slice A4 p.e.length c4) := (blk_cell BP.out 4).trans rfl; have hcp5 : w3.cell? ⟨g3, 5, none⟩ = some (.slice A5 p.f.length c5) := (blk_cell BP.out 5).trans rfl; have hcp6 : w3.cell? ⟨g3, 6, none⟩ = some (.slice A6 p.g.length c6) := (blk_cell BP.out 6).trans rfl; have hcp7 : w3.cell? ⟨g3, 7, none⟩ = some (.slice A7 p.h.length c7) := (blk_cell BP.out 7).trans rfl; have hcp8 : w3.cell? ⟨g3, 8, none⟩ = some (.int .i64 p.i) := (blk_cell BP.out 8).trans rfl; clear hg hbox hb) | (go_at_call 8; (with_reducible refine (small_any HP.out.pr HS.out).mono ?_); rintro e w8 ⟨rfl, hb⟩; have n0_ := Aside0.mk (below_step HB.out hb); have n1_ := Aside0.mk (HP.out.below hb); have n2_ := Aside0.mk (blk_below BP.out hb); clear HB HP BP; have HB := n0_; have HP := n1_; have BP := n2_; clear n0_ n1_ n2_; clear hb; have hcp0 : w8.cell? ⟨g3, 0, none⟩ = some (.slice A0 p.a.length c0) := (blk_cell BP.out 0).trans rfl; have hcp1 : w8.cell? ⟨g3, 1, none⟩ = some (.slice A1 p.b.length c1) := (blk_cell BP.out 1).trans rfl; have hcp2 : w8.cell? ⟨g3, 2, none⟩ = some (.slice A2 p.c.length c2) := (blk_cell BP.out 2).trans rfl; have hcp3 : w8.cell? ⟨g3, 3, none⟩ = some (.int .i64 p.d) := (blk_cell BP.out 3).trans rfl; have hcp4 : w8.cell? ⟨g3, 4, none⟩ = some (.slice A4 p.e.length c4) := (blk_cell BP.out 4).trans rfl; have hcp5 : w8.cell? ⟨g3, 5, none⟩ = some (.slice A5 p.f.length c5) := (blk_cell BP.out 5).trans rfl; have hcp6 : w8.cell? ⟨g3, 6, none⟩ = some (.slice A6 p.g.length c6) := (blk_cell BP.out 6).trans rfl; have hcp7 : w8.cell? ⟨g3, 7, none⟩ = some (.slice A7 p.h.length c7) := (blk_cell BP.out 7).trans rfl; have hcp8 : w8.cell? ⟨g3, 8, none⟩ = some (.int .i64 p.i) := (blk_cell BP.out 8).trans rfl) | (go_at_call 10; (with_reducible refine (enc_e HE.out HP.out.pr).mono ?_); rintro e w13 ⟨⟨A9, c9, rfl, hk, hc⟩, hb⟩; have n0_ := Aside0.mk (below_step HB.out hb); have n1_ := Aside0.mk (HP.out.below hb); have n2_ := Aside0.mk (blk_below BP.out hb); clear HB HP BP; have HB := n0_; have HP := n1_; have BP := n2_; clear n0_ n1_ n2_; clear hb hc hk) | (go_at_call 9; (with_reducible refine (awake6_any _).mono ?_); rintro e w9 ⟨rfl, hb⟩; have n0_ := Aside0.mk (below_step HB.out hb); clear HB; have HB := n0_; clear n0_; clear hb))
  go_ret
  exact ⟨rfl, HB.out⟩
set_option maxHeartbeats 16000000 in
set_option maxRecDepth 100000 in
theorem torn_long {w : World} {v : Value} {p q1 q2 q : Pg} {at_ y f : Int} {bs xs : List Int} {k : Nat} (h : PR w v p) (hs : Ev (fun k => signalboxmake_Small.f k p.a p.b p.c p.d p.e p.f p.g p.h p.i 3000) true) (he : encP p = (bs, 0))
    (hy : Byt bs) (hyy : 0 ≤ y ∧ y ≤ 255) (hl : 2 ≤ bs.length ∧ bs.length ≤ 1000000) (hw : signalboxmake_Within.f at_ 0 ((bs.length : Int) - 1) = some (k : Int)) (hk : k < bs.length)
    (hd1 : dec (bs.take k) = (q1, 5)) (hd2 : dec (bs ++ [y]) = (q2, 5)) (hxs : xs = bs.set k (xor8 (bs.getD k 0) y)) (hyx : Byt xs) (hd3 : dec xs = (q, f)) (hf : f = 0 ∧ encP q = (xs, 0) ∧ EqB (decide (y = 0)) (p = q) ∨ f = 5 ∧ y ≠ 0) :
    Calls Try.prog 6 #[v, .int .i64 at_, .int .u8 y] w fun e w' => e = .returned (.bool true) ∧ Below w.heap.size w w' := by
  obtain ⟨A0, c0, A1, c1, A2, c2, A4, c4, A5, c5, A6, c6, A7, c7, rfl, hx⟩ := h
  have HP := Aside0.mk hx
  have HS := Aside0.mk hs
  have HE := Aside0.mk he
  have HY := Aside0.mk hy
  have HY2 : Aside0 (Byt (bs ++ [y])) := ⟨Byt_one hy hyy⟩
  have HYY := Aside0.mk hyy
  have HYX := Aside0.mk hyx
  have HL := Aside0.mk hl
  have HW := Aside0.mk hw
  have HKL := Aside0.mk hk
  have HD1 := Aside0.mk hd1
  have HD2 := Aside0.mk hd2
  have HD3 := Aside0.mk hd3
  have HXS := Aside0.mk hxs
  have HF := Aside0.mk hf
  have HB := Aside0.mk (Below.refl w.heap.size w)
  have hb1 : decide ((bs.length : Int) < 2) = false := decide_eq_false (by omega)
  have hb2 : decide (bs.length < 2) = false := decide_eq_false (by omega)
  have hwr : wrap64 ((bs.length : Int) - 1) = (bs.length : Int) - 1 := by unfold wrap64; omega
  have HKN : Aside0 (k = (bs.take k).length) := ⟨by rw [List.length_take]; omega⟩
  have HN2 : Aside0 (bs.length + 1 = (bs ++ [y]).length) := ⟨by rw [List.length_append]; rfl⟩
  have HN3 : Aside0 (bs.length = xs.length) := ⟨by rw [hxs, List.length_set]⟩
  clear hx hs he hy hyy hyx hl hw hk hd1 hd2 hd3 hxs hf
  go_enter Try.func6, Try.ntmps6
  go_upto_region 9 with (first | ((with_reducible refine gate_dst (N := 3) rfl ?_); refine box_event ?hg (N := 3) ?hd (cs := (pv A0 c0 A1 c1 A2 c2 A4 c4 A5 c5 A6 c6 A7 c7 p)) (t := 29) ?hr ?_; (case hd => rfl); (case hg => rfl); (case hr => first | (go_simp; done) | (go_simp; rfl)); intro g3 hg w3 hbox hb; have n0_ := Aside0.mk (below_step HB.out hb); have n1_ := Aside0.mk (HP.out.below hb); have n2_ := Aside0.mk (hbox); clear HB HP; have HB := n0_; have HP := n1_; have BP := n2_; clear n0_ n1_ n2_; have hcp0 : w3.cell? ⟨g3, 0, none⟩ = some (.slice A0 p.a.length c0) := (blk_cell BP.out 0).trans rfl; have hcp1 : w3.cell? ⟨g3, 1, none⟩ = some (.slice A1 p.b.length c1) := (blk_cell BP.out 1).trans rfl; have hcp2 : w3.cell? ⟨g3, 2, none⟩ = some (.slice A2 p.c.length c2) := (blk_cell BP.out 2).trans rfl; have hcp3 : w3.cell? ⟨g3, 3, none⟩ = some (.int .i64 p.d) := (blk_cell BP.out 3).trans rfl; have hcp4 : w3.cell? ⟨g3, 4, none⟩ = some (.slice A4 p.e.length c4) := (blk_cell BP.out 4).trans rfl; have hcp5 : w3.cell? ⟨g3, 5, none⟩ = some (.slice A5 p.f.length c5) := (blk_cell BP.out 5).trans rfl; have hcp6 : w3.cell? ⟨g3, 6, none⟩ = some (.slice A6 p.g.length c6) := (blk_cell BP.out 6).trans rfl; have hcp7 : w3.cell? ⟨g3, 7, none⟩ = some (.slice A7 p.h.length c7) := (blk_cell BP.out 7).trans rfl; have hcp8 : w3.cell? ⟨g3, 8, none⟩ = some (.int .i64 p.i) := (blk_cell BP.out 8).trans rfl; clear hg hbox hb) | (go_at_call 8; (with_reducible refine (small_any HP.out.pr HS.out).mono ?_); rintro e w8 ⟨rfl, hb⟩; have n0_ := Aside0.mk (below_step HB.out hb); have n1_ := Aside0.mk (HP.out.below hb); have n2_ := Aside0.mk (blk_below BP.out hb); clear HB HP BP; have HB := n0_; have HP := n1_; have BP := n2_; clear n0_ n1_ n2_; clear hb; have hcp0 : w8.cell? ⟨g3, 0, none⟩ = some (.slice A0 p.a.length c0) := (blk_cell BP.out 0).trans rfl; have hcp1 : w8.cell? ⟨g3, 1, none⟩ = some (.slice A1 p.b.length c1) := (blk_cell BP.out 1).trans rfl; have hcp2 : w8.cell? ⟨g3, 2, none⟩ = some (.slice A2 p.c.length c2) := (blk_cell BP.out 2).trans rfl; have hcp3 : w8.cell? ⟨g3, 3, none⟩ = some (.int .i64 p.d) := (blk_cell BP.out 3).trans rfl; have hcp4 : w8.cell? ⟨g3, 4, none⟩ = some (.slice A4 p.e.length c4) := (blk_cell BP.out 4).trans rfl; have hcp5 : w8.cell? ⟨g3, 5, none⟩ = some (.slice A5 p.f.length c5) := (blk_cell BP.out 5).trans rfl; have hcp6 : w8.cell? ⟨g3, 6, none⟩ = some (.slice A6 p.g.length c6) := (blk_cell BP.out 6).trans rfl; have hcp7 : w8.cell? ⟨g3, 7, none⟩ = some (.slice A7 p.h.length c7) := (blk_cell BP.out 7).trans rfl; have hcp8 : w8.cell? ⟨g3, 8, none⟩ = some (.int .i64 p.i) := (blk_cell BP.out 8).trans rfl) | (go_at_call 10; (with_reducible refine (enc_e HE.out HP.out.pr).mono ?_); rintro e w13 ⟨⟨A9, c9, rfl, hk, hc⟩, hb⟩; have n0_ := Aside0.mk (below_step HB.out hb); have n1_ := Aside0.mk (HP.out.below hb); have n2_ := Aside0.mk (blk_below BP.out hb); clear HB HP BP; have HB := n0_; have HP := n1_; have BP := n2_; clear n0_ n1_ n2_; have HS1 := Aside0.mk hc; have HK1 := Aside0.mk hk; clear hb hc hk hcp0 hcp1 hcp2 hcp3 hcp4 hcp5 hcp6 hcp7 hcp8) | (go_at_call 18; (with_reducible refine (within_c HW.out).mono ?_); rintro e w18 ⟨rfl, hb⟩; have n0_ := Aside0.mk (below_step HB.out hb); have n1_ := Aside0.mk (HP.out.below hb); have n2_ := Aside0.mk (blk_below BP.out hb); have n3_ := Aside0.mk (Kd.C_below HS1.out hb); clear HB HP BP HS1; have HB := n0_; have HP := n1_; have BP := n2_; have HS1 := n3_; clear n0_ n1_ n2_ n3_; clear hb))
  obtain ⟨i5, hi5_, _, hsz5_, _⟩ := info_parts info5
  have hcut := cut_to (P := Try.prog) 32 5 .i64 Try.underlying32 hi5_ A9 bs.length c9 (k : Int) (by omega) (by have := HKL.out; omega) HK1.out
  simp only [Int.toNat_natCast] at hcut
  have HKC : Aside0 ((bs.take k).length ≤ c9) := ⟨by have := HKN.out; have := HKL.out; have := HK1.out; omega⟩
  clear hsz5_ hi5_ hb1 hb2 hwr
  go_upto_region 10 with (first | (go_at_call 14; (with_reducible refine (dec_e HD1.out HKN.out (Byt_take _ HY.out) (Kd.C_take HS1.out (Nat.le_of_lt HKL.out)) HKC.out).mono ?_); rintro e w47 ⟨⟨D0, f0, D1, f1, D2, f2, D4, f4, D5, f5, D6, f6, D7, f7, rfl, hq⟩, hb⟩; have n0_ := Aside0.mk (below_step HB.out hb); have n1_ := Aside0.mk (HP.out.below hb); have n2_ := Aside0.mk (blk_below BP.out hb); have n3_ := Aside0.mk (Kd.C_below HS1.out hb); clear HB HP BP HS1; have HB := n0_; have HP := n1_; have BP := n2_; have HS1 := n3_; clear n0_ n1_ n2_ n3_; have HQ := Aside0.mk hq; clear hb hq) | ((with_reducible refine gate_dst (N := 10) rfl ?_); refine box_event ?hg (N := 10) ?hd (cs := #[.slice none 0 0, .slice none 0 0, .slice none 0 0, .int .i64 0, .slice none 0 0, .slice none 0 0, .slice none 0 0, .slice none 0 0, .int .i64 0]) (t := 29) ?hr ?_; (case hd => rfl); (case hg => rfl); (case hr => first | (go_simp; done) | (go_simp; rfl)); intro g10 hg w10 hbox hb; have n0_ := Aside0.mk (hb); have n1_ := Aside0.mk (hbox); have n2_ := Aside0.mk ((by rw [hg]; exact Nat.le_refl _ : w47.heap.size ≤ g10)); have HBQ := n0_; have BR := n1_; have GQ := n2_; clear n0_ n1_ n2_; have hcr0 : w10.cell? ⟨g10, 0, none⟩ = some (.slice none 0 0) := (blk_cell hbox 0).trans rfl; have hfr0 : w10.frozen? ⟨g10, 0, none⟩ = false := blk_frozen hbox 0; have hcr1 : w10.cell? ⟨g10, 1, none⟩ = some (.slice none 0 0) := (blk_cell hbox 1).trans rfl; have hfr1 : w10.frozen? ⟨g10, 1, none⟩ = false := blk_frozen hbox 1; have hcr2 : w10.cell? ⟨g10, 2, none⟩ = some (.slice none 0 0) := (blk_cell hbox 2).trans rfl; have hfr2 : w10.frozen? ⟨g10, 2, none⟩ = false := blk_frozen hbox 2; have hcr3 : w10.cell? ⟨g10, 3, none⟩ = some (.int .i64 0) := (blk_cell hbox 3).trans rfl; have hfr3 : w10.frozen? ⟨g10, 3, none⟩ = false := blk_frozen hbox 3; have hcr4 : w10.cell? ⟨g10, 4, none⟩ = some (.slice none 0 0) := (blk_cell hbox 4).trans rfl; have hfr4 : w10.frozen? ⟨g10, 4, none⟩ = false := blk_frozen hbox 4; have hcr5 : w10.cell? ⟨g10, 5, none⟩ = some (.slice none 0 0) := (blk_cell hbox 5).trans rfl; have hfr5 : w10.frozen? ⟨g10, 5, none⟩ = false := blk_frozen hbox 5; have hcr6 : w10.cell? ⟨g10, 6, none⟩ = some (.slice none 0 0) := (blk_cell hbox 6).trans rfl; have hfr6 : w10.frozen? ⟨g10, 6, none⟩ = false := blk_frozen hbox 6; have hcr7 : w10.cell? ⟨g10, 7, none⟩ = some (.slice none 0 0) := (blk_cell hbox 7).trans rfl; have hfr7 : w10.frozen? ⟨g10, 7, none⟩ = false := blk_frozen hbox 7; have hcr8 : w10.cell? ⟨g10, 8, none⟩ = some (.int .i64 0) := (blk_cell hbox 8).trans rfl; have hfr8 : w10.frozen? ⟨g10, 8, none⟩ = false := blk_frozen hbox 8; clear hg hbox hb))
  have b0_ := blk_put (cs' := #[.slice D0 q1.a.length f0, .slice none 0 0, .slice none 0 0, .int .i64 0, .slice none 0 0, .slice none 0 0, .slice none 0 0, .slice none 0 0, .int .i64 0]) BR.out 0 (.slice D0 q1.a.length f0) rfl
  have e0_ := below_set (j := 0) (v := .slice D0 q1.a.length f0) HBQ.out GQ.out
  have b1_ := blk_put (cs' := #[.slice D0 q1.a.length f0, .slice D1 q1.b.length f1, .slice none 0 0, .int .i64 0, .slice none 0 0, .slice none 0 0, .slice none 0 0, .slice none 0 0, .int .i64 0]) b0_ 1 (.slice D1 q1.b.length f1) rfl
  have e1_ := below_set (j := 1) (v := .slice D1 q1.b.length f1) e0_ GQ.out
  have b2_ := blk_put (cs' := #[.slice D0 q1.a.length f0, .slice D1 q1.b.length f1, .slice D2 q1.c.length f2, .int .i64 0, .slice none 0 0, .slice none 0 0, .slice none 0 0, .slice none 0 0, .int .i64 0]) b1_ 2 (.slice D2 q1.c.length f2) rfl
  have e2_ := below_set (j := 2) (v := .slice D2 q1.c.length f2) e1_ GQ.out
  have b3_ := blk_put (cs' := #[.slice D0 q1.a.length f0, .slice D1 q1.b.length f1, .slice D2 q1.c.length f2, .int .i64 q1.d, .slice none 0 0, .slice none 0 0, .slice none 0 0, .slice none 0 0, .int .i64 0]) b2_ 3 (.int .i64 q1.d) rfl
  have e3_ := below_set (j := 3) (v := .int .i64 q1.d) e2_ GQ.out
  have b4_ := blk_put (cs' := #[.slice D0 q1.a.length f0, .slice D1 q1.b.length f1, .slice D2 q1.c.length f2, .int .i64 q1.d, .slice D4 q1.e.length f4, .slice none 0 0, .slice none 0 0, .slice none 0 0, .int .i64 0]) b3_ 4 (.slice D4 q1.e.length f4) rfl
  have e4_ := below_set (j := 4) (v := .slice D4 q1.e.length f4) e3_ GQ.out
  have b5_ := blk_put (cs' := #[.slice D0 q1.a.length f0, .slice D1 q1.b.length f1, .slice D2 q1.c.length f2, .int .i64 q1.d, .slice D4 q1.e.length f4, .slice D5 q1.f.length f5, .slice none 0 0, .slice none 0 0, .int .i64 0]) b4_ 5 (.slice D5 q1.f.length f5) rfl
  have e5_ := below_set (j := 5) (v := .slice D5 q1.f.length f5) e4_ GQ.out
  have b6_ := blk_put (cs' := #[.slice D0 q1.a.length f0, .slice D1 q1.b.length f1, .slice D2 q1.c.length f2, .int .i64 q1.d, .slice D4 q1.e.length f4, .slice D5 q1.f.length f5, .slice D6 q1.g.length f6, .slice none 0 0, .int .i64 0]) b5_ 6 (.slice D6 q1.g.length f6) rfl
  have e6_ := below_set (j := 6) (v := .slice D6 q1.g.length f6) e5_ GQ.out
  have b7_ := blk_put (cs' := #[.slice D0 q1.a.length f0, .slice D1 q1.b.length f1, .slice D2 q1.c.length f2, .int .i64 q1.d, .slice D4 q1.e.length f4, .slice D5 q1.f.length f5, .slice D6 q1.g.length f6, .slice D7 q1.h.length f7, .int .i64 0]) b6_ 7 (.slice D7 q1.h.length f7) rfl
  have e7_ := below_set (j := 7) (v := .slice D7 q1.h.length f7) e6_ GQ.out
  have b8_ := blk_put (cs' := #[.slice D0 q1.a.length f0, .slice D1 q1.b.length f1, .slice D2 q1.c.length f2, .int .i64 q1.d, .slice D4 q1.e.length f4, .slice D5 q1.f.length f5, .slice D6 q1.g.length f6, .slice D7 q1.h.length f7, .int .i64 q1.i]) b7_ 8 (.int .i64 q1.i) rfl
  have e8_ := below_set (j := 8) (v := .int .i64 q1.i) e7_ GQ.out
  have n0_ := Aside0.mk (HP.out.below e8_)
  have n1_ := Aside0.mk (blk_below BP.out e8_)
  have n2_ := Aside0.mk (below_step HB.out e8_)
  have n3_ := Aside0.mk (Kd.C_below HS1.out e8_)
  clear b0_ e0_ b1_ e1_ b2_ e2_ b3_ e3_ b4_ e4_ b5_ e5_ b6_ e6_ b7_ e7_ b8_ e8_ hcr0 hfr0 hcr1 hfr1 hcr2 hfr2 hcr3 hfr3 hcr4 hfr4 hcr5 hfr5 hcr6 hfr6 hcr7 hfr7 hcr8 hfr8 HBQ GQ BR HP BP HB HS1 HQ hcut
  generalize (((((((((w10.setCell { block := g10, off := 0 } (.slice D0 q1.a.length f0)).setCell { block := g10, off := 1 } (.slice D1 q1.b.length f1)).setCell { block := g10, off := 2 } (.slice D2 q1.c.length f2)).setCell { block := g10, off := 3 } (.int .i64 q1.d)).setCell { block := g10, off := 4 } (.slice D4 q1.e.length f4)).setCell { block := g10, off := 5 } (.slice D5 q1.f.length f5)).setCell { block := g10, off := 6 } (.slice D6 q1.g.length f6)).setCell { block := g10, off := 7 } (.slice D7 q1.h.length f7)).setCell { block := g10, off := 8 } (.int .i64 q1.i)) = W10 at n0_ n1_ n2_ n3_ ⊢
  have HP := n0_
  have BP := n1_
  have HB := n2_
  have HS1 := n3_
  clear n0_ n1_ n2_ n3_
  have HA := Aside0.mk (Below.refl W10.heap.size W10)
  go_upto_region 11 with (first | ((with_reducible refine gate_dst (N := 51) rfl ?_); refine Kd.R_lit (Kd.int .u8) (w0 := W10) W10.heap.size 5 ?hg (N := 51) ?hd (xs := ([] : List Int)) (inner := []) (ok := fun _ => True) (okp := fun _ => True) ?hr ?hp (fun _ hk => hk) trivial HA.out (below_size HA.out) (by simp) ?_; (case hd => rfl); (case hg => rfl); (case hr => first | (go_simp; done) | (go_simp; rfl)); (case hp => exact (Reps.none _ _)); intro v51 w51 ho hb hg_ hnew_; clear hg_ hnew_; obtain ⟨A51, c51, e51⟩ : ∃ A c, v51 = .slice A 0 c := Kd.R_slice ho; subst e51; have n0_ := Aside0.mk (below_step (Below.refl _ _) hb); clear HA hb; have HA := n0_; have HO := Aside0.mk ho; clear n0_ ho) | ((with_reducible refine gate_builtin (b := .append) (xs := #[.tmp 51, .tmp 52]) rfl ?_); at_builtin; refine Kd.R_append_rows (Kd.int .u8) (w0 := W10) W10.heap.size rfl (.tmp 51) (.tmp 52) 32 5 (.int .u8 0) 1 rfl Try.underlying32 info5 rfl (by decide) (by omega) (.slice A51 0 c51) [] bs _ _ _ (fun _ => True) (fun _ => False) rfl rfl ?aO ?aR (fun _ _ h => h) (fun _ h => h.elim) ?aF ?aB ?aS ?aL ?_; (case aR => exact (Kd.C_below HS1.out HA.out)); (case aB => exact HA.out); (case aF => exact (fun _ _ => trivial)); (case aO => exact HO.out); (case aS => exact below_size HA.out); (case aL => have := HL.out; simp; omega); intro v53 w53 ho hb hg hat; rw [List.nil_append] at ho; obtain ⟨A53, c53, e53⟩ : ∃ A c, v53 = .slice A bs.length c := Kd.R_slice ho; subst e53; have n0_ := Aside0.mk ho; have n1_ := Aside0.mk hb; clear HA HO ho hb hg hat; have HO := n0_; have HA := n1_; clear n0_ n1_) | ((with_reducible refine gate_builtin (b := .append) (xs := #[.tmp 53, .tmp 55]) rfl ?_); at_builtin; refine Kd.R_append (Kd.int .u8) (w0 := W10) W10.heap.size rfl (.tmp 53) (.tmp 55) 32 5 (.int .u8 0) 1 rfl Try.underlying32 info5 rfl (by decide) (by omega) (.slice A53 bs.length c53) bs y [.int .u8 y] (fun _ => True) (fun _ => False) rfl rfl ?aP (fun _ hk => hk.elim) ?aF ?aO ?aB ?aS ?aL ?_; (case aP => exact rfl); (case aB => exact HA.out); (case aF => exact (fun _ _ => trivial)); (case aO => exact HO.out); (case aS => exact below_size HA.out); (case aL => have := HL.out; omega); intro v56 w56 ho hb hg hat; obtain ⟨A56, c56, e56⟩ : ∃ A c, v56 = .slice A (bs ++ [y]).length c := Kd.R_slice ho; subst e56; have n0_ := Aside0.mk ho; have n1_ := Aside0.mk hb; clear HA HO ho hb hg hat; have HO := n0_; have HA := n1_; clear n0_ n1_) | (go_at_call 14; (with_reducible refine (dec_e HD2.out HN2.out HY2.out (Kd.R_reads' HO.out).2.2 (Kd.R_reads' HO.out).2.1).mono ?_); rintro e w57 ⟨⟨F0, h0, F1, h1, F2, h2, F4, h4, F5, h5, F6, h6, F7, h7, rfl, hq⟩, hb⟩; have n0_ := Aside0.mk (below_step HA.out hb); clear HA HO hb hq; have HA := n0_; clear n0_) | ((with_reducible refine gate_dst (N := 12) rfl ?_); refine box_event ?hg (N := 12) ?hd (cs := #[.slice none 0 0, .slice none 0 0, .slice none 0 0, .int .i64 0, .slice none 0 0, .slice none 0 0, .slice none 0 0, .slice none 0 0, .int .i64 0]) (t := 29) ?hr ?_; (case hd => rfl); (case hg => rfl); (case hr => first | (go_simp; done) | (go_simp; rfl)); intro g12 hg w12 hbox hb; have n0_ := Aside0.mk (hb); have n1_ := Aside0.mk (hbox); have n2_ := Aside0.mk ((by rw [hg]; exact Nat.le_refl _ : w57.heap.size ≤ g12)); have HBQ := n0_; have BR := n1_; have GQ := n2_; clear n0_ n1_ n2_; have hcr0 : w12.cell? ⟨g12, 0, none⟩ = some (.slice none 0 0) := (blk_cell hbox 0).trans rfl; have hfr0 : w12.frozen? ⟨g12, 0, none⟩ = false := blk_frozen hbox 0; have hcr1 : w12.cell? ⟨g12, 1, none⟩ = some (.slice none 0 0) := (blk_cell hbox 1).trans rfl; have hfr1 : w12.frozen? ⟨g12, 1, none⟩ = false := blk_frozen hbox 1; have hcr2 : w12.cell? ⟨g12, 2, none⟩ = some (.slice none 0 0) := (blk_cell hbox 2).trans rfl; have hfr2 : w12.frozen? ⟨g12, 2, none⟩ = false := blk_frozen hbox 2; have hcr3 : w12.cell? ⟨g12, 3, none⟩ = some (.int .i64 0) := (blk_cell hbox 3).trans rfl; have hfr3 : w12.frozen? ⟨g12, 3, none⟩ = false := blk_frozen hbox 3; have hcr4 : w12.cell? ⟨g12, 4, none⟩ = some (.slice none 0 0) := (blk_cell hbox 4).trans rfl; have hfr4 : w12.frozen? ⟨g12, 4, none⟩ = false := blk_frozen hbox 4; have hcr5 : w12.cell? ⟨g12, 5, none⟩ = some (.slice none 0 0) := (blk_cell hbox 5).trans rfl; have hfr5 : w12.frozen? ⟨g12, 5, none⟩ = false := blk_frozen hbox 5; have hcr6 : w12.cell? ⟨g12, 6, none⟩ = some (.slice none 0 0) := (blk_cell hbox 6).trans rfl; have hfr6 : w12.frozen? ⟨g12, 6, none⟩ = false := blk_frozen hbox 6; have hcr7 : w12.cell? ⟨g12, 7, none⟩ = some (.slice none 0 0) := (blk_cell hbox 7).trans rfl; have hfr7 : w12.frozen? ⟨g12, 7, none⟩ = false := blk_frozen hbox 7; have hcr8 : w12.cell? ⟨g12, 8, none⟩ = some (.int .i64 0) := (blk_cell hbox 8).trans rfl; have hfr8 : w12.frozen? ⟨g12, 8, none⟩ = false := blk_frozen hbox 8; clear hg hbox hb))
  have b0_ := blk_put (cs' := #[.slice F0 q2.a.length h0, .slice none 0 0, .slice none 0 0, .int .i64 0, .slice none 0 0, .slice none 0 0, .slice none 0 0, .slice none 0 0, .int .i64 0]) BR.out 0 (.slice F0 q2.a.length h0) rfl
  have e0_ := below_set (j := 0) (v := .slice F0 q2.a.length h0) HBQ.out GQ.out
  have b1_ := blk_put (cs' := #[.slice F0 q2.a.length h0, .slice F1 q2.b.length h1, .slice none 0 0, .int .i64 0, .slice none 0 0, .slice none 0 0, .slice none 0 0, .slice none 0 0, .int .i64 0]) b0_ 1 (.slice F1 q2.b.length h1) rfl
  have e1_ := below_set (j := 1) (v := .slice F1 q2.b.length h1) e0_ GQ.out
  have b2_ := blk_put (cs' := #[.slice F0 q2.a.length h0, .slice F1 q2.b.length h1, .slice F2 q2.c.length h2, .int .i64 0, .slice none 0 0, .slice none 0 0, .slice none 0 0, .slice none 0 0, .int .i64 0]) b1_ 2 (.slice F2 q2.c.length h2) rfl
  have e2_ := below_set (j := 2) (v := .slice F2 q2.c.length h2) e1_ GQ.out
  have b3_ := blk_put (cs' := #[.slice F0 q2.a.length h0, .slice F1 q2.b.length h1, .slice F2 q2.c.length h2, .int .i64 q2.d, .slice none 0 0, .slice none 0 0, .slice none 0 0, .slice none 0 0, .int .i64 0]) b2_ 3 (.int .i64 q2.d) rfl
  have e3_ := below_set (j := 3) (v := .int .i64 q2.d) e2_ GQ.out
  have b4_ := blk_put (cs' := #[.slice F0 q2.a.length h0, .slice F1 q2.b.length h1, .slice F2 q2.c.length h2, .int .i64 q2.d, .slice F4 q2.e.length h4, .slice none 0 0, .slice none 0 0, .slice none 0 0, .int .i64 0]) b3_ 4 (.slice F4 q2.e.length h4) rfl
  have e4_ := below_set (j := 4) (v := .slice F4 q2.e.length h4) e3_ GQ.out
  have b5_ := blk_put (cs' := #[.slice F0 q2.a.length h0, .slice F1 q2.b.length h1, .slice F2 q2.c.length h2, .int .i64 q2.d, .slice F4 q2.e.length h4, .slice F5 q2.f.length h5, .slice none 0 0, .slice none 0 0, .int .i64 0]) b4_ 5 (.slice F5 q2.f.length h5) rfl
  have e5_ := below_set (j := 5) (v := .slice F5 q2.f.length h5) e4_ GQ.out
  have b6_ := blk_put (cs' := #[.slice F0 q2.a.length h0, .slice F1 q2.b.length h1, .slice F2 q2.c.length h2, .int .i64 q2.d, .slice F4 q2.e.length h4, .slice F5 q2.f.length h5, .slice F6 q2.g.length h6, .slice none 0 0, .int .i64 0]) b5_ 6 (.slice F6 q2.g.length h6) rfl
  have e6_ := below_set (j := 6) (v := .slice F6 q2.g.length h6) e5_ GQ.out
  have b7_ := blk_put (cs' := #[.slice F0 q2.a.length h0, .slice F1 q2.b.length h1, .slice F2 q2.c.length h2, .int .i64 q2.d, .slice F4 q2.e.length h4, .slice F5 q2.f.length h5, .slice F6 q2.g.length h6, .slice F7 q2.h.length h7, .int .i64 0]) b6_ 7 (.slice F7 q2.h.length h7) rfl
  have e7_ := below_set (j := 7) (v := .slice F7 q2.h.length h7) e6_ GQ.out
  have b8_ := blk_put (cs' := #[.slice F0 q2.a.length h0, .slice F1 q2.b.length h1, .slice F2 q2.c.length h2, .int .i64 q2.d, .slice F4 q2.e.length h4, .slice F5 q2.f.length h5, .slice F6 q2.g.length h6, .slice F7 q2.h.length h7, .int .i64 q2.i]) b7_ 8 (.int .i64 q2.i) rfl
  have e8_ := below_set (j := 8) (v := .int .i64 q2.i) e7_ GQ.out
  have n0_ := Aside0.mk (HP.out.below (below_step HA.out e8_))
  have n1_ := Aside0.mk (blk_below BP.out (below_step HA.out e8_))
  have n2_ := Aside0.mk (below_step HB.out (below_step HA.out e8_))
  have n3_ := Aside0.mk (Kd.C_below HS1.out (below_step HA.out e8_))
  clear b0_ e0_ b1_ e1_ b2_ e2_ b3_ e3_ b4_ e4_ b5_ e5_ b6_ e6_ b7_ e7_ b8_ e8_ hcr0 hfr0 hcr1 hfr1 hcr2 hfr2 hcr3 hfr3 hcr4 hfr4 hcr5 hfr5 hcr6 hfr6 hcr7 hfr7 hcr8 hfr8 HBQ GQ BR HP BP HB HS1 HA
  generalize (((((((((w12.setCell { block := g12, off := 0 } (.slice F0 q2.a.length h0)).setCell { block := g12, off := 1 } (.slice F1 q2.b.length h1)).setCell { block := g12, off := 2 } (.slice F2 q2.c.length h2)).setCell { block := g12, off := 3 } (.int .i64 q2.d)).setCell { block := g12, off := 4 } (.slice F4 q2.e.length h4)).setCell { block := g12, off := 5 } (.slice F5 q2.f.length h5)).setCell { block := g12, off := 6 } (.slice F6 q2.g.length h6)).setCell { block := g12, off := 7 } (.slice F7 q2.h.length h7)).setCell { block := g12, off := 8 } (.int .i64 q2.i)) = W12 at n0_ n1_ n2_ n3_ ⊢
  have HP := n0_
  have BP := n1_
  have HB := n2_
  have HS1 := n3_
  clear n0_ n1_ n2_ n3_
  have HA := Aside0.mk (Below.refl W12.heap.size W12)
  go_upto_region 12 with (first | ((with_reducible refine gate_dst (N := 60) rfl ?_); refine Kd.R_lit (Kd.int .u8) (w0 := W12) W12.heap.size 5 ?hg (N := 60) ?hd (xs := ([] : List Int)) (inner := []) (ok := fun _ => True) (okp := fun _ => True) ?hr ?hp (fun _ hk => hk) trivial HA.out (below_size HA.out) (by simp) ?_; (case hd => rfl); (case hg => rfl); (case hr => first | (go_simp; done) | (go_simp; rfl)); (case hp => exact (Reps.none _ _)); intro v60 w60 ho hb hg_ hnew_; clear hg_ hnew_; obtain ⟨A60, c60, e60⟩ : ∃ A c, v60 = .slice A 0 c := Kd.R_slice ho; subst e60; have n0_ := Aside0.mk (below_step (Below.refl _ _) hb); clear HA hb; have HA := n0_; have HO := Aside0.mk ho; clear n0_ ho) | ((with_reducible refine gate_builtin (b := .append) (xs := #[.tmp 60, .tmp 61]) rfl ?_); at_builtin; refine Kd.R_append_rows (Kd.int .u8) (w0 := W12) W12.heap.size rfl (.tmp 60) (.tmp 61) 32 5 (.int .u8 0) 1 rfl Try.underlying32 info5 rfl (by decide) (by omega) (.slice A60 0 c60) [] bs _ _ _ (fun _ => True) (fun _ => False) rfl rfl ?aO ?aR (fun _ _ h => h) (fun _ h => h.elim) ?aF ?aB ?aS ?aL ?_; (case aR => exact (Kd.C_below HS1.out HA.out)); (case aB => exact HA.out); (case aF => exact (fun _ _ => trivial)); (case aO => exact HO.out); (case aS => exact below_size HA.out); (case aL => have := HL.out; simp; omega); intro v62 w62 ho hb hg hat; rw [List.nil_append] at ho; obtain ⟨A62, c62, e62⟩ : ∃ A c, v62 = .slice A bs.length c := Kd.R_slice ho; subst e62; have n0_ := Aside0.mk ho; have n1_ := Aside0.mk hb; clear HA HO ho hb hg hat; have HO := n0_; have HA := n1_; clear n0_ n1_))
  obtain ⟨gt, egt, hgt⟩ : ∃ gt, A62 = some ⟨gt, 0, none⟩ ∧ W12.heap.size ≤ gt := by
    obtain ⟨_, q⟩ := Kd.own_of_R HO.out
    rcases q with ⟨q1, q2⟩ | ⟨g, cap, cur, q1, q2, _⟩
    · have := HL.out; omega
    · injection q1 with q3 q4 q5
      exact ⟨g, q3, q2⟩
  subst egt
  have HGT := Aside0.mk hgt
  have hk2 : (k : Int) < (bs.length : Int) := by have := HKL.out; omega
  have hcell := Kd.R_celln 0 HO.out (k : Int) (by omega) (by omega)
  rw [Int.toNat_natCast] at hcell
  obtain ⟨hct, hft⟩ := hcell
  obtain ⟨x0, ex0⟩ : ∃ x0, x0 = bs.getD k 0 := ⟨_, rfl⟩
  have hq : rdOf 0 bs (k : Int) = x0 := by rw [ex0]; rfl
  rw [hq] at hct
  have EX := Aside0.mk ex0
  have HX0 : Aside0 (0 ≤ x0 ∧ x0 ≤ 255) := ⟨by
    have h := HY.out x0 (by rw [ex0, List.getD_eq_getElem?_getD, List.getElem?_eq_getElem HKL.out]; exact List.getElem_mem HKL.out)
    exact ⟨h.1, by have := h.2; omega⟩⟩
  clear ex0 hq hgt
  go_upto_region 13 with (fail)
  obtain ⟨z, ez⟩ : ∃ z, z = Go.bits .xor .u8 x0 y := ⟨_, rfl⟩
  rw [← ez]
  have q0_ : Kd.R (Kd.int .u8) 5 (w62.setCell ⟨gt, k, none⟩ (.int .u8 z)) W12.heap.size (fun _ => True) (.slice (some ⟨gt, 0, none⟩) bs.length c62) xs := by
    have q := Kd.R_putn HO.out (k : Int) z
    rw [Int.toNat_natCast, show bs.set k z = xs from by rw [HXS.out, ← EX.out, ez]; rfl] at q
    exact q
  have e0_ := below_set (j := k) (v := .int .u8 z) HA.out HGT.out
  have n0_ := Aside0.mk (HP.out.below e0_)
  have n1_ := Aside0.mk (blk_below BP.out e0_)
  have n2_ := Aside0.mk (below_step HB.out e0_)
  have n3_ := Aside0.mk (Kd.R_reads' (A := some ⟨gt, 0, none⟩) (c := c62) q0_).2.2
  have n4_ := Aside0.mk (Nat.le_trans (Nat.le_of_eq HN3.out.symm) (Kd.R_reads' q0_).2.1)
  clear HA HO HP BP HB HS1 hct hft q0_ e0_ hk2 HX0 EX ez
  generalize (w62.setCell { block := gt, off := k } (.int .u8 z)) = W13 at n0_ n1_ n2_ n3_ ⊢
  have HP := n0_
  have BP := n1_
  have HB := n2_
  have HX := n3_
  have HKX := n4_
  clear n0_ n1_ n2_ n3_ n4_
  go_upto_region 14 with (first | (go_at_call 14; (with_reducible refine (dec_e HD3.out HN3.out HYX.out HX.out HKX.out).mono ?_); rintro e w74 ⟨⟨G0, j0, G1, j1, G2, j2, G4, j4, G5, j5, G6, j6, G7, j7, rfl, hq⟩, hb⟩; have n0_ := Aside0.mk (below_step HB.out hb); have n1_ := Aside0.mk (HP.out.below hb); have n2_ := Aside0.mk (blk_below BP.out hb); have n3_ := Aside0.mk (Kd.C_below HX.out hb); clear HB HP BP HX; have HB := n0_; have HP := n1_; have BP := n2_; have HX := n3_; clear n0_ n1_ n2_ n3_; have HQ := Aside0.mk hq; clear hb hq) | ((with_reducible refine gate_dst (N := 15) rfl ?_); refine box_event ?hg (N := 15) ?hd (cs := #[.slice none 0 0, .slice none 0 0, .slice none 0 0, .int .i64 0, .slice none 0 0, .slice none 0 0, .slice none 0 0, .slice none 0 0, .int .i64 0]) (t := 29) ?hr ?_; (case hd => rfl); (case hg => rfl); (case hr => first | (go_simp; done) | (go_simp; rfl)); intro g15 hg w15 hbox hb; have n0_ := Aside0.mk (hb); have n1_ := Aside0.mk (hbox); have n2_ := Aside0.mk ((by rw [hg]; exact Nat.le_refl _ : w74.heap.size ≤ g15)); have HBQ := n0_; have BR := n1_; have GQ := n2_; clear n0_ n1_ n2_; have hcr0 : w15.cell? ⟨g15, 0, none⟩ = some (.slice none 0 0) := (blk_cell hbox 0).trans rfl; have hfr0 : w15.frozen? ⟨g15, 0, none⟩ = false := blk_frozen hbox 0; have hcr1 : w15.cell? ⟨g15, 1, none⟩ = some (.slice none 0 0) := (blk_cell hbox 1).trans rfl; have hfr1 : w15.frozen? ⟨g15, 1, none⟩ = false := blk_frozen hbox 1; have hcr2 : w15.cell? ⟨g15, 2, none⟩ = some (.slice none 0 0) := (blk_cell hbox 2).trans rfl; have hfr2 : w15.frozen? ⟨g15, 2, none⟩ = false := blk_frozen hbox 2; have hcr3 : w15.cell? ⟨g15, 3, none⟩ = some (.int .i64 0) := (blk_cell hbox 3).trans rfl; have hfr3 : w15.frozen? ⟨g15, 3, none⟩ = false := blk_frozen hbox 3; have hcr4 : w15.cell? ⟨g15, 4, none⟩ = some (.slice none 0 0) := (blk_cell hbox 4).trans rfl; have hfr4 : w15.frozen? ⟨g15, 4, none⟩ = false := blk_frozen hbox 4; have hcr5 : w15.cell? ⟨g15, 5, none⟩ = some (.slice none 0 0) := (blk_cell hbox 5).trans rfl; have hfr5 : w15.frozen? ⟨g15, 5, none⟩ = false := blk_frozen hbox 5; have hcr6 : w15.cell? ⟨g15, 6, none⟩ = some (.slice none 0 0) := (blk_cell hbox 6).trans rfl; have hfr6 : w15.frozen? ⟨g15, 6, none⟩ = false := blk_frozen hbox 6; have hcr7 : w15.cell? ⟨g15, 7, none⟩ = some (.slice none 0 0) := (blk_cell hbox 7).trans rfl; have hfr7 : w15.frozen? ⟨g15, 7, none⟩ = false := blk_frozen hbox 7; have hcr8 : w15.cell? ⟨g15, 8, none⟩ = some (.int .i64 0) := (blk_cell hbox 8).trans rfl; have hfr8 : w15.frozen? ⟨g15, 8, none⟩ = false := blk_frozen hbox 8; clear hg hbox hb))
  have b0_ := blk_put (cs' := #[.slice G0 q.a.length j0, .slice none 0 0, .slice none 0 0, .int .i64 0, .slice none 0 0, .slice none 0 0, .slice none 0 0, .slice none 0 0, .int .i64 0]) BR.out 0 (.slice G0 q.a.length j0) rfl
  have e0_ := below_set (j := 0) (v := .slice G0 q.a.length j0) HBQ.out GQ.out
  have b1_ := blk_put (cs' := #[.slice G0 q.a.length j0, .slice G1 q.b.length j1, .slice none 0 0, .int .i64 0, .slice none 0 0, .slice none 0 0, .slice none 0 0, .slice none 0 0, .int .i64 0]) b0_ 1 (.slice G1 q.b.length j1) rfl
  have e1_ := below_set (j := 1) (v := .slice G1 q.b.length j1) e0_ GQ.out
  have b2_ := blk_put (cs' := #[.slice G0 q.a.length j0, .slice G1 q.b.length j1, .slice G2 q.c.length j2, .int .i64 0, .slice none 0 0, .slice none 0 0, .slice none 0 0, .slice none 0 0, .int .i64 0]) b1_ 2 (.slice G2 q.c.length j2) rfl
  have e2_ := below_set (j := 2) (v := .slice G2 q.c.length j2) e1_ GQ.out
  have b3_ := blk_put (cs' := #[.slice G0 q.a.length j0, .slice G1 q.b.length j1, .slice G2 q.c.length j2, .int .i64 q.d, .slice none 0 0, .slice none 0 0, .slice none 0 0, .slice none 0 0, .int .i64 0]) b2_ 3 (.int .i64 q.d) rfl
  have e3_ := below_set (j := 3) (v := .int .i64 q.d) e2_ GQ.out
  have b4_ := blk_put (cs' := #[.slice G0 q.a.length j0, .slice G1 q.b.length j1, .slice G2 q.c.length j2, .int .i64 q.d, .slice G4 q.e.length j4, .slice none 0 0, .slice none 0 0, .slice none 0 0, .int .i64 0]) b3_ 4 (.slice G4 q.e.length j4) rfl
  have e4_ := below_set (j := 4) (v := .slice G4 q.e.length j4) e3_ GQ.out
  have b5_ := blk_put (cs' := #[.slice G0 q.a.length j0, .slice G1 q.b.length j1, .slice G2 q.c.length j2, .int .i64 q.d, .slice G4 q.e.length j4, .slice G5 q.f.length j5, .slice none 0 0, .slice none 0 0, .int .i64 0]) b4_ 5 (.slice G5 q.f.length j5) rfl
  have e5_ := below_set (j := 5) (v := .slice G5 q.f.length j5) e4_ GQ.out
  have b6_ := blk_put (cs' := #[.slice G0 q.a.length j0, .slice G1 q.b.length j1, .slice G2 q.c.length j2, .int .i64 q.d, .slice G4 q.e.length j4, .slice G5 q.f.length j5, .slice G6 q.g.length j6, .slice none 0 0, .int .i64 0]) b5_ 6 (.slice G6 q.g.length j6) rfl
  have e6_ := below_set (j := 6) (v := .slice G6 q.g.length j6) e5_ GQ.out
  have b7_ := blk_put (cs' := #[.slice G0 q.a.length j0, .slice G1 q.b.length j1, .slice G2 q.c.length j2, .int .i64 q.d, .slice G4 q.e.length j4, .slice G5 q.f.length j5, .slice G6 q.g.length j6, .slice G7 q.h.length j7, .int .i64 0]) b6_ 7 (.slice G7 q.h.length j7) rfl
  have e7_ := below_set (j := 7) (v := .slice G7 q.h.length j7) e6_ GQ.out
  have b8_ := blk_put (cs' := #[.slice G0 q.a.length j0, .slice G1 q.b.length j1, .slice G2 q.c.length j2, .int .i64 q.d, .slice G4 q.e.length j4, .slice G5 q.f.length j5, .slice G6 q.g.length j6, .slice G7 q.h.length j7, .int .i64 q.i]) b7_ 8 (.int .i64 q.i) rfl
  have e8_ := below_set (j := 8) (v := .int .i64 q.i) e7_ GQ.out
  have n0_ := Aside0.mk (HP.out.below e8_)
  have n1_ := Aside0.mk (blk_below BP.out e8_)
  have n2_ := Aside0.mk (below_step HB.out e8_)
  have n3_ := Aside0.mk (Kd.C_below HX.out e8_)
  have n4_ := Aside0.mk (HQ.out.below e8_)
  have n5_ := Aside0.mk (b8_)
  clear b0_ e0_ b1_ e1_ b2_ e2_ b3_ e3_ b4_ e4_ b5_ e5_ b6_ e6_ b7_ e7_ b8_ e8_ hcr0 hfr0 hcr1 hfr1 hcr2 hfr2 hcr3 hfr3 hcr4 hfr4 hcr5 hfr5 hcr6 hfr6 hcr7 hfr7 hcr8 hfr8 HBQ GQ BR HP BP HB HX HQ 
  generalize (((((((((w15.setCell { block := g15, off := 0 } (.slice G0 q.a.length j0)).setCell { block := g15, off := 1 } (.slice G1 q.b.length j1)).setCell { block := g15, off := 2 } (.slice G2 q.c.length j2)).setCell { block := g15, off := 3 } (.int .i64 q.d)).setCell { block := g15, off := 4 } (.slice G4 q.e.length j4)).setCell { block := g15, off := 5 } (.slice G5 q.f.length j5)).setCell { block := g15, off := 6 } (.slice G6 q.g.length j6)).setCell { block := g15, off := 7 } (.slice G7 q.h.length j7)).setCell { block := g15, off := 8 } (.int .i64 q.i)) = W15 at n0_ n1_ n2_ n3_ n4_ n5_ ⊢
  have HP := n0_
  have BP := n1_
  have HB := n2_
  have HX := n3_
  have HQ := n4_
  have BQ := n5_
  clear n0_ n1_ n2_ n3_ n4_ n5_
  have hcp0 : W15.cell? ⟨g3, 0, none⟩ = some (.slice A0 p.a.length c0) := (blk_cell BP.out 0).trans rfl
  have hcp1 : W15.cell? ⟨g3, 1, none⟩ = some (.slice A1 p.b.length c1) := (blk_cell BP.out 1).trans rfl
  have hcp2 : W15.cell? ⟨g3, 2, none⟩ = some (.slice A2 p.c.length c2) := (blk_cell BP.out 2).trans rfl
  have hcp3 : W15.cell? ⟨g3, 3, none⟩ = some (.int .i64 p.d) := (blk_cell BP.out 3).trans rfl
  have hcp4 : W15.cell? ⟨g3, 4, none⟩ = some (.slice A4 p.e.length c4) := (blk_cell BP.out 4).trans rfl
  have hcp5 : W15.cell? ⟨g3, 5, none⟩ = some (.slice A5 p.f.length c5) := (blk_cell BP.out 5).trans rfl
  have hcp6 : W15.cell? ⟨g3, 6, none⟩ = some (.slice A6 p.g.length c6) := (blk_cell BP.out 6).trans rfl
  have hcp7 : W15.cell? ⟨g3, 7, none⟩ = some (.slice A7 p.h.length c7) := (blk_cell BP.out 7).trans rfl
  have hcp8 : W15.cell? ⟨g3, 8, none⟩ = some (.int .i64 p.i) := (blk_cell BP.out 8).trans rfl
  have hcq0 : W15.cell? ⟨g15, 0, none⟩ = some (.slice G0 q.a.length j0) := (blk_cell BQ.out 0).trans rfl
  have hcq1 : W15.cell? ⟨g15, 1, none⟩ = some (.slice G1 q.b.length j1) := (blk_cell BQ.out 1).trans rfl
  have hcq2 : W15.cell? ⟨g15, 2, none⟩ = some (.slice G2 q.c.length j2) := (blk_cell BQ.out 2).trans rfl
  have hcq3 : W15.cell? ⟨g15, 3, none⟩ = some (.int .i64 q.d) := (blk_cell BQ.out 3).trans rfl
  have hcq4 : W15.cell? ⟨g15, 4, none⟩ = some (.slice G4 q.e.length j4) := (blk_cell BQ.out 4).trans rfl
  have hcq5 : W15.cell? ⟨g15, 5, none⟩ = some (.slice G5 q.f.length j5) := (blk_cell BQ.out 5).trans rfl
  have hcq6 : W15.cell? ⟨g15, 6, none⟩ = some (.slice G6 q.g.length j6) := (blk_cell BQ.out 6).trans rfl
  have hcq7 : W15.cell? ⟨g15, 7, none⟩ = some (.slice G7 q.h.length j7) := (blk_cell BQ.out 7).trans rfl
  have hcq8 : W15.cell? ⟨g15, 8, none⟩ = some (.int .i64 q.i) := (blk_cell BQ.out 8).trans rfl
  rcases HF.out with ⟨hf0, he2, heq⟩ | ⟨hf5, hy0⟩
  · subst hf0
    have HE2 := Aside0.mk he2
    obtain ⟨ty, ety⟩ : ∃ t, decide (y = 0) = t := ⟨_, rfl⟩
    rw [ety] at heq
    have HEQ := Aside0.mk heq
    have hyb : (y == 0) = ty := by rw [← ety]; rfl
    clear he2 heq HF
    go_upto_region 19 with (first | (go_at_call 10; (with_reducible refine (enc_e HE2.out HQ.out.pr).mono ?_); rintro e w96 ⟨⟨A17, c17, rfl, hk, hc⟩, hb⟩; have n0_ := Aside0.mk (below_step HB.out hb); have n1_ := Aside0.mk (HP.out.below hb); have n2_ := Aside0.mk (blk_below BP.out hb); have n3_ := Aside0.mk (Kd.C_below HX.out hb); have n4_ := Aside0.mk (HQ.out.below hb); have n5_ := Aside0.mk (blk_below BQ.out hb); clear HB HP BP HX HQ BQ; have HB := n0_; have HP := n1_; have BP := n2_; have HX := n3_; have HQ := n4_; have BQ := n5_; clear n0_ n1_ n2_ n3_ n4_ n5_; have HS2 := Aside0.mk hc; clear hb hc hk; have hcp0 : w96.cell? ⟨g3, 0, none⟩ = some (.slice A0 p.a.length c0) := (blk_cell BP.out 0).trans rfl; have hcp1 : w96.cell? ⟨g3, 1, none⟩ = some (.slice A1 p.b.length c1) := (blk_cell BP.out 1).trans rfl; have hcp2 : w96.cell? ⟨g3, 2, none⟩ = some (.slice A2 p.c.length c2) := (blk_cell BP.out 2).trans rfl; have hcp3 : w96.cell? ⟨g3, 3, none⟩ = some (.int .i64 p.d) := (blk_cell BP.out 3).trans rfl; have hcp4 : w96.cell? ⟨g3, 4, none⟩ = some (.slice A4 p.e.length c4) := (blk_cell BP.out 4).trans rfl; have hcp5 : w96.cell? ⟨g3, 5, none⟩ = some (.slice A5 p.f.length c5) := (blk_cell BP.out 5).trans rfl; have hcp6 : w96.cell? ⟨g3, 6, none⟩ = some (.slice A6 p.g.length c6) := (blk_cell BP.out 6).trans rfl; have hcp7 : w96.cell? ⟨g3, 7, none⟩ = some (.slice A7 p.h.length c7) := (blk_cell BP.out 7).trans rfl; have hcp8 : w96.cell? ⟨g3, 8, none⟩ = some (.int .i64 p.i) := (blk_cell BP.out 8).trans rfl; have hcq0 : w96.cell? ⟨g15, 0, none⟩ = some (.slice G0 q.a.length j0) := (blk_cell BQ.out 0).trans rfl; have hcq1 : w96.cell? ⟨g15, 1, none⟩ = some (.slice G1 q.b.length j1) := (blk_cell BQ.out 1).trans rfl; have hcq2 : w96.cell? ⟨g15, 2, none⟩ = some (.slice G2 q.c.length j2) := (blk_cell BQ.out 2).trans rfl; have hcq3 : w96.cell? ⟨g15, 3, none⟩ = some (.int .i64 q.d) := (blk_cell BQ.out 3).trans rfl; have hcq4 : w96.cell? ⟨g15, 4, none⟩ = some (.slice G4 q.e.length j4) := (blk_cell BQ.out 4).trans rfl; have hcq5 : w96.cell? ⟨g15, 5, none⟩ = some (.slice G5 q.f.length j5) := (blk_cell BQ.out 5).trans rfl; have hcq6 : w96.cell? ⟨g15, 6, none⟩ = some (.slice G6 q.g.length j6) := (blk_cell BQ.out 6).trans rfl; have hcq7 : w96.cell? ⟨g15, 7, none⟩ = some (.slice G7 q.h.length j7) := (blk_cell BQ.out 7).trans rfl; have hcq8 : w96.cell? ⟨g15, 8, none⟩ = some (.int .i64 q.i) := (blk_cell BQ.out 8).trans rfl))
    have hqs := str_of HS2.out (c := c17)
    have hqt := str_of HX.out (c := c62)
    rw [← HN3.out] at hqt
    generalize strOfNums xs = sb9 at hqs hqt

    cases ty
    all_goals
      go_wp2_with (first | (go_at_call 16; (with_reducible refine (csame_any (EqB.iff HEQ.out) HP.out.pr HQ.out.pr).mono ?_); rintro e w113 ⟨rfl, hb⟩; have n0_ := Aside0.mk (below_step HB.out hb); clear HB; have HB := n0_; clear n0_; clear hb) | (go_at_call 9; (with_reducible refine (awake6_any _).mono ?_); rintro e w9 ⟨rfl, hb⟩; have n0_ := Aside0.mk (below_step HB.out hb); clear HB; have HB := n0_; clear n0_; clear hb))
      go_ret
      exact ⟨rfl, HB.out⟩
  · subst hf5
    have hyb : (y == 0) = false := beq_eq_false_iff_ne.mpr hy0
    have hyn : (y != 0) = true := bne_iff_ne.mpr hy0
    have hyd : decide (y = 0) = false := decide_eq_false hy0
    clear hy0 HF
    go_wp2_with (first | (go_at_call 9; (with_reducible refine (awake6_any _).mono ?_); rintro e w9 ⟨rfl, hb⟩; have n0_ := Aside0.mk (below_step HB.out hb); clear HB; have HB := n0_; clear n0_; clear hb))
    go_ret
    exact ⟨rfl, HB.out⟩

/-! The plain law of CodeTorn, and the join. -/
theorem enc_le {p : Pg} (ho : p.Ok) : (encB p).length ≤ 1000000 := by
  have h1 := layB_len 3 _ (map_le toL44 3 (fun _ => rfl) p.a)
  have h2 := layB_len 3 _ (map_le toL46 3 (fun _ => rfl) p.b)
  have h3 := layB_len 2 _ (map_le toL56 2 (fun _ => rfl) p.c)
  have h4 := layB_len 1 _ (map_le (fun x : Int => [x]) 1 (fun _ => rfl) p.e)
  have h5 := layB_len 1 _ (map_le (fun x : Int => [x]) 1 (fun _ => rfl) p.f)
  have h6 := layB_len 6 _ (show ∀ x ∈ p.g, x.length ≤ 6 from fun x hx => by rw [ho.v x hx]; exact ho.f)
  have h7 := layB_len 2 _ (map_le toL65 2 (fun _ => rfl) p.h)
  have := ho.a
  have := ho.b
  have := ho.c
  have := ho.e
  have := ho.f
  have := ho.g
  have := ho.h
  rw [List.length_map] at h1 h2 h3 h4 h5 h7
  unfold encB
  simp only [List.length_append, num8_len, List.length_cons, List.length_nil]
  omega
theorem within_ev (a : Int) (n : Nat) (h2 : 2 ≤ n) (hn : n ≤ 1000000) : ∃ k : Nat, k < n ∧ signalboxmake_Within.f a 0 ((n : Int) - 1) = some (k : Int) := by
  have e1 : wrap64 (wrap64 ((n : Int) - 1 - 0) + 1) = n := by unfold wrap64; omega
  obtain ⟨t, et⟩ : ∃ t, t = Int.tmod a (n : Int) := ⟨_, rfl⟩
  have hb : t.natAbs < n := by
    rw [et, Int.natAbs_tmod, Int.natAbs_natCast]
    exact Nat.mod_lt _ (by omega)
  unfold signalboxmake_Within.f
  rw [e1, if_neg (by omega), ← et]
  by_cases q : t < 0
  · rw [if_pos q]
    refine ⟨(t + n).toNat, by omega, congrArg some ?_⟩
    unfold wrap64
    omega
  · rw [if_neg q]
    refine ⟨t.toNat, by omega, congrArg some ?_⟩
    unfold wrap64
    omega
theorem xor8_bd {x y : Int} (hx : 0 ≤ x ∧ x ≤ 255) (hy : 0 ≤ y ∧ y ≤ 255) : 0 ≤ xor8 x y ∧ xor8 x y ≤ 255 := by
  unfold xor8
  rw [Go.u8_xor x y hx.1 (by omega) hy.1 (by omega)]
  have : x.toNat ^^^ y.toNat < 2 ^ 8 := Nat.xor_lt_two_pow (by omega) (by omega)
  omega
theorem xor8_id {x y : Int} (hx : 0 ≤ x ∧ x ≤ 255) (hy : 0 ≤ y ∧ y ≤ 255) : xor8 x y = x ↔ y = 0 := by
  unfold xor8
  rw [Go.u8_xor x y hx.1 (by omega) hy.1 (by omega)]
  constructor
  · intro h
    have h1 : x.toNat ^^^ y.toNat = x.toNat := by omega
    have h2 : x.toNat ^^^ (x.toNat ^^^ y.toNat) = x.toNat ^^^ x.toNat := by rw [h1]
    rw [← Nat.xor_assoc, Nat.xor_self, Nat.zero_xor] at h2
    omega
  · rintro rfl
    rw [Int.toNat_zero, Nat.xor_zero]
    omega
theorem torn_cut {p : Pg} (hw : p.Wf) (ho : p.Ok) {k : Nat} (hk : k < (encB p).length) : (dec ((encB p).take k)).2 = 5 := by
  rcases dec_code ((encB p).take k) with h | h
  · obtain ⟨h1, h2, h3⟩ := dec_ok h
    have e : encB p = encB (dec ((encB p).take k)).1 ++ (encB p).drop k := by rw [h3, List.take_append_drop]
    have := (enc_pre hw ho h1 h2 e).2
    have l : ((encB p).drop k).length = 0 := by rw [this]; rfl
    rw [List.length_drop] at l
    omega
  · exact h
theorem torn_more {p : Pg} (hw : p.Wf) (ho : p.Ok) (y : Int) : (dec (encB p ++ [y])).2 = 5 := by
  rcases dec_code (encB p ++ [y]) with h | h
  · obtain ⟨h1, h2, h3⟩ := dec_ok h
    have := (enc_pre h1 h2 hw ho h3).2
    cases this
  · exact h
theorem torn_any {w : World} {v : Value} {p : Pg} {k y : Int} (h : PR w v p) (hw : p.Wf) (hy : 0 ≤ y ∧ y ≤ 255) : Calls Try.prog 6 #[v, .int .i64 k, .int .u8 y] w fun e w' => e = .returned (.bool true) ∧ Below w.heap.size w w' := by
  obtain ⟨r, hr⟩ : ∃ r, Ev (fun k => signalboxmake_Small.f k p.a p.b p.c p.d p.e p.f p.g p.h p.i 3000) r := by
    obtain ⟨A0, c0, A1, c1, A2, c2, A4, c4, A5, c5, A6, c6, A7, c7, _, hx⟩ := h
    exact small_ev p 3000 hx.g.2.2.1
  cases r with
  | false => exact torn_small h hr
  | true =>
    cases hm : p.may with
    | false => exact torn_refused h hr (by unfold encP; rw [if_neg (by rw [hm]; decide)])
    | true =>
      have ho := Pg.may_ok.1 hm
      have hl := encB_len p
      have hu := enc_le ho
      have hb := encB_byt p
      obtain ⟨j, hj, hf⟩ := within_ev k (encB p).length (by omega) hu
      have hg : (encB p).getD j 0 ∈ encB p := by
        rw [List.getD_eq_getElem?_getD, List.getElem?_eq_getElem hj]
        exact List.getElem_mem hj
      obtain ⟨x, ex⟩ : ∃ x, x = (encB p).getD j 0 := ⟨_, rfl⟩
      rw [← ex] at hg
      have hx := hb x hg
      have hz := xor8_bd hx hy
      obtain ⟨xs, exs⟩ : ∃ xs, xs = (encB p).set j (xor8 x y) := ⟨_, rfl⟩
      have hyx : Byt xs := by
        intro u hu'
        rw [exs] at hu'
        rcases List.mem_or_eq_of_mem_set hu' with hu' | rfl
        · exact hb u hu'
        · exact hz
      have hself : (encB p).set j x = encB p := by
        rw [ex, List.getD_eq_getElem?_getD, List.getElem?_eq_getElem hj]
        exact List.set_getElem_self hj
      have hsame : xs = encB p ↔ y = 0 := by
        rw [← xor8_id hx hy, exs]
        constructor
        · intro h
          have h1 : ((encB p).set j (xor8 x y))[j]? = (encB p)[j]? := by rw [h]
          have h2 : (encB p)[j]? = some x := by
            rw [ex, List.getD_eq_getElem?_getD, List.getElem?_eq_getElem hj]; rfl
          rw [h2, List.getElem?_set_self hj] at h1
          exact Option.some.inj h1
        · intro h
          rw [h, hself]
      refine torn_long (q1 := (dec ((encB p).take j)).1) (q2 := (dec (encB p ++ [y])).1) (q := (dec xs).1) (f := (dec xs).2) (bs := encB p) (xs := xs) (k := j) h hr (by unfold encP; rw [if_pos hm]) hb hy ⟨by omega, hu⟩ hf hj
        (by rw [← torn_cut hw ho hj]) (by rw [← torn_more hw ho y]) (by rw [exs, ex]) hyx rfl ?_
      rcases dec_code xs with h0 | h5
      · obtain ⟨h1, h2, h3⟩ := dec_ok h0
        refine .inl ⟨h0, by unfold encP; rw [if_pos (Pg.may_ok.2 h2), h3], ?_⟩
        unfold EqB
        rw [decide_eq_true_iff, ← hsame]
        constructor
        · intro e
          rw [e] at h1 h2 h3 ⊢
          exact enc_inj hw ho h1 h2 h3.symm
        · intro e
          rw [← h3, ← e]
      · refine .inr ⟨h5, fun e => ?_⟩
        have e2 := hsame.2 e
        rw [e2, dec_enc hw ho] at h5
        cases h5

end Go.Proofs.Ytdgaklldijkoaaa.PCode
