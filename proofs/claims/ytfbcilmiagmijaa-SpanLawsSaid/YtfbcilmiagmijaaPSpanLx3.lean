-- Written by a program of this session (over the kit's printer): not typed by hand.
import Derived.Test.YtfbcilmiagmijaaPSpanLx0
import Derived.Test.YtfbcilmiagmijaaPSpanLx2
import Derived.ChangeKeysEq
import Derived.LoopN
namespace Go.Proofs.Ytfbcilmiagmijaa.PSpanL
open Go.RowKit Go.Proofs.YtfbcilmiagmijaaW.PrintWords Go.Proofs.YtfbcilmiagmijaaW.PrintLast Go.Proofs.YtfbcilmiagmijaaW.PrintMore
attribute [local go_sem] max2_int min2_int max_two min_two max_three min_three max_four min_four   -- for this text's walks alone
set_option linter.unusedVariables false
set_option linter.unusedSimpArgs false

/-! ### span_Plus: function 19 -/
theorem of_rounds {P : Program} {c : Code} {Q : Exit → Act → World → Prop} {n : Nat} {a : Act} {w : World} (h : c.wp P (Exit.then (Code.rounds P c Q n) Q) a w) : Code.rounds P c Q (n + 1) a w := h
theorem eqA54 (d : Nat) (w : World) (x0 y0 : Int) (x1 y1 : Int) :
    (Op.equalIn (d + 2) 54 (.agg #[.int .i64 x0, .int .i64 x1]) (.agg #[.int .i64 y0, .int .i64 y1])).run Try.prog w = .ok (x0 == y0 && (x1 == y1)) w := by
  obtain ⟨i, hi⟩ := Option.isSome_iff_exists.1 (show (Try.prog.info? 3).isSome = true by kernel_rfl)
  have hc : Try.prog.cellsOf 3 = 1 := by kernel_rfl
  have e1 : ∀ x y : Int, (Op.equalIn (d + 1) 3 (.int .i64 x) (.int .i64 y)).run Try.prog w = .ok (x == y) w := fun x y => by go_simp
  have p0 : ∀ x y : Int, (part 3 #[.int .i64 x, .int .i64 y] (0 * 1)).run Try.prog w = .ok (.int .i64 x) w := fun x y => by go_simp
  have p1 : ∀ x y : Int, (part 3 #[.int .i64 x, .int .i64 y] 1).run Try.prog w = .ok (.int .i64 y) w := fun x y => by go_simp
  rw [run_equalIn_array w (d + 1) _ _ Try.underlying54 hi, hc]
  show (Op.eqItems (d + 1) 3 1 _ _ [0, 1]).run Try.prog w = _
  simp only [Op.eqItems, Sem.run_bind, p0, e1, Result.andThen_ok]
  by_cases h0 : x0 = y0
  · by_cases h1 : x1 = y1 <;> simp [h0, h1, p1, e1]
  · simp [h0]
attribute [local go_sem high] eqA54
mutual
def span_Plus.j0 : Nat → Bool → Int → Int → Int → Int → Int → Int → Option (Int × Int)
  | 0, _, _, _, _, _, _, _ => none
  | k + 1, x22, x124000, x124001, x125000, x125001, x126000, x126001 => if x22 = true then (some ((-1048576), 1048576)) else ((span_Clip.f (wrap64 (x124000 + x125000))).bind fun t127 => (if x124000 = x126000 then (span_Plus.j1 k x124000 x124001 x125000 x125001 x126000 x126001 x126000 0) else (if x125000 = x126000 then (span_Plus.j1 k x124000 x124001 x125000 x125001 x126000 x126001 x126000 0) else (span_Plus.j1 k x124000 x124001 x125000 x125001 x126000 x126001 t127 0))))
def span_Plus.j1 : Nat → Int → Int → Int → Int → Int → Int → Int → Int → Option (Int × Int)
  | 0, _, _, _, _, _, _, _, _ => none
  | k + 1, x124000, x124001, x125000, x125001, x126000, x126001, x127000, x127001 => (span_Clip.f (wrap64 (x124001 + x125001))).bind fun t128 => (if x124001 = x126001 then (span_Plus.j2 k x127000 x126001) else (if x125001 = x126001 then (span_Plus.j2 k x127000 x126001) else (span_Plus.j2 k x127000 t128)))
def span_Plus.j2 : Nat → Int → Int → Option (Int × Int)
  | 0, _, _ => none
  | k + 1, x127000, x127001 => some (x127000, x127001)
end
def span_Plus.f (k : Nat) (a0_0 : Int) (a0_1 : Int) (a1_0 : Int) (a1_1 : Int) : Option (Int × Int) := (span_Span_bounds.f a0_0 a0_1).bind fun bt117 => ((span_Span_bounds.f a1_0 a1_1).bind fun bt119 => ((span_ends.f).bind fun bt121 => (if (bt117.1 == bt121.1 && (bt117.2 == bt121.2)) = true then (span_Plus.j0 k true bt117.1 bt117.2 bt119.1 bt119.2 bt121.1 bt121.2) else (span_Plus.j0 k (bt119.1 == bt121.1 && (bt119.2 == bt121.2)) bt117.1 bt117.2 bt119.1 bt119.2 bt121.1 bt121.2))))
theorem span_Plus.mono_l : ∀ k, (∀ y0 y1 y2 y3 y4 y5 y6, LeO (span_Plus.j0 k y0 y1 y2 y3 y4 y5 y6) (span_Plus.j0 (k + 1) y0 y1 y2 y3 y4 y5 y6)) ∧ (∀ y0 y1 y2 y3 y4 y5 y6 y7, LeO (span_Plus.j1 k y0 y1 y2 y3 y4 y5 y6 y7) (span_Plus.j1 (k + 1) y0 y1 y2 y3 y4 y5 y6 y7)) ∧ (∀ y0 y1, LeO (span_Plus.j2 k y0 y1) (span_Plus.j2 (k + 1) y0 y1))
  | 0 => ⟨fun _ _ _ _ _ _ _ r h => by simp [span_Plus.j0] at h, fun _ _ _ _ _ _ _ _ r h => by simp [span_Plus.j1] at h, fun _ _ r h => by simp [span_Plus.j2] at h⟩
  | k + 1 => by
    obtain ⟨ih0, ih1, ih2⟩ := span_Plus.mono_l k
    refine ⟨?_, ?_, ?_⟩
    · intro y0 y1 y2 y3 y4 y5 y6
      unfold span_Plus.j0
      repeat' first
      | (with_reducible exact ih0 _ _ _ _ _ _ _)
      | (with_reducible exact ih1 _ _ _ _ _ _ _ _)
      | (with_reducible exact ih2 _ _)
      | (with_reducible exact LeO.refl _)
      | (with_reducible exact LeO.none _)
      | (with_reducible refine LeO.ite ?_ ?_)
      | (with_reducible refine LeO.bind ?_ (fun _ => ?_))
      | exact ih0 _ _ _ _ _ _ _
      | exact ih1 _ _ _ _ _ _ _ _
      | exact ih2 _ _
      | exact LeO.none _
      | refine LeO.ite ?_ ?_
      | refine LeO.bind ?_ (fun _ => ?_)
    · intro y0 y1 y2 y3 y4 y5 y6 y7
      unfold span_Plus.j1
      repeat' first
      | (with_reducible exact ih0 _ _ _ _ _ _ _)
      | (with_reducible exact ih1 _ _ _ _ _ _ _ _)
      | (with_reducible exact ih2 _ _)
      | (with_reducible exact LeO.refl _)
      | (with_reducible exact LeO.none _)
      | (with_reducible refine LeO.ite ?_ ?_)
      | (with_reducible refine LeO.bind ?_ (fun _ => ?_))
      | exact ih0 _ _ _ _ _ _ _
      | exact ih1 _ _ _ _ _ _ _ _
      | exact ih2 _ _
      | exact LeO.none _
      | refine LeO.ite ?_ ?_
      | refine LeO.bind ?_ (fun _ => ?_)
    · intro y0 y1
      unfold span_Plus.j2
      repeat' first
      | (with_reducible exact ih0 _ _ _ _ _ _ _)
      | (with_reducible exact ih1 _ _ _ _ _ _ _ _)
      | (with_reducible exact ih2 _ _)
      | (with_reducible exact LeO.refl _)
      | (with_reducible exact LeO.none _)
      | (with_reducible refine LeO.ite ?_ ?_)
      | (with_reducible refine LeO.bind ?_ (fun _ => ?_))
      | exact ih0 _ _ _ _ _ _ _
      | exact ih1 _ _ _ _ _ _ _ _
      | exact ih2 _ _
      | exact LeO.none _
      | refine LeO.ite ?_ ?_
      | refine LeO.bind ?_ (fun _ => ?_)
theorem span_Plus.mono : ∀ a0 a1 a2 a3 k, LeO (span_Plus.f k a0 a1 a2 a3) (span_Plus.f (k + 1) a0 a1 a2 a3) := by
  intro a0 a1 a2 a3 k
  obtain ⟨ih0, ih1, ih2⟩ := span_Plus.mono_l k
  unfold span_Plus.f
  repeat' first
      | (with_reducible exact ih0 _ _ _ _ _ _ _)
      | (with_reducible exact ih1 _ _ _ _ _ _ _ _)
      | (with_reducible exact ih2 _ _)
      | (with_reducible exact LeO.refl _)
      | (with_reducible exact LeO.none _)
      | (with_reducible refine LeO.ite ?_ ?_)
      | (with_reducible refine LeO.bind ?_ (fun _ => ?_))
      | exact ih0 _ _ _ _ _ _ _
      | exact ih1 _ _ _ _ _ _ _ _
      | exact ih2 _ _
      | exact LeO.none _
      | refine LeO.ite ?_ ?_
      | refine LeO.bind ?_ (fun _ => ?_)
def span_Plus.T1 : Bool × List (List Nat × List Nat) := (true, [([], []), ([0], [0]), ([], []), ([2, 1], [2]), ([3], []), ([], []), ([], []), ([], []), ([5, 1, 4, 0, 1, 5, 6, 7], [1, 5]), ([6, 3, 8, 0, 1, 2, 3, 5, 6, 7, 8], [3, 6]), ([7, 4, 9, 0, 1, 2, 3, 4, 5, 6, 7, 8, 9], [4, 7])])
def span_Plus.B1 : List Nat := [0, 1, 0, 7, 15, 0, 0, 0, 255, 511, 1023]
theorem span_Plus.tab1 : rtab .any (opsOf Try.f19 1) = span_Plus.T1 := by kernel_rfl
theorem span_Plus.bits1 : waitsOk span_Plus.T1.2 span_Plus.B1 = true := by kernel_rfl
def span_Plus.T8 : Bool × List (List Nat × List Nat) := (true, [([], []), ([], []), ([1], [1]), ([2], [2]), ([], []), ([4], [4]), ([5], [5]), ([3, 6], [3, 6]), ([7], [7]), ([0, 0, 1, 2, 3, 4, 5, 6, 7, 8], [0]), ([9, 8, 8, 0, 1, 2, 3, 4, 5, 6, 7, 8], [8, 9])])
def span_Plus.B8 : List Nat := [0, 0, 2, 6, 0, 16, 48, 126, 254, 511, 1023]
theorem span_Plus.tab8 : rtab .any (opsOf Try.f19 8) = span_Plus.T8 := by kernel_rfl
theorem span_Plus.bits8 : waitsOk span_Plus.T8.2 span_Plus.B8 = true := by kernel_rfl
def span_Plus.T9 : Bool × List (List Nat × List Nat) := (true, [([], []), ([0], [0]), ([1], [1]), ([], []), ([3], [3]), ([4], [4]), ([2, 5], [2, 5]), ([6], [6]), ([7], [7]), ([8, 7], [7, 8]), ([9, 7], [7, 9]), ([7], [7]), ([11, 7], [7, 11]), ([12, 7], [7, 12]), ([10, 13, 7], [7, 10, 13]), ([7, 14], [7, 14])])
def span_Plus.B9 : List Nat := [0, 1, 3, 0, 8, 24, 63, 127, 255, 511, 1023, 255, 2303, 6399, 16383, 32767]
theorem span_Plus.tab9 : rtab .any (opsOf Try.f19 9) = span_Plus.T9 := by kernel_rfl
theorem span_Plus.bits9 : waitsOk span_Plus.T9.2 span_Plus.B9 = true := by kernel_rfl
section
variable {Q : Exit → Act → World → Prop} {S : World → Prop}
/-- What is told on the way through the first region: the three blocks that were there, and those of x, y and end, as far as they are made. -/
structure span_Plus.Mid (n0 : Nat) (w0 : World) (ga gb gc : Nat) (oa ob oc : Obj) (b5 b6 b7 : Bool) (g5 g6 g7 : Nat) (W : World) : Prop where
  ha : W.heap[ga]? = some oa
  hb : W.heap[gb]? = some ob
  hc : W.heap[gc]? = some oc
  hB : Below w0.heap.size w0 W
  h5 : b5 = true → W.heap[g5]? = some (.cells #[.int .i64 0, .int .i64 0] 54 (0, 0)) ∧ w0.heap.size ≤ g5 ∧ ga ≠ g5 ∧ gb ≠ g5 ∧ gc ≠ g5
  h6 : b6 = true → W.heap[g6]? = some (.cells #[.int .i64 0, .int .i64 0] 54 (0, 0)) ∧ w0.heap.size ≤ g6 ∧ ga ≠ g6 ∧ gb ≠ g6 ∧ gc ≠ g6
  h7 : b7 = true → W.heap[g7]? = some (.cells #[.int .i64 0, .int .i64 0] 54 (0, 0)) ∧ w0.heap.size ≤ g7 ∧ ga ≠ g7 ∧ gb ≠ g7 ∧ gc ≠ g7
  h56 : b5 = true → b6 = true → g5 ≠ g6
  h57 : b5 = true → b7 = true → g5 ≠ g7
  h67 : b6 = true → b7 = true → g6 ≠ g7
/-- A call changes nothing of that. -/
theorem span_Plus.Mid.call {n0 : Nat} {w0 : World} {ga gb gc : Nat} {oa ob oc : Obj} {b5 b6 b7 : Bool} {g5 g6 g7 : Nat} {W W' : World} (h : span_Plus.Mid n0 w0 ga gb gc oa ob oc b5 b6 b7 g5 g6 g7 W) (k : Below W.heap.size W W') : span_Plus.Mid n0 w0 ga gb gc oa ob oc b5 b6 b7 g5 g6 g7 W' :=
  ⟨blk_below h.ha k, blk_below h.hb k, blk_below h.hc k, below_step h.hB k, fun e => ⟨blk_below (h.h5 e).1 k, (h.h5 e).2⟩, fun e => ⟨blk_below (h.h6 e).1 k, (h.h6 e).2⟩, fun e => ⟨blk_below (h.h7 e).1 k, (h.h7 e).2⟩, h.h56, h.h57, h.h67⟩
/-- What a new block is. -/
theorem span_Plus.Mid.new {n0 : Nat} {w0 : World} {ga gb gc : Nat} {oa ob oc : Obj} {b5 b6 b7 : Bool} {g5 g6 g7 g : Nat} {W W' : World} (h : span_Plus.Mid n0 w0 ga gb gc oa ob oc b5 b6 b7 g5 g6 g7 W) (e : g = W.heap.size) (hn : W'.heap[g]? = some (.cells #[.int .i64 0, .int .i64 0] 54 (0, 0))) :
    (W'.heap[g]? = some (.cells #[.int .i64 0, .int .i64 0] 54 (0, 0)) ∧ w0.heap.size ≤ g ∧ ga ≠ g ∧ gb ≠ g ∧ gc ≠ g) ∧ (b5 = true → g5 ≠ g) ∧ (b6 = true → g6 ≠ g) ∧ (b7 = true → g7 ≠ g) := by
  have l1 := blk_lt h.ha
  have l2 := blk_lt h.hb
  have l3 := blk_lt h.hc
  have l4 := below_size h.hB
  refine ⟨⟨hn, by omega, by omega, by omega, by omega⟩, fun k => ?_, fun k => ?_, fun k => ?_⟩
  · have := blk_lt (h.h5 k).1; omega
  · have := blk_lt (h.h6 k).1; omega
  · have := blk_lt (h.h7 k).1; omega
def span_Plus.lst (c : Nat) (b5 b6 b7 : Bool) : Array Bool := #[true, decide (1 ≤ c), true, decide (2 ≤ c), decide (3 ≤ c), b5, b6, b7, false, false, false]
def span_Plus.up (c : Nat) (b5 b6 b7 : Bool) : List Nat :=
  (match c with | 0 => [1] | 1 => [3] | 2 => [4] | _ => []) ++ (if b5 = true then [] else [5]) ++ (if b6 = true then [] else [6]) ++ (if b7 = true then [] else [7])
theorem span_Plus.ready (c : Nat) (hc : c ≤ 3) (b5 b6 b7 : Bool) (hn : span_Plus.up c b5 b6 b7 ≠ []) : Region.ready .any (opsOf Try.f19 1) (span_Plus.lst c b5 b6 b7) = span_Plus.up c b5 b6 b7 := by
  rw [ready_eq, span_Plus.tab1]
  have h : c = 0 ∨ c = 1 ∨ c = 2 ∨ c = 3 := by omega
  rcases h with rfl | rfl | rfl | rfl <;> cases b5 <;> cases b6 <;> cases b7 <;> first | rfl | exact absurd rfl hn
def span_Plus.o1 : Oper := { dst := some 11, op := .call { callee := .value (.func 49), args := #[.tmp 10], argTypes := #[29] }, type := 54, pos := "span.go:35", after := #[{ on := 0, ground := .data }], guard := none }
def span_Plus.o3 : Oper := { dst := some 13, op := .call { callee := .value (.func 49), args := #[.tmp 12], argTypes := #[29] }, type := 54, pos := "span.go:35", after := #[{ on := 2, ground := .data }, { on := 1, ground := .chain }], guard := none }
def span_Plus.o4 : Oper := { dst := some 14, op := .call { callee := .value (.func 50), args := #[], argTypes := #[] }, type := 54, pos := "span.go:35", after := #[{ on := 3, ground := .chain }], guard := none }
def span_Plus.oA (n : Nat) : Oper := { dst := some n, op := .alloc 54, type := 0, pos := "span.go:35", after := #[], guard := none }
theorem span_Plus.at1 : (opsOf Try.f19 1)[1]? = some span_Plus.o1 := by kernel_rfl
theorem span_Plus.at3 : (opsOf Try.f19 1)[3]? = some span_Plus.o3 := by kernel_rfl
theorem span_Plus.at4 : (opsOf Try.f19 1)[4]? = some span_Plus.o4 := by kernel_rfl
theorem span_Plus.at5 : (opsOf Try.f19 1)[5]? = some (span_Plus.oA 5) := by kernel_rfl
theorem span_Plus.at6 : (opsOf Try.f19 1)[6]? = some (span_Plus.oA 6) := by kernel_rfl
theorem span_Plus.at7 : (opsOf Try.f19 1)[7]? = some (span_Plus.oA 7) := by kernel_rfl
def span_Plus.left (c : Nat) (b5 b6 b7 : Bool) : Nat := (3 - c) + (if b5 = true then 0 else 1) + (if b6 = true then 0 else 1) + (if b7 = true then 0 else 1)
def span_Plus.val (b : Bool) (v : Value) : Value := if b = true then v else undef
def span_Plus.ptr (g : Nat) : Value := .pointer (some ⟨g, 0, none⟩)
set_option maxHeartbeats 4000000 in
theorem span_Plus.reach {ops : Array Oper} (hops : ops = opsOf Try.f19 1) {n0 : Nat} {w0 : World} {ga gb gc : Nat} {oa ob oc : Obj} (A : Value → Value → Value → Value → Value → Value → Act) (va vb r1 r2 r3 : Value)
    (p5 : ∀ u5 u6 u7 u11 u13 u14 v, (A u5 u6 u7 u11 u13 u14).put (some 5) v = A v u6 u7 u11 u13 u14)
    (p6 : ∀ u5 u6 u7 u11 u13 u14 v, (A u5 u6 u7 u11 u13 u14).put (some 6) v = A u5 v u7 u11 u13 u14)
    (p7 : ∀ u5 u6 u7 u11 u13 u14 v, (A u5 u6 u7 u11 u13 u14).put (some 7) v = A u5 u6 v u11 u13 u14)
    (p11 : ∀ u5 u6 u7 u11 u13 u14 v, (A u5 u6 u7 u11 u13 u14).put (some 11) v = A u5 u6 u7 v u13 u14)
    (p13 : ∀ u5 u6 u7 u11 u13 u14 v, (A u5 u6 u7 u11 u13 u14).put (some 13) v = A u5 u6 u7 u11 v u14)
    (p14 : ∀ u5 u6 u7 u11 u13 u14 v, (A u5 u6 u7 u11 u13 u14).put (some 14) v = A u5 u6 u7 u11 u13 v)
    (e10 : ∀ u5 u6 u7 u11 u13 u14, (A u5 u6 u7 u11 u13 u14).eval (.tmp 10) = va) (e12 : ∀ u5 u6 u7 u11 u13 u14, (A u5 u6 u7 u11 u13 u14).eval (.tmp 12) = vb)
    (k1 : ∀ W, Calls Try.prog 49 #[va] W fun e w' => e = .returned r1 ∧ Below W.heap.size W w')
    (k2 : ∀ W, Calls Try.prog 49 #[vb] W fun e w' => e = .returned r2 ∧ Below W.heap.size W w')
    (k3 : ∀ W, Calls Try.prog 50 #[] W fun e w' => e = .returned r3 ∧ Below W.heap.size W w')
    (hS : ∀ W, W.heap[ga]? = some oa → W.heap[gb]? = some ob → S W)
    (hJ : ∀ g5 g6 g7 W, span_Plus.Mid n0 w0 ga gb gc oa ob oc true true true g5 g6 g7 W → wpAnyLast Try.prog .any ops Q S [] 3 (span_Plus.lst 3 true true true) (A (span_Plus.ptr g5) (span_Plus.ptr g6) (span_Plus.ptr g7) r1 r2 r3) W) :
    ∀ (m c : Nat) (b5 b6 b7 : Bool) (g5 g6 g7 : Nat) (W : World), c ≤ 3 → span_Plus.left c b5 b6 b7 = m → span_Plus.Mid n0 w0 ga gb gc oa ob oc b5 b6 b7 g5 g6 g7 W →
      wpAnyLast Try.prog .any ops Q S [] (3 + m) (span_Plus.lst c b5 b6 b7) (A (span_Plus.val b5 (span_Plus.ptr g5)) (span_Plus.val b6 (span_Plus.ptr g6)) (span_Plus.val b7 (span_Plus.ptr g7)) (span_Plus.val (decide (1 ≤ c)) r1) (span_Plus.val (decide (2 ≤ c)) r2) (span_Plus.val (decide (3 ≤ c)) r3)) W
  | 0, c, b5, b6, b7, g5, g6, g7, W, hc, hm, H => by
    subst hops
    unfold span_Plus.left at hm
    obtain rfl : c = 3 := by omega
    cases b5 <;> cases b6 <;> cases b7 <;> simp at hm
    exact hJ g5 g6 g7 W H
  | m + 1, c, b5, b6, b7, g5, g6, g7, W, hc, hm, H => by
    subst hops
    have hu54 := Try.underlying54
    have go := span_Plus.reach rfl A va vb r1 r2 r3 p5 p6 p7 p11 p13 p14 e10 e12 k1 k2 k3 hS hJ m
    have hn : span_Plus.up c b5 b6 b7 ≠ [] := by
      intro e
      unfold span_Plus.left at hm
      have h : c = 0 ∨ c = 1 ∨ c = 2 ∨ c = 3 := by omega
      rcases h with rfl | rfl | rfl | rfl <;> cases b5 <;> cases b6 <;> cases b7 <;> simp [span_Plus.up] at e hm
    refine wpAnyLast_ready (fuel := 3 + m) (span_Plus.ready c hc b5 b6 b7 hn) hn ?_
    intro i hi
    have hi' : (i = 1 ∧ c = 0) ∨ (i = 3 ∧ c = 1) ∨ (i = 4 ∧ c = 2) ∨ (i = 5 ∧ b5 = false) ∨ (i = 6 ∧ b6 = false) ∨ (i = 7 ∧ b7 = false) := by
      have h : c = 0 ∨ c = 1 ∨ c = 2 ∨ c = 3 := by omega
      rcases h with rfl | rfl | rfl | rfl <;> cases b5 <;> cases b6 <;> cases b7 <;> simp [span_Plus.up] at hi ⊢ <;> omega
    clear hi hn
    unfold span_Plus.left at hm
    rcases hi' with ⟨rfl, rfl⟩ | ⟨rfl, rfl⟩ | ⟨rfl, rfl⟩ | ⟨rfl, rfl⟩ | ⟨rfl, rfl⟩ | ⟨rfl, rfl⟩
    · refine AllReadyL.cons (rs := []) (S := S) span_Plus.at1 (by simp) (fun K hK => ?_) AllReadyL.nil 1 (by simp)
      refine goes_ Try.func49 (by kernel_rfl) rfl #[va] (by rfl) rfl rfl (by simp only [List.map_toArray, List.map_cons, List.map_nil, e10]) ?_
      refine (k1 W).mono ?_
      rintro e w' ⟨rfl, hb⟩
      refine ⟨_, rfl, ?_⟩
      show K ((A _ _ _ _ _ _).put (some 11) _) w'
      rw [p11]
      have H' := H.call hb
      exact hK.out _ _ (hS _ H'.ha H'.hb) (fun _ => go 1 b5 b6 b7 g5 g6 g7 w' (by omega) (by unfold span_Plus.left; omega) H')
    · refine AllReadyL.cons (rs := []) (S := S) span_Plus.at3 (by simp) (fun K hK => ?_) AllReadyL.nil 3 (by simp)
      refine goes_ Try.func49 (by kernel_rfl) rfl #[vb] (by rfl) rfl rfl (by simp only [List.map_toArray, List.map_cons, List.map_nil, e12]) ?_
      refine (k2 W).mono ?_
      rintro e w' ⟨rfl, hb⟩
      refine ⟨_, rfl, ?_⟩
      show K ((A _ _ _ _ _ _).put (some 13) _) w'
      rw [p13]
      have H' := H.call hb
      exact hK.out _ _ (hS _ H'.ha H'.hb) (fun _ => go 2 b5 b6 b7 g5 g6 g7 w' (by omega) (by unfold span_Plus.left; omega) H')
    · refine AllReadyL.cons (rs := []) (S := S) span_Plus.at4 (by simp) (fun K hK => ?_) AllReadyL.nil 4 (by simp)
      refine goes_ Try.func50 (by kernel_rfl) rfl #[] (by rfl) rfl rfl (by simp only [List.map_toArray, List.map_nil]) ?_
      refine (k3 W).mono ?_
      rintro e w' ⟨rfl, hb⟩
      refine ⟨_, rfl, ?_⟩
      show K ((A _ _ _ _ _ _).put (some 14) _) w'
      rw [p14]
      have H' := H.call hb
      exact hK.out _ _ (hS _ H'.ha H'.hb) (fun _ => go 3 b5 b6 b7 g5 g6 g7 w' (by omega) (by unfold span_Plus.left; omega) H')
    · refine AllReadyL.cons (rs := []) (S := S) span_Plus.at5 (by simp) (fun K hK => ?_) AllReadyL.nil 5 (by simp)
      refine box_step (by rfl) (N := 5) rfl (cs := #[.int .i64 0, .int .i64 0]) (t := 54) (by first | (go_simp; done) | (go_simp; rfl)) ?_
      intro g hg W' hbox hb
      have hp := p5 (span_Plus.val false (span_Plus.ptr g5)) (span_Plus.val b6 (span_Plus.ptr g6)) (span_Plus.val b7 (span_Plus.ptr g7)) (span_Plus.val (decide (1 ≤ c)) r1) (span_Plus.val (decide (2 ≤ c)) r2) (span_Plus.val (decide (3 ≤ c)) r3) (.pointer (some ⟨g, 0, none⟩))
      have H0 := H.call hb
      obtain ⟨N1, N2, N3, N4⟩ := H.new hg hbox
      have H' : span_Plus.Mid n0 w0 ga gb gc oa ob oc true b6 b7 g g6 g7 W' := ⟨H0.ha, H0.hb, H0.hc, H0.hB, fun _ => N1, H0.h6, H0.h7, fun _ e => Ne.symm (N3 e), fun _ e => Ne.symm (N4 e), H0.h67⟩
      refine hK.out _ _ (hS _ H'.ha H'.hb) (fun _ => ?_)
      refine norm_ hp ?_
      exact go c true b6 b7 g g6 g7 W' hc (by unfold span_Plus.left; simp at hm ⊢; omega) H'
    · refine AllReadyL.cons (rs := []) (S := S) span_Plus.at6 (by simp) (fun K hK => ?_) AllReadyL.nil 6 (by simp)
      refine box_step (by rfl) (N := 6) rfl (cs := #[.int .i64 0, .int .i64 0]) (t := 54) (by first | (go_simp; done) | (go_simp; rfl)) ?_
      intro g hg W' hbox hb
      have hp := p6 (span_Plus.val b5 (span_Plus.ptr g5)) (span_Plus.val false (span_Plus.ptr g6)) (span_Plus.val b7 (span_Plus.ptr g7)) (span_Plus.val (decide (1 ≤ c)) r1) (span_Plus.val (decide (2 ≤ c)) r2) (span_Plus.val (decide (3 ≤ c)) r3) (.pointer (some ⟨g, 0, none⟩))
      have H0 := H.call hb
      obtain ⟨N1, N2, N3, N4⟩ := H.new hg hbox
      have H' : span_Plus.Mid n0 w0 ga gb gc oa ob oc b5 true b7 g5 g g7 W' := ⟨H0.ha, H0.hb, H0.hc, H0.hB, H0.h5, fun _ => N1, H0.h7, fun e _ => N2 e, H0.h57, fun _ e => Ne.symm (N4 e)⟩
      refine hK.out _ _ (hS _ H'.ha H'.hb) (fun _ => ?_)
      refine norm_ hp ?_
      exact go c b5 true b7 g5 g g7 W' hc (by unfold span_Plus.left; simp at hm ⊢; omega) H'
    · refine AllReadyL.cons (rs := []) (S := S) span_Plus.at7 (by simp) (fun K hK => ?_) AllReadyL.nil 7 (by simp)
      refine box_step (by rfl) (N := 7) rfl (cs := #[.int .i64 0, .int .i64 0]) (t := 54) (by first | (go_simp; done) | (go_simp; rfl)) ?_
      intro g hg W' hbox hb
      have hp := p7 (span_Plus.val b5 (span_Plus.ptr g5)) (span_Plus.val b6 (span_Plus.ptr g6)) (span_Plus.val false (span_Plus.ptr g7)) (span_Plus.val (decide (1 ≤ c)) r1) (span_Plus.val (decide (2 ≤ c)) r2) (span_Plus.val (decide (3 ≤ c)) r3) (.pointer (some ⟨g, 0, none⟩))
      have H0 := H.call hb
      obtain ⟨N1, N2, N3, N4⟩ := H.new hg hbox
      have H' : span_Plus.Mid n0 w0 ga gb gc oa ob oc b5 b6 true g5 g6 g W' := ⟨H0.ha, H0.hb, H0.hc, H0.hB, H0.h5, H0.h6, fun _ => N1, H0.h56, fun e _ => N2 e, fun e _ => N3 e⟩
      refine hK.out _ _ (hS _ H'.ha H'.hb) (fun _ => ?_)
      refine norm_ hp ?_
      exact go c b5 b6 true g5 g6 g W' hc (by unfold span_Plus.left; simp at hm ⊢; omega) H'
end
set_option maxHeartbeats 8000000 in
set_option maxRecDepth 100000 in
theorem span_Plus.calls (k : Nat) (a0_0 : Int) (a0_1 : Int) (a1_0 : Int) (a1_1 : Int) (r1 : Int) (r2 : Int) (w : World) (h : span_Plus.f k a0_0 a0_1 a1_0 a1_1 = some (r1, r2)) :
    Calls Try.prog 19 #[.agg #[.int .i64 a0_0, .int .i64 a0_1], .agg #[.int .i64 a1_0, .int .i64 a1_1]] w fun e w' => e = .returned (.agg #[.int .i64 r1, .int .i64 r2]) ∧ Below w.heap.size w w' := by
  have hu29 := Try.underlying29
  have hu54 := Try.underlying54
  have HB := Aside0.mk (Below.refl w.heap.size w)
  have H : ((span_Span_bounds.f a0_0 a0_1).bind fun bt117 => ((span_Span_bounds.f a1_0 a1_1).bind fun bt119 => ((span_ends.f).bind fun bt121 => (if (bt117.1 == bt121.1 && (bt117.2 == bt121.2)) = true then (span_Plus.j0 k true bt117.1 bt117.2 bt119.1 bt119.2 bt121.1 bt121.2) else (span_Plus.j0 k (bt119.1 == bt121.1 && (bt119.2 == bt121.2)) bt117.1 bt117.2 bt119.1 bt119.2 bt121.1 bt121.2))))) = some (r1, r2) := h
  clear h
  replace H := Option.bind_eq_some_iff.mp H
  obtain ⟨⟨t117, t118⟩, A30, H⟩ := H
  replace H : ((span_Span_bounds.f a1_0 a1_1).bind fun bt119 => ((span_ends.f).bind fun bt121 => (if (t117 == bt121.1 && (t118 == bt121.2)) = true then (span_Plus.j0 k true t117 t118 bt119.1 bt119.2 bt121.1 bt121.2) else (span_Plus.j0 k (bt119.1 == bt121.1 && (bt119.2 == bt121.2)) t117 t118 bt119.1 bt119.2 bt121.1 bt121.2)))) = some (r1, r2) := H
  have A3 := Aside0.mk A30
  clear A30
  replace H := Option.bind_eq_some_iff.mp H
  obtain ⟨⟨t119, t120⟩, A40, H⟩ := H
  replace H : ((span_ends.f).bind fun bt121 => (if (t117 == bt121.1 && (t118 == bt121.2)) = true then (span_Plus.j0 k true t117 t118 t119 t120 bt121.1 bt121.2) else (span_Plus.j0 k (t119 == bt121.1 && (t120 == bt121.2)) t117 t118 t119 t120 bt121.1 bt121.2))) = some (r1, r2) := H
  have A4 := Aside0.mk A40
  clear A40
  replace H := Option.bind_eq_some_iff.mp H
  obtain ⟨⟨t121, t122⟩, A50, H⟩ := H
  replace H : (if (t117 == t121 && (t118 == t122)) = true then (span_Plus.j0 k true t117 t118 t119 t120 t121 t122) else (span_Plus.j0 k (t119 == t121 && (t120 == t122)) t117 t118 t119 t120 t121 t122)) = some (r1, r2) := H
  have A5 := Aside0.mk A50
  clear A50
  have HC6 := Aside0.mk H
  clear H
  go_enter Try.func19, Try.ntmps19
  try go_wp2_with (first | ((with_reducible refine gate_dst (N := 2) rfl ?_); refine box_event ?hg (N := 2) ?hd (cs := #[.int .i64 a0_0, .int .i64 a0_1]) (t := 29) ?hr ?_; (case hd => rfl); (case hg => rfl); (case hr => first | (go_simp; done) | (go_simp; rfl)); intro gb114 hg w7 hbox hb; have n0_ := Aside0.mk (below_step (by repeat (first | (with_reducible first | exact HB.out | apply below_alloc | apply pw_below_drewN | apply below_drew1) | exact HB.out)) hb); have n1_ := Aside0.mk (hbox); have n2_ := Aside0.mk ((by rw [hg]; exact (below_size (by repeat (first | (with_reducible first | exact HB.out | apply below_alloc | apply pw_below_drewN | apply below_drew1) | exact HB.out))) : w.heap.size ≤ gb114)); have n3_ := Aside0.mk ((by rw [hg]; exact (below_size (by repeat (first | (with_reducible first | exact HB.out | apply below_alloc | apply pw_below_drewN | apply below_drew1) | exact HB.out))) : w.heap.size ≤ gb114)); clear HB; have HB := n0_; have BK114 := n1_; have GW114 := n2_; have GE114 := n3_; clear n0_ n1_ n2_ n3_; clear hb hbox hg) | ((with_reducible refine gate_dst (N := 3) rfl ?_); refine box_event ?hg (N := 3) ?hd (cs := #[.int .i64 a1_0, .int .i64 a1_1]) (t := 29) ?hr ?_; (case hd => rfl); (case hg => rfl); (case hr => first | (go_simp; done) | (go_simp; rfl)); intro gb115 hg w8 hbox hb; have n0_ := Aside0.mk (blk_below (g := gb114) (o := .cells #[.int .i64 a0_0, .int .i64 a0_1] 29 (0, 0)) (by (with_reducible repeat (first | refine blk_drewN ?_ _ | refine blk_drew ?_ | refine blk_alloc ?_ _)); exact BK114.out) hb); have n1_ := Aside0.mk (below_step (by repeat (first | (with_reducible first | exact HB.out | apply below_alloc | apply pw_below_drewN | apply below_drew1 | refine below_set ?_ GE114.out) | exact HB.out)) hb); have n2_ := Aside0.mk (hbox); have n3_ := Aside0.mk ((by rw [hg]; exact (below_size (by repeat (first | (with_reducible first | exact HB.out | apply below_alloc | apply pw_below_drewN | apply below_drew1 | refine below_set ?_ GE114.out) | exact HB.out))) : w.heap.size ≤ gb115)); have n4_ := Aside0.mk ((by rw [hg]; exact (below_size (by repeat (first | (with_reducible first | exact HB.out | apply below_alloc | apply pw_below_drewN | apply below_drew1 | refine below_set ?_ GE114.out) | exact HB.out))) : w.heap.size ≤ gb115)); have n5_ := Aside0.mk ((by rw [hg]; exact Nat.ne_of_lt (blk_lt (g := gb114) (o := .cells #[.int .i64 a0_0, .int .i64 a0_1] 29 (0, 0)) (by (with_reducible repeat (first | refine blk_drewN ?_ _ | refine blk_drew ?_ | refine blk_alloc ?_ _)); exact BK114.out)) : gb114 ≠ gb115)); have n6_ := Aside0.mk ((by rw [hg]; exact Nat.ne_of_gt (blk_lt (g := gb114) (o := .cells #[.int .i64 a0_0, .int .i64 a0_1] 29 (0, 0)) (by (with_reducible repeat (first | refine blk_drewN ?_ _ | refine blk_drew ?_ | refine blk_alloc ?_ _)); exact BK114.out)) : gb115 ≠ gb114)); clear BK114; clear HB; have BK114 := n0_; have HB := n1_; have BK115 := n2_; have GW115 := n3_; have GE115 := n4_; have NB114_115 := n5_; have NB115_114 := n6_; clear n0_ n1_ n2_ n3_ n4_ n5_ n6_; clear hb hbox hg) | ((with_reducible refine gate_dst (N := 4) rfl ?_); refine box_event ?hg (N := 4) ?hd (cs := #[.int .i64 0, .int .i64 0]) (t := 29) ?hr ?_; (case hd => rfl); (case hg => rfl); (case hr => first | (go_simp; done) | (go_simp; rfl)); intro gb116 hg w9 hbox hb; have n0_ := Aside0.mk (blk_below (g := gb114) (o := .cells #[.int .i64 a0_0, .int .i64 a0_1] 29 (0, 0)) (by (with_reducible repeat (first | refine blk_drewN ?_ _ | refine blk_drew ?_ | refine blk_alloc ?_ _)); exact BK114.out) hb); have n1_ := Aside0.mk (blk_below (g := gb115) (o := .cells #[.int .i64 a1_0, .int .i64 a1_1] 29 (0, 0)) (by (with_reducible repeat (first | refine blk_drewN ?_ _ | refine blk_drew ?_ | refine blk_alloc ?_ _)); exact BK115.out) hb); have n2_ := Aside0.mk (below_step (by repeat (first | (with_reducible first | exact HB.out | apply below_alloc | apply pw_below_drewN | apply below_drew1 | refine below_set ?_ GE114.out | refine below_set ?_ GE115.out) | exact HB.out)) hb); have n3_ := Aside0.mk (hbox); have n4_ := Aside0.mk ((by rw [hg]; exact (below_size (by repeat (first | (with_reducible first | exact HB.out | apply below_alloc | apply pw_below_drewN | apply below_drew1 | refine below_set ?_ GE114.out | refine below_set ?_ GE115.out) | exact HB.out))) : w.heap.size ≤ gb116)); have n5_ := Aside0.mk ((by rw [hg]; exact (below_size (by repeat (first | (with_reducible first | exact HB.out | apply below_alloc | apply pw_below_drewN | apply below_drew1 | refine below_set ?_ GE114.out | refine below_set ?_ GE115.out) | exact HB.out))) : w.heap.size ≤ gb116)); have n6_ := Aside0.mk ((by rw [hg]; exact Nat.ne_of_lt (blk_lt (g := gb114) (o := .cells #[.int .i64 a0_0, .int .i64 a0_1] 29 (0, 0)) (by (with_reducible repeat (first | refine blk_drewN ?_ _ | refine blk_drew ?_ | refine blk_alloc ?_ _)); exact BK114.out)) : gb114 ≠ gb116)); have n7_ := Aside0.mk ((by rw [hg]; exact Nat.ne_of_gt (blk_lt (g := gb114) (o := .cells #[.int .i64 a0_0, .int .i64 a0_1] 29 (0, 0)) (by (with_reducible repeat (first | refine blk_drewN ?_ _ | refine blk_drew ?_ | refine blk_alloc ?_ _)); exact BK114.out)) : gb116 ≠ gb114)); have n8_ := Aside0.mk ((by rw [hg]; exact Nat.ne_of_lt (blk_lt (g := gb115) (o := .cells #[.int .i64 a1_0, .int .i64 a1_1] 29 (0, 0)) (by (with_reducible repeat (first | refine blk_drewN ?_ _ | refine blk_drew ?_ | refine blk_alloc ?_ _)); exact BK115.out)) : gb115 ≠ gb116)); have n9_ := Aside0.mk ((by rw [hg]; exact Nat.ne_of_gt (blk_lt (g := gb115) (o := .cells #[.int .i64 a1_0, .int .i64 a1_1] 29 (0, 0)) (by (with_reducible repeat (first | refine blk_drewN ?_ _ | refine blk_drew ?_ | refine blk_alloc ?_ _)); exact BK115.out)) : gb116 ≠ gb115)); clear BK114; clear BK115; clear HB; have BK114 := n0_; have BK115 := n1_; have HB := n2_; have BK116 := n3_; have GW116 := n4_; have GE116 := n5_; have NB114_116 := n6_; have NB116_114 := n7_; have NB115_116 := n8_; have NB116_115 := n9_; clear n0_ n1_ n2_ n3_ n4_ n5_ n6_ n7_ n8_ n9_; clear hb hbox hg))
  have n0_ := Aside0.mk (blk_drew BK114.out)
  have n1_ := Aside0.mk (blk_drew BK115.out)
  have n2_ := Aside0.mk (blk_drew BK116.out)
  have n3_ := Aside0.mk (below_drew1 HB.out)
  clear BK114
  clear BK115
  clear BK116
  clear HB
  have BK114 := n0_
  have BK115 := n1_
  have BK116 := n2_
  have HB := n3_
  clear n0_ n1_ n2_ n3_
  refine start_ (n := 11) (S := fun w' => w'.cell? ⟨gb114, 0, none⟩ = some (.int .i64 a0_0) ∧ w'.cell? ⟨gb114, 1, none⟩ = some (.int .i64 a0_1) ∧ w'.cell? ⟨gb115, 0, none⟩ = some (.int .i64 a1_0) ∧ w'.cell? ⟨gb115, 1, none⟩ = some (.int .i64 a1_1)) (ds := []) #[false, false, false, false, false, false, false, false, false, false, false] (by kernel_rfl) rfl rfl ⟨(blk_cell BK114.out 0).trans rfl, (blk_cell BK114.out 1).trans rfl, (blk_cell BK115.out 0).trans rfl, (blk_cell BK115.out 1).trans rfl⟩ (fun hHeld => ?_); refine with_tabW span_Plus.tab1 span_Plus.bits1 (fun HT_ HW_ => ?_)
  generalize w9.drew = w10 at BK114 BK115 BK116 HB hHeld ⊢
  refine take_ (i := 0) (N := some 10) (v := ?_) (a' := ?_) #[true, false, false, false, false, false, false, false, false, false, false] rfl rfl (take_ofW HT_.out HW_.out (by kernel_rfl)) (fun _ _ _ h => h) (Or.inl ⟨by rfl, ?_⟩) hHeld ?_ ?_
  rotate_left
  · rintro w' ⟨s0, s1, s2, s3⟩
    go_simp
    with_reducible rfl
  rotate_left
  · simp only [Act.put, List.setIfInBounds_toArray, List.set_cons_zero, List.set_cons_succ, i64_w, i32_w]
    rfl
  refine take_ (i := 2) (N := some 12) (v := ?_) (a' := ?_) #[true, false, true, false, false, false, false, false, false, false, false] rfl rfl (take_ofW HT_.out HW_.out (by kernel_rfl)) (fun _ _ _ h => h) (Or.inl ⟨by rfl, ?_⟩) hHeld ?_ ?_
  rotate_left
  · rintro w' ⟨s0, s1, s2, s3⟩
    go_simp
    with_reducible rfl
  rotate_left
  · simp only [Act.put, List.setIfInBounds_toArray, List.set_cons_zero, List.set_cons_succ, i64_w, i32_w]
    rfl
  refine join_ (σ := Nat × Nat × Nat) 3 #[true, true, true, true, true, true, true, true, false, false, false] (fun s_ => [(11, .agg #[.int .i64 t117, .int .i64 t118]), (13, .agg #[.int .i64 t119, .int .i64 t120]), (14, .agg #[.int .i64 t121, .int .i64 t122]), (5, .pointer (some ⟨s_.1, 0, none⟩)), (6, .pointer (some ⟨s_.2.1, 0, none⟩)), (7, .pointer (some ⟨s_.2.2, 0, none⟩))]) (fun s_ w' => (w'.cell? ⟨gb114, 0, none⟩ = some (.int .i64 a0_0) ∧ w'.cell? ⟨gb114, 1, none⟩ = some (.int .i64 a0_1) ∧ w'.cell? ⟨gb115, 0, none⟩ = some (.int .i64 a1_0) ∧ w'.cell? ⟨gb115, 1, none⟩ = some (.int .i64 a1_1)) ∧ (w'.heap[gb114]? = some (.cells #[.int .i64 a0_0, .int .i64 a0_1] 29 (0, 0))) ∧ (w'.heap[gb115]? = some (.cells #[.int .i64 a1_0, .int .i64 a1_1] 29 (0, 0))) ∧ (w'.heap[gb116]? = some (.cells #[.int .i64 0, .int .i64 0] 29 (0, 0))) ∧ (w'.heap[s_.1]? = some (.cells #[.int .i64 0, .int .i64 0] 54 (0, 0))) ∧ (w'.heap[s_.2.1]? = some (.cells #[.int .i64 0, .int .i64 0] 54 (0, 0))) ∧ (w'.heap[s_.2.2]? = some (.cells #[.int .i64 0, .int .i64 0] 54 (0, 0))) ∧ (w.heap.size ≤ s_.1) ∧ (w.heap.size ≤ s_.1) ∧ (gb114 ≠ s_.1) ∧ (s_.1 ≠ gb114) ∧ (gb115 ≠ s_.1) ∧ (s_.1 ≠ gb115) ∧ (gb116 ≠ s_.1) ∧ (s_.1 ≠ gb116) ∧ (s_.2.1 ≠ s_.1) ∧ (s_.1 ≠ s_.2.1) ∧ (s_.2.2 ≠ s_.1) ∧ (s_.1 ≠ s_.2.2) ∧ (w.heap.size ≤ s_.2.1) ∧ (w.heap.size ≤ s_.2.1) ∧ (gb114 ≠ s_.2.1) ∧ (s_.2.1 ≠ gb114) ∧ (gb115 ≠ s_.2.1) ∧ (s_.2.1 ≠ gb115) ∧ (gb116 ≠ s_.2.1) ∧ (s_.2.1 ≠ gb116) ∧ (s_.2.2 ≠ s_.2.1) ∧ (s_.2.1 ≠ s_.2.2) ∧ (w.heap.size ≤ s_.2.2) ∧ (w.heap.size ≤ s_.2.2) ∧ (gb114 ≠ s_.2.2) ∧ (s_.2.2 ≠ gb114) ∧ (gb115 ≠ s_.2.2) ∧ (s_.2.2 ≠ gb115) ∧ (gb116 ≠ s_.2.2) ∧ (s_.2.2 ≠ gb116) ∧ (Below w.heap.size w w')) ?_ ?_
  rotate_left
  · intro hJ
    have hS_ : ∀ W : World, W.heap[gb114]? = some (.cells #[.int .i64 a0_0, .int .i64 a0_1] 29 (0, 0)) → W.heap[gb115]? = some (.cells #[.int .i64 a1_0, .int .i64 a1_1] 29 (0, 0)) → (W.cell? ⟨gb114, 0, none⟩ = some (.int .i64 a0_0) ∧ W.cell? ⟨gb114, 1, none⟩ = some (.int .i64 a0_1) ∧ W.cell? ⟨gb115, 0, none⟩ = some (.int .i64 a1_0) ∧ W.cell? ⟨gb115, 1, none⟩ = some (.int .i64 a1_1)) :=
      fun W h1 h2 => ⟨(blk_cell h1 0).trans rfl, (blk_cell h1 1).trans rfl, (blk_cell h2 0).trans rfl, (blk_cell h2 1).trans rfl⟩
    refine span_Plus.reach (by kernel_rfl) (n0 := 0) (w0 := w) (ga := gb114) (gb := gb115) (gc := gb116) (oa := .cells #[.int .i64 a0_0, .int .i64 a0_1] 29 (0, 0)) (ob := .cells #[.int .i64 a1_0, .int .i64 a1_1] 29 (0, 0)) (oc := .cells #[.int .i64 0, .int .i64 0] 29 (0, 0))
      (fun u5 u6 u7 u11 u13 u14 => ⟨#[.agg #[.int .i64 a0_0, .int .i64 a0_1], .agg #[.int .i64 a1_0, .int .i64 a1_1], .pointer (some ⟨gb114, 0, none⟩), .pointer (some ⟨gb115, 0, none⟩), .pointer (some ⟨gb116, 0, none⟩), u5, u6, u7, undef, undef, .agg #[.int .i64 a0_0, .int .i64 a0_1], u11, .agg #[.int .i64 a1_0, .int .i64 a1_1], u13, u14, undef, undef, undef, undef, undef, undef, undef, undef, undef, undef, undef, undef, undef, undef, undef, undef, undef, undef, undef, undef, undef, undef, undef, undef, undef, undef, undef, undef, undef, undef, undef, undef, undef, undef, undef, undef, undef, undef, undef, undef, undef, undef, undef, undef, undef, undef, undef, undef, undef], []⟩)
      (.agg #[.int .i64 a0_0, .int .i64 a0_1]) (.agg #[.int .i64 a1_0, .int .i64 a1_1]) (.agg #[.int .i64 t117, .int .i64 t118]) (.agg #[.int .i64 t119, .int .i64 t120]) (.agg #[.int .i64 t121, .int .i64 t122])
      (fun _ _ _ _ _ _ _ => rfl) (fun _ _ _ _ _ _ _ => rfl) (fun _ _ _ _ _ _ _ => rfl) (fun _ _ _ _ _ _ _ => rfl) (fun _ _ _ _ _ _ _ => rfl) (fun _ _ _ _ _ _ _ => rfl) (fun _ _ _ _ _ _ => rfl) (fun _ _ _ _ _ _ => rfl)
      (fun W => span_Span_bounds.calls a0_0 a0_1 t117 t118 W A3.out) (fun W => span_Span_bounds.calls a1_0 a1_1 t119 t120 W A4.out) (fun W => span_ends.calls t121 t122 W A5.out) hS_
      (fun g5 g6 g7 W M => norm_ rfl (hJ (g5, g6, g7) W ⟨hS_ W M.ha M.hb, M.ha, M.hb, M.hc, (M.h5 rfl).1, (M.h6 rfl).1, (M.h7 rfl).1, (M.h5 rfl).2.1, (M.h5 rfl).2.1, (M.h5 rfl).2.2.1, Ne.symm (M.h5 rfl).2.2.1, (M.h5 rfl).2.2.2.1, Ne.symm (M.h5 rfl).2.2.2.1, (M.h5 rfl).2.2.2.2, Ne.symm (M.h5 rfl).2.2.2.2, Ne.symm (M.h56 rfl rfl), M.h56 rfl rfl, Ne.symm (M.h57 rfl rfl), M.h57 rfl rfl,
        (M.h6 rfl).2.1, (M.h6 rfl).2.1, (M.h6 rfl).2.2.1, Ne.symm (M.h6 rfl).2.2.1, (M.h6 rfl).2.2.2.1, Ne.symm (M.h6 rfl).2.2.2.1, (M.h6 rfl).2.2.2.2, Ne.symm (M.h6 rfl).2.2.2.2, Ne.symm (M.h67 rfl rfl), M.h67 rfl rfl,
        (M.h7 rfl).2.1, (M.h7 rfl).2.1, (M.h7 rfl).2.2.1, Ne.symm (M.h7 rfl).2.2.1, (M.h7 rfl).2.2.2.1, Ne.symm (M.h7 rfl).2.2.2.1, (M.h7 rfl).2.2.2.2, Ne.symm (M.h7 rfl).2.2.2.2, M.hB⟩))
      6 0 false false false 0 0 0 w10 (by omega) rfl ⟨BK114.out, BK115.out, BK116.out, HB.out, fun e => absurd e (by decide), fun e => absurd e (by decide), fun e => absurd e (by decide), fun e => absurd e (by decide), fun e => absurd e (by decide), fun e => absurd e (by decide)⟩
  rintro ⟨gb123, gb124, gb125⟩ w17 ⟨hS_, h0_, h1_, h2_, h3_, h4_, h5_, h6_, h7_, h8_, h9_, h10_, h11_, h12_, h13_, h14_, h15_, h16_, h17_, h18_, h19_, h20_, h21_, h22_, h23_, h24_, h25_, h26_, h27_, h28_, h29_, h30_, h31_, h32_, h33_, h34_, h35_, h36_⟩
  have n0_ : Aside0 (w17.heap[gb114]? = some (.cells #[.int .i64 a0_0, .int .i64 a0_1] 29 (0, 0))) := ⟨h0_⟩
  have n1_ : Aside0 (w17.heap[gb115]? = some (.cells #[.int .i64 a1_0, .int .i64 a1_1] 29 (0, 0))) := ⟨h1_⟩
  have n2_ : Aside0 (w17.heap[gb116]? = some (.cells #[.int .i64 0, .int .i64 0] 29 (0, 0))) := ⟨h2_⟩
  have n3_ : Aside0 (w17.heap[gb123]? = some (.cells #[.int .i64 0, .int .i64 0] 54 (0, 0))) := ⟨h3_⟩
  have n4_ : Aside0 (w17.heap[gb124]? = some (.cells #[.int .i64 0, .int .i64 0] 54 (0, 0))) := ⟨h4_⟩
  have n5_ : Aside0 (w17.heap[gb125]? = some (.cells #[.int .i64 0, .int .i64 0] 54 (0, 0))) := ⟨h5_⟩
  have n6_ : Aside0 (w.heap.size ≤ gb123) := ⟨h6_⟩
  have n7_ : Aside0 (w.heap.size ≤ gb123) := ⟨h7_⟩
  have n8_ : Aside0 (gb114 ≠ gb123) := ⟨h8_⟩
  have n9_ : Aside0 (gb123 ≠ gb114) := ⟨h9_⟩
  have n10_ : Aside0 (gb115 ≠ gb123) := ⟨h10_⟩
  have n11_ : Aside0 (gb123 ≠ gb115) := ⟨h11_⟩
  have n12_ : Aside0 (gb116 ≠ gb123) := ⟨h12_⟩
  have n13_ : Aside0 (gb123 ≠ gb116) := ⟨h13_⟩
  have n14_ : Aside0 (gb124 ≠ gb123) := ⟨h14_⟩
  have n15_ : Aside0 (gb123 ≠ gb124) := ⟨h15_⟩
  have n16_ : Aside0 (gb125 ≠ gb123) := ⟨h16_⟩
  have n17_ : Aside0 (gb123 ≠ gb125) := ⟨h17_⟩
  have n18_ : Aside0 (w.heap.size ≤ gb124) := ⟨h18_⟩
  have n19_ : Aside0 (w.heap.size ≤ gb124) := ⟨h19_⟩
  have n20_ : Aside0 (gb114 ≠ gb124) := ⟨h20_⟩
  have n21_ : Aside0 (gb124 ≠ gb114) := ⟨h21_⟩
  have n22_ : Aside0 (gb115 ≠ gb124) := ⟨h22_⟩
  have n23_ : Aside0 (gb124 ≠ gb115) := ⟨h23_⟩
  have n24_ : Aside0 (gb116 ≠ gb124) := ⟨h24_⟩
  have n25_ : Aside0 (gb124 ≠ gb116) := ⟨h25_⟩
  have n26_ : Aside0 (gb125 ≠ gb124) := ⟨h26_⟩
  have n27_ : Aside0 (gb124 ≠ gb125) := ⟨h27_⟩
  have n28_ : Aside0 (w.heap.size ≤ gb125) := ⟨h28_⟩
  have n29_ : Aside0 (w.heap.size ≤ gb125) := ⟨h29_⟩
  have n30_ : Aside0 (gb114 ≠ gb125) := ⟨h30_⟩
  have n31_ : Aside0 (gb125 ≠ gb114) := ⟨h31_⟩
  have n32_ : Aside0 (gb115 ≠ gb125) := ⟨h32_⟩
  have n33_ : Aside0 (gb125 ≠ gb115) := ⟨h33_⟩
  have n34_ : Aside0 (gb116 ≠ gb125) := ⟨h34_⟩
  have n35_ : Aside0 (gb125 ≠ gb116) := ⟨h35_⟩
  have n36_ : Aside0 (Below w.heap.size w w17) := ⟨h36_⟩
  clear BK114
  clear BK115
  clear BK116
  clear HB
  clear h0_ h1_ h2_ h3_ h4_ h5_ h6_ h7_ h8_ h9_ h10_ h11_ h12_ h13_ h14_ h15_ h16_ h17_ h18_ h19_ h20_ h21_ h22_ h23_ h24_ h25_ h26_ h27_ h28_ h29_ h30_ h31_ h32_ h33_ h34_ h35_ h36_
  have BK114 := n0_
  have BK115 := n1_
  have BK116 := n2_
  have BK123 := n3_
  have BK124 := n4_
  have BK125 := n5_
  have GW123 := n6_
  have GE123 := n7_
  have NB114_123 := n8_
  have NB123_114 := n9_
  have NB115_123 := n10_
  have NB123_115 := n11_
  have NB116_123 := n12_
  have NB123_116 := n13_
  have NB124_123 := n14_
  have NB123_124 := n15_
  have NB125_123 := n16_
  have NB123_125 := n17_
  have GW124 := n18_
  have GE124 := n19_
  have NB114_124 := n20_
  have NB124_114 := n21_
  have NB115_124 := n22_
  have NB124_115 := n23_
  have NB116_124 := n24_
  have NB124_116 := n25_
  have NB125_124 := n26_
  have NB124_125 := n27_
  have GW125 := n28_
  have GE125 := n29_
  have NB114_125 := n30_
  have NB125_114 := n31_
  have NB115_125 := n32_
  have NB125_115 := n33_
  have NB116_125 := n34_
  have NB125_116 := n35_
  have HB := n36_
  clear n0_ n1_ n2_ n3_ n4_ n5_ n6_ n7_ n8_ n9_ n10_ n11_ n12_ n13_ n14_ n15_ n16_ n17_ n18_ n19_ n20_ n21_ n22_ n23_ n24_ n25_ n26_ n27_ n28_ n29_ n30_ n31_ n32_ n33_ n34_ n35_ n36_
  have hHeld : w17.cell? ⟨gb114, 0, none⟩ = some (.int .i64 a0_0) ∧ w17.cell? ⟨gb114, 1, none⟩ = some (.int .i64 a0_1) ∧ w17.cell? ⟨gb115, 0, none⟩ = some (.int .i64 a1_0) ∧ w17.cell? ⟨gb115, 1, none⟩ = some (.int .i64 a1_1) := hS_
  refine norm_ (a' := ?_) ?_ ?_
  rotate_left
  · simp only [putAll, Act.put, List.setIfInBounds_toArray, List.set_cons_zero, List.set_cons_succ]
    rfl
  refine one_ (i := 8) (N := none) #[true, true, true, true, true, true, true, true, true, false, false] rfl rfl (one_of HT_.out (by kernel_rfl)) (by decide) (fun K hK => ?_)
  have hs18 : w17.cell? ⟨gb123, 0, none⟩ = some (.int .i64 0) := (blk_cell BK123.out 0).trans rfl
  have hfs18 := blk_frozen BK123.out 0
  have hns18_0 := NB114_123.out
  have hns18_1 := NB115_123.out
  have hns18_2 := NB116_123.out
  have hns18_4 := NB124_123.out
  have hns18_5 := NB125_123.out
  have hms18_0 := NB123_114.out
  have hms18_1 := NB123_115.out
  have hms18_2 := NB123_116.out
  have hms18_4 := NB123_124.out
  have hms18_5 := NB123_125.out
  have hs19 : w17.cell? ⟨gb123, 1, none⟩ = some (.int .i64 0) := (blk_cell BK123.out 1).trans rfl
  have hfs19 := blk_frozen BK123.out 1
  have hns19_0 := NB114_123.out
  have hns19_1 := NB115_123.out
  have hns19_2 := NB116_123.out
  have hns19_4 := NB124_123.out
  have hns19_5 := NB125_123.out
  have hms19_0 := NB123_114.out
  have hms19_1 := NB123_115.out
  have hms19_2 := NB123_116.out
  have hms19_4 := NB123_124.out
  have hms19_5 := NB123_125.out
  refine skip_ (w1 := ?_) (by rfl) rfl ?_ ?_
  rotate_left
  · go_simp
    rfl
  refine hK.out _ _ ⟨((cell_far (p := ⟨gb123, _, none⟩) NB114_123.out _).trans (((cell_far (p := ⟨gb123, _, none⟩) NB114_123.out _).trans (hHeld.1)))), ((cell_far (p := ⟨gb123, _, none⟩) NB114_123.out _).trans (((cell_far (p := ⟨gb123, _, none⟩) NB114_123.out _).trans (hHeld.2.1)))), ((cell_far (p := ⟨gb123, _, none⟩) NB115_123.out _).trans (((cell_far (p := ⟨gb123, _, none⟩) NB115_123.out _).trans (hHeld.2.2.1)))), ((cell_far (p := ⟨gb123, _, none⟩) NB115_123.out _).trans (((cell_far (p := ⟨gb123, _, none⟩) NB115_123.out _).trans (hHeld.2.2.2))))⟩ (fun hHeld => ?_)
  clear hK K
  refine one_ (i := 9) (N := none) #[true, true, true, true, true, true, true, true, true, true, false] rfl rfl (one_of HT_.out (by kernel_rfl)) (by decide) (fun K hK => ?_)
  have hs20 : w17.cell? ⟨gb124, 0, none⟩ = some (.int .i64 0) := (blk_cell BK124.out 0).trans rfl
  have hfs20 := blk_frozen BK124.out 0
  have hns20_0 := NB114_124.out
  have hns20_1 := NB115_124.out
  have hns20_2 := NB116_124.out
  have hns20_3 := NB123_124.out
  have hns20_5 := NB125_124.out
  have hms20_0 := NB124_114.out
  have hms20_1 := NB124_115.out
  have hms20_2 := NB124_116.out
  have hms20_3 := NB124_123.out
  have hms20_5 := NB124_125.out
  have hs21 : w17.cell? ⟨gb124, 1, none⟩ = some (.int .i64 0) := (blk_cell BK124.out 1).trans rfl
  have hfs21 := blk_frozen BK124.out 1
  have hns21_0 := NB114_124.out
  have hns21_1 := NB115_124.out
  have hns21_2 := NB116_124.out
  have hns21_3 := NB123_124.out
  have hns21_5 := NB125_124.out
  have hms21_0 := NB124_114.out
  have hms21_1 := NB124_115.out
  have hms21_2 := NB124_116.out
  have hms21_3 := NB124_123.out
  have hms21_5 := NB124_125.out
  refine skip_ (w1 := ?_) (by rfl) rfl ?_ ?_
  rotate_left
  · go_simp
    rfl
  refine hK.out _ _ ⟨((cell_far (p := ⟨gb124, _, none⟩) NB114_124.out _).trans (((cell_far (p := ⟨gb124, _, none⟩) NB114_124.out _).trans (hHeld.1)))), ((cell_far (p := ⟨gb124, _, none⟩) NB114_124.out _).trans (((cell_far (p := ⟨gb124, _, none⟩) NB114_124.out _).trans (hHeld.2.1)))), ((cell_far (p := ⟨gb124, _, none⟩) NB115_124.out _).trans (((cell_far (p := ⟨gb124, _, none⟩) NB115_124.out _).trans (hHeld.2.2.1)))), ((cell_far (p := ⟨gb124, _, none⟩) NB115_124.out _).trans (((cell_far (p := ⟨gb124, _, none⟩) NB115_124.out _).trans (hHeld.2.2.2))))⟩ (fun hHeld => ?_)
  clear hK K
  refine one_ (i := 10) (N := none) #[true, true, true, true, true, true, true, true, true, true, true] rfl rfl (one_of HT_.out (by kernel_rfl)) (by decide) (fun K hK => ?_)
  have hs22 : w17.cell? ⟨gb125, 0, none⟩ = some (.int .i64 0) := (blk_cell BK125.out 0).trans rfl
  have hfs22 := blk_frozen BK125.out 0
  have hns22_0 := NB114_125.out
  have hns22_1 := NB115_125.out
  have hns22_2 := NB116_125.out
  have hns22_3 := NB123_125.out
  have hns22_4 := NB124_125.out
  have hms22_0 := NB125_114.out
  have hms22_1 := NB125_115.out
  have hms22_2 := NB125_116.out
  have hms22_3 := NB125_123.out
  have hms22_4 := NB125_124.out
  have hs23 : w17.cell? ⟨gb125, 1, none⟩ = some (.int .i64 0) := (blk_cell BK125.out 1).trans rfl
  have hfs23 := blk_frozen BK125.out 1
  have hns23_0 := NB114_125.out
  have hns23_1 := NB115_125.out
  have hns23_2 := NB116_125.out
  have hns23_3 := NB123_125.out
  have hns23_4 := NB124_125.out
  have hms23_0 := NB125_114.out
  have hms23_1 := NB125_115.out
  have hms23_2 := NB125_116.out
  have hms23_3 := NB125_123.out
  have hms23_4 := NB125_124.out
  refine skip_ (w1 := ?_) (by rfl) rfl ?_ ?_
  rotate_left
  · go_simp
    rfl
  refine hK.out _ _ ⟨((cell_far (p := ⟨gb125, _, none⟩) NB114_125.out _).trans (((cell_far (p := ⟨gb125, _, none⟩) NB114_125.out _).trans (hHeld.1)))), ((cell_far (p := ⟨gb125, _, none⟩) NB114_125.out _).trans (((cell_far (p := ⟨gb125, _, none⟩) NB114_125.out _).trans (hHeld.2.1)))), ((cell_far (p := ⟨gb125, _, none⟩) NB115_125.out _).trans (((cell_far (p := ⟨gb125, _, none⟩) NB115_125.out _).trans (hHeld.2.2.1)))), ((cell_far (p := ⟨gb125, _, none⟩) NB115_125.out _).trans (((cell_far (p := ⟨gb125, _, none⟩) NB115_125.out _).trans (hHeld.2.2.2))))⟩ (fun hHeld => ?_)
  clear hK K
  refine done_ (done_of HT_.out (by kernel_rfl)) ?_
  go_upto_region 2 with (first | ((with_reducible refine wp_loop_rounds 9 ?_)) | ((with_reducible refine of_rounds ?_)))
  go_cut [22] (fun v22 wc => ∃ (kq : Nat) (x22_5 : Bool), v22 = .bool x22_5 ∧ Aside0 (span_Plus.j0 kq x22_5 t117 t118 t119 t120 t121 t122 = some (r1, r2)) ∧ Aside0 (kq ≤ k) ∧ Aside0 (wc.heap[gb114]? = some (.cells #[.int .i64 a0_0, .int .i64 a0_1] 29 (0, 0))) ∧ Aside0 (wc.heap[gb115]? = some (.cells #[.int .i64 a1_0, .int .i64 a1_1] 29 (0, 0))) ∧ Aside0 (wc.heap[gb116]? = some (.cells #[.int .i64 0, .int .i64 0] 29 (0, 0))) ∧ Aside0 (wc.heap[gb123]? = some (.cells #[.int .i64 t117, .int .i64 t118] 54 (0, 0))) ∧ Aside0 (wc.heap[gb124]? = some (.cells #[.int .i64 t119, .int .i64 t120] 54 (0, 0))) ∧ Aside0 (wc.heap[gb125]? = some (.cells #[.int .i64 t121, .int .i64 t122] 54 (0, 0))) ∧ Aside0 (Below w.heap.size w wc))
  case first =>
    have H := HC6.out
    clear HC6
    by_cases c24 : (t117 == t121 && (t118 == t122)) = true
    · rw [if_pos c24] at H
      have c24b0 : (t117 == t121 && (t118 == t122)) = true := c24
      (try (have c24b1 : decide (t117 = t121 && (t118 == t122)) = true := by simpa using c24))
      (try (have c24b2 : (t117 == t121 && (t118 == t122)) = true := by simpa using c24))
      clear c24
      (first | rw [c24b0] | (simp only [i64_w, i32_w]; rw [c24b0]) | skip)
      have H' := Aside0.mk H
      clear H
      have hnb25 := NB123_114.out
      have hnc25 := NB114_123.out
      have hnb26 := NB123_115.out
      have hnc26 := NB115_123.out
      have hnb27 := NB123_116.out
      have hnc27 := NB116_123.out
      have hnb28 := NB123_124.out
      have hnc28 := NB124_123.out
      have hnb29 := NB123_125.out
      have hnc29 := NB125_123.out
      have hcz30_0 : w17.cell? ⟨gb123, 0, none⟩ = some (.int .i64 0) := (blk_cell BK123.out 0).trans rfl
      have hcz30_1 : w17.cell? ⟨gb123, 1, none⟩ = some (.int .i64 0) := (blk_cell BK123.out 1).trans rfl
      have hfz30_0 := blk_frozen BK123.out 0
      have hfz30_1 := blk_frozen BK123.out 1
      have hnb31 := NB125_114.out
      have hnc31 := NB114_125.out
      have hnb32 := NB125_115.out
      have hnc32 := NB115_125.out
      have hnb33 := NB125_116.out
      have hnc33 := NB116_125.out
      have hnb34 := NB125_124.out
      have hnc34 := NB124_125.out
      have hcz35_0 : w17.cell? ⟨gb125, 0, none⟩ = some (.int .i64 0) := (blk_cell BK125.out 0).trans rfl
      have hcz35_1 : w17.cell? ⟨gb125, 1, none⟩ = some (.int .i64 0) := (blk_cell BK125.out 1).trans rfl
      have hfz35_0 := blk_frozen BK125.out 0
      have hfz35_1 := blk_frozen BK125.out 1
      go_wp2_with (first | ((with_reducible refine wp_loop_rounds 9 ?_)) | ((with_reducible refine of_rounds ?_)))
      go_meet
      case rel => exact ⟨_, (true), (by first | rfl | (simp; done) | (simp [*]; done)), H', ⟨by first | omega | exact Nat.le_refl _⟩, ⟨by (with_reducible repeat (first | refine blk_drewN ?_ _ | refine blk_drew ?_ | refine blk_alloc ?_ _)); refine blk_far ?_ NB114_125.out _; (with_reducible repeat (first | refine blk_drewN ?_ _ | refine blk_drew ?_ | refine blk_alloc ?_ _)); refine blk_far ?_ NB114_125.out _; (with_reducible repeat (first | refine blk_drewN ?_ _ | refine blk_drew ?_ | refine blk_alloc ?_ _)); refine blk_far ?_ NB114_124.out _; (with_reducible repeat (first | refine blk_drewN ?_ _ | refine blk_drew ?_ | refine blk_alloc ?_ _)); refine blk_far ?_ NB114_124.out _; (with_reducible repeat (first | refine blk_drewN ?_ _ | refine blk_drew ?_ | refine blk_alloc ?_ _)); refine blk_far ?_ NB114_123.out _; (with_reducible repeat (first | refine blk_drewN ?_ _ | refine blk_drew ?_ | refine blk_alloc ?_ _)); refine blk_far ?_ NB114_123.out _; (with_reducible repeat (first | refine blk_drewN ?_ _ | refine blk_drew ?_ | refine blk_alloc ?_ _)); exact BK114.out⟩, ⟨by (with_reducible repeat (first | refine blk_drewN ?_ _ | refine blk_drew ?_ | refine blk_alloc ?_ _)); refine blk_far ?_ NB115_125.out _; (with_reducible repeat (first | refine blk_drewN ?_ _ | refine blk_drew ?_ | refine blk_alloc ?_ _)); refine blk_far ?_ NB115_125.out _; (with_reducible repeat (first | refine blk_drewN ?_ _ | refine blk_drew ?_ | refine blk_alloc ?_ _)); refine blk_far ?_ NB115_124.out _; (with_reducible repeat (first | refine blk_drewN ?_ _ | refine blk_drew ?_ | refine blk_alloc ?_ _)); refine blk_far ?_ NB115_124.out _; (with_reducible repeat (first | refine blk_drewN ?_ _ | refine blk_drew ?_ | refine blk_alloc ?_ _)); refine blk_far ?_ NB115_123.out _; (with_reducible repeat (first | refine blk_drewN ?_ _ | refine blk_drew ?_ | refine blk_alloc ?_ _)); refine blk_far ?_ NB115_123.out _; (with_reducible repeat (first | refine blk_drewN ?_ _ | refine blk_drew ?_ | refine blk_alloc ?_ _)); exact BK115.out⟩, ⟨by (with_reducible repeat (first | refine blk_drewN ?_ _ | refine blk_drew ?_ | refine blk_alloc ?_ _)); refine blk_far ?_ NB116_125.out _; (with_reducible repeat (first | refine blk_drewN ?_ _ | refine blk_drew ?_ | refine blk_alloc ?_ _)); refine blk_far ?_ NB116_125.out _; (with_reducible repeat (first | refine blk_drewN ?_ _ | refine blk_drew ?_ | refine blk_alloc ?_ _)); refine blk_far ?_ NB116_124.out _; (with_reducible repeat (first | refine blk_drewN ?_ _ | refine blk_drew ?_ | refine blk_alloc ?_ _)); refine blk_far ?_ NB116_124.out _; (with_reducible repeat (first | refine blk_drewN ?_ _ | refine blk_drew ?_ | refine blk_alloc ?_ _)); refine blk_far ?_ NB116_123.out _; (with_reducible repeat (first | refine blk_drewN ?_ _ | refine blk_drew ?_ | refine blk_alloc ?_ _)); refine blk_far ?_ NB116_123.out _; (with_reducible repeat (first | refine blk_drewN ?_ _ | refine blk_drew ?_ | refine blk_alloc ?_ _)); exact BK116.out⟩, ⟨by (with_reducible repeat (first | refine blk_drewN ?_ _ | refine blk_drew ?_ | refine blk_alloc ?_ _)); refine blk_far ?_ NB123_125.out _; (with_reducible repeat (first | refine blk_drewN ?_ _ | refine blk_drew ?_ | refine blk_alloc ?_ _)); refine blk_far ?_ NB123_125.out _; (with_reducible repeat (first | refine blk_drewN ?_ _ | refine blk_drew ?_ | refine blk_alloc ?_ _)); refine blk_far ?_ NB123_124.out _; (with_reducible repeat (first | refine blk_drewN ?_ _ | refine blk_drew ?_ | refine blk_alloc ?_ _)); refine blk_far ?_ NB123_124.out _; (with_reducible repeat (first | refine blk_drewN ?_ _ | refine blk_drew ?_ | refine blk_alloc ?_ _)); refine blk_put (cs := #[.int .i64 t117, .int .i64 0]) ?_ 1 _ rfl; (with_reducible repeat (first | refine blk_drewN ?_ _ | refine blk_drew ?_ | refine blk_alloc ?_ _)); refine blk_put (cs := #[.int .i64 0, .int .i64 0]) ?_ 0 _ rfl; (with_reducible repeat (first | refine blk_drewN ?_ _ | refine blk_drew ?_ | refine blk_alloc ?_ _)); exact BK123.out⟩, ⟨by (with_reducible repeat (first | refine blk_drewN ?_ _ | refine blk_drew ?_ | refine blk_alloc ?_ _)); refine blk_far ?_ NB124_125.out _; (with_reducible repeat (first | refine blk_drewN ?_ _ | refine blk_drew ?_ | refine blk_alloc ?_ _)); refine blk_far ?_ NB124_125.out _; (with_reducible repeat (first | refine blk_drewN ?_ _ | refine blk_drew ?_ | refine blk_alloc ?_ _)); refine blk_put (cs := #[.int .i64 t119, .int .i64 0]) ?_ 1 _ rfl; (with_reducible repeat (first | refine blk_drewN ?_ _ | refine blk_drew ?_ | refine blk_alloc ?_ _)); refine blk_put (cs := #[.int .i64 0, .int .i64 0]) ?_ 0 _ rfl; (with_reducible repeat (first | refine blk_drewN ?_ _ | refine blk_drew ?_ | refine blk_alloc ?_ _)); refine blk_far ?_ NB124_123.out _; (with_reducible repeat (first | refine blk_drewN ?_ _ | refine blk_drew ?_ | refine blk_alloc ?_ _)); refine blk_far ?_ NB124_123.out _; (with_reducible repeat (first | refine blk_drewN ?_ _ | refine blk_drew ?_ | refine blk_alloc ?_ _)); exact BK124.out⟩, ⟨by (with_reducible repeat (first | refine blk_drewN ?_ _ | refine blk_drew ?_ | refine blk_alloc ?_ _)); refine blk_put (cs := #[.int .i64 t121, .int .i64 0]) ?_ 1 _ rfl; (with_reducible repeat (first | refine blk_drewN ?_ _ | refine blk_drew ?_ | refine blk_alloc ?_ _)); refine blk_put (cs := #[.int .i64 0, .int .i64 0]) ?_ 0 _ rfl; (with_reducible repeat (first | refine blk_drewN ?_ _ | refine blk_drew ?_ | refine blk_alloc ?_ _)); refine blk_far ?_ NB125_124.out _; (with_reducible repeat (first | refine blk_drewN ?_ _ | refine blk_drew ?_ | refine blk_alloc ?_ _)); refine blk_far ?_ NB125_124.out _; (with_reducible repeat (first | refine blk_drewN ?_ _ | refine blk_drew ?_ | refine blk_alloc ?_ _)); refine blk_far ?_ NB125_123.out _; (with_reducible repeat (first | refine blk_drewN ?_ _ | refine blk_drew ?_ | refine blk_alloc ?_ _)); refine blk_far ?_ NB125_123.out _; (with_reducible repeat (first | refine blk_drewN ?_ _ | refine blk_drew ?_ | refine blk_alloc ?_ _)); exact BK125.out⟩, ⟨by repeat (first | (with_reducible first | exact HB.out | apply below_alloc | apply pw_below_drewN | apply below_drew1 | refine below_set ?_ GE114.out | refine below_set ?_ GE115.out | refine below_set ?_ GE116.out | refine below_set ?_ GE123.out | refine below_set ?_ GE124.out | refine below_set ?_ GE125.out) | exact HB.out)⟩⟩
    · rw [if_neg c24] at H
      have c24b0 : (t117 == t121 && (t118 == t122)) = false := by simpa using c24
      (try (have c24b1 : decide (t117 = t121 && (t118 == t122)) = false := by simpa using c24))
      (try (have c24b2 : (t117 == t121 && (t118 == t122)) = false := by simpa using c24))
      (try (have c24b3 : ¬ (t117 = t121 && (t118 == t122)) := by simpa using c24))
      clear c24
      (first | rw [c24b0] | (simp only [i64_w, i32_w]; rw [c24b0]) | skip)
      have H' := Aside0.mk H
      clear H
      have hnb36 := NB123_114.out
      have hnc36 := NB114_123.out
      have hnb37 := NB123_115.out
      have hnc37 := NB115_123.out
      have hnb38 := NB123_116.out
      have hnc38 := NB116_123.out
      have hnb39 := NB123_124.out
      have hnc39 := NB124_123.out
      have hnb40 := NB123_125.out
      have hnc40 := NB125_123.out
      have hcz41_0 : w17.cell? ⟨gb123, 0, none⟩ = some (.int .i64 0) := (blk_cell BK123.out 0).trans rfl
      have hcz41_1 : w17.cell? ⟨gb123, 1, none⟩ = some (.int .i64 0) := (blk_cell BK123.out 1).trans rfl
      have hfz41_0 := blk_frozen BK123.out 0
      have hfz41_1 := blk_frozen BK123.out 1
      have hnb42 := NB125_114.out
      have hnc42 := NB114_125.out
      have hnb43 := NB125_115.out
      have hnc43 := NB115_125.out
      have hnb44 := NB125_116.out
      have hnc44 := NB116_125.out
      have hnb45 := NB125_124.out
      have hnc45 := NB124_125.out
      have hcz46_0 : w17.cell? ⟨gb125, 0, none⟩ = some (.int .i64 0) := (blk_cell BK125.out 0).trans rfl
      have hcz46_1 : w17.cell? ⟨gb125, 1, none⟩ = some (.int .i64 0) := (blk_cell BK125.out 1).trans rfl
      have hfz46_0 := blk_frozen BK125.out 0
      have hfz46_1 := blk_frozen BK125.out 1
      have hnb47 := NB124_114.out
      have hnc47 := NB114_124.out
      have hnb48 := NB124_115.out
      have hnc48 := NB115_124.out
      have hnb49 := NB124_116.out
      have hnc49 := NB116_124.out
      have hcz50_0 : w17.cell? ⟨gb124, 0, none⟩ = some (.int .i64 0) := (blk_cell BK124.out 0).trans rfl
      have hcz50_1 : w17.cell? ⟨gb124, 1, none⟩ = some (.int .i64 0) := (blk_cell BK124.out 1).trans rfl
      have hfz50_0 := blk_frozen BK124.out 0
      have hfz50_1 := blk_frozen BK124.out 1
      go_wp2_with (first | ((with_reducible refine wp_loop_rounds 9 ?_)) | ((with_reducible refine of_rounds ?_)))
      go_meet
      case rel => exact ⟨_, ((t119 == t121 && (t120 == t122))), (by first | rfl | (simp; done) | (simp [*]; done)), H', ⟨by first | omega | exact Nat.le_refl _⟩, ⟨by (with_reducible repeat (first | refine blk_drewN ?_ _ | refine blk_drew ?_ | refine blk_alloc ?_ _)); refine blk_far ?_ NB114_125.out _; (with_reducible repeat (first | refine blk_drewN ?_ _ | refine blk_drew ?_ | refine blk_alloc ?_ _)); refine blk_far ?_ NB114_125.out _; (with_reducible repeat (first | refine blk_drewN ?_ _ | refine blk_drew ?_ | refine blk_alloc ?_ _)); refine blk_far ?_ NB114_124.out _; (with_reducible repeat (first | refine blk_drewN ?_ _ | refine blk_drew ?_ | refine blk_alloc ?_ _)); refine blk_far ?_ NB114_124.out _; (with_reducible repeat (first | refine blk_drewN ?_ _ | refine blk_drew ?_ | refine blk_alloc ?_ _)); refine blk_far ?_ NB114_123.out _; (with_reducible repeat (first | refine blk_drewN ?_ _ | refine blk_drew ?_ | refine blk_alloc ?_ _)); refine blk_far ?_ NB114_123.out _; (with_reducible repeat (first | refine blk_drewN ?_ _ | refine blk_drew ?_ | refine blk_alloc ?_ _)); exact BK114.out⟩, ⟨by (with_reducible repeat (first | refine blk_drewN ?_ _ | refine blk_drew ?_ | refine blk_alloc ?_ _)); refine blk_far ?_ NB115_125.out _; (with_reducible repeat (first | refine blk_drewN ?_ _ | refine blk_drew ?_ | refine blk_alloc ?_ _)); refine blk_far ?_ NB115_125.out _; (with_reducible repeat (first | refine blk_drewN ?_ _ | refine blk_drew ?_ | refine blk_alloc ?_ _)); refine blk_far ?_ NB115_124.out _; (with_reducible repeat (first | refine blk_drewN ?_ _ | refine blk_drew ?_ | refine blk_alloc ?_ _)); refine blk_far ?_ NB115_124.out _; (with_reducible repeat (first | refine blk_drewN ?_ _ | refine blk_drew ?_ | refine blk_alloc ?_ _)); refine blk_far ?_ NB115_123.out _; (with_reducible repeat (first | refine blk_drewN ?_ _ | refine blk_drew ?_ | refine blk_alloc ?_ _)); refine blk_far ?_ NB115_123.out _; (with_reducible repeat (first | refine blk_drewN ?_ _ | refine blk_drew ?_ | refine blk_alloc ?_ _)); exact BK115.out⟩, ⟨by (with_reducible repeat (first | refine blk_drewN ?_ _ | refine blk_drew ?_ | refine blk_alloc ?_ _)); refine blk_far ?_ NB116_125.out _; (with_reducible repeat (first | refine blk_drewN ?_ _ | refine blk_drew ?_ | refine blk_alloc ?_ _)); refine blk_far ?_ NB116_125.out _; (with_reducible repeat (first | refine blk_drewN ?_ _ | refine blk_drew ?_ | refine blk_alloc ?_ _)); refine blk_far ?_ NB116_124.out _; (with_reducible repeat (first | refine blk_drewN ?_ _ | refine blk_drew ?_ | refine blk_alloc ?_ _)); refine blk_far ?_ NB116_124.out _; (with_reducible repeat (first | refine blk_drewN ?_ _ | refine blk_drew ?_ | refine blk_alloc ?_ _)); refine blk_far ?_ NB116_123.out _; (with_reducible repeat (first | refine blk_drewN ?_ _ | refine blk_drew ?_ | refine blk_alloc ?_ _)); refine blk_far ?_ NB116_123.out _; (with_reducible repeat (first | refine blk_drewN ?_ _ | refine blk_drew ?_ | refine blk_alloc ?_ _)); exact BK116.out⟩, ⟨by (with_reducible repeat (first | refine blk_drewN ?_ _ | refine blk_drew ?_ | refine blk_alloc ?_ _)); refine blk_far ?_ NB123_125.out _; (with_reducible repeat (first | refine blk_drewN ?_ _ | refine blk_drew ?_ | refine blk_alloc ?_ _)); refine blk_far ?_ NB123_125.out _; (with_reducible repeat (first | refine blk_drewN ?_ _ | refine blk_drew ?_ | refine blk_alloc ?_ _)); refine blk_far ?_ NB123_124.out _; (with_reducible repeat (first | refine blk_drewN ?_ _ | refine blk_drew ?_ | refine blk_alloc ?_ _)); refine blk_far ?_ NB123_124.out _; (with_reducible repeat (first | refine blk_drewN ?_ _ | refine blk_drew ?_ | refine blk_alloc ?_ _)); refine blk_put (cs := #[.int .i64 t117, .int .i64 0]) ?_ 1 _ rfl; (with_reducible repeat (first | refine blk_drewN ?_ _ | refine blk_drew ?_ | refine blk_alloc ?_ _)); refine blk_put (cs := #[.int .i64 0, .int .i64 0]) ?_ 0 _ rfl; (with_reducible repeat (first | refine blk_drewN ?_ _ | refine blk_drew ?_ | refine blk_alloc ?_ _)); exact BK123.out⟩, ⟨by (with_reducible repeat (first | refine blk_drewN ?_ _ | refine blk_drew ?_ | refine blk_alloc ?_ _)); refine blk_far ?_ NB124_125.out _; (with_reducible repeat (first | refine blk_drewN ?_ _ | refine blk_drew ?_ | refine blk_alloc ?_ _)); refine blk_far ?_ NB124_125.out _; (with_reducible repeat (first | refine blk_drewN ?_ _ | refine blk_drew ?_ | refine blk_alloc ?_ _)); refine blk_put (cs := #[.int .i64 t119, .int .i64 0]) ?_ 1 _ rfl; (with_reducible repeat (first | refine blk_drewN ?_ _ | refine blk_drew ?_ | refine blk_alloc ?_ _)); refine blk_put (cs := #[.int .i64 0, .int .i64 0]) ?_ 0 _ rfl; (with_reducible repeat (first | refine blk_drewN ?_ _ | refine blk_drew ?_ | refine blk_alloc ?_ _)); refine blk_far ?_ NB124_123.out _; (with_reducible repeat (first | refine blk_drewN ?_ _ | refine blk_drew ?_ | refine blk_alloc ?_ _)); refine blk_far ?_ NB124_123.out _; (with_reducible repeat (first | refine blk_drewN ?_ _ | refine blk_drew ?_ | refine blk_alloc ?_ _)); exact BK124.out⟩, ⟨by (with_reducible repeat (first | refine blk_drewN ?_ _ | refine blk_drew ?_ | refine blk_alloc ?_ _)); refine blk_put (cs := #[.int .i64 t121, .int .i64 0]) ?_ 1 _ rfl; (with_reducible repeat (first | refine blk_drewN ?_ _ | refine blk_drew ?_ | refine blk_alloc ?_ _)); refine blk_put (cs := #[.int .i64 0, .int .i64 0]) ?_ 0 _ rfl; (with_reducible repeat (first | refine blk_drewN ?_ _ | refine blk_drew ?_ | refine blk_alloc ?_ _)); refine blk_far ?_ NB125_124.out _; (with_reducible repeat (first | refine blk_drewN ?_ _ | refine blk_drew ?_ | refine blk_alloc ?_ _)); refine blk_far ?_ NB125_124.out _; (with_reducible repeat (first | refine blk_drewN ?_ _ | refine blk_drew ?_ | refine blk_alloc ?_ _)); refine blk_far ?_ NB125_123.out _; (with_reducible repeat (first | refine blk_drewN ?_ _ | refine blk_drew ?_ | refine blk_alloc ?_ _)); refine blk_far ?_ NB125_123.out _; (with_reducible repeat (first | refine blk_drewN ?_ _ | refine blk_drew ?_ | refine blk_alloc ?_ _)); exact BK125.out⟩, ⟨by repeat (first | (with_reducible first | exact HB.out | apply below_alloc | apply pw_below_drewN | apply below_drew1 | refine below_set ?_ GE114.out | refine below_set ?_ GE115.out | refine below_set ?_ GE116.out | refine below_set ?_ GE123.out | refine below_set ?_ GE124.out | refine below_set ?_ GE125.out) | exact HB.out)⟩⟩
  case rest =>
    clear HC6
    try clear c2
    try clear p2
    try clear c3
    try clear c4
    try clear c24
    try clear c24b0
    try clear c24b1
    try clear c24b2
    try clear c25
    try clear c26
    try clear c27
    try clear c28
    try clear c29
    try clear c31
    try clear c32
    try clear c33
    try clear c34
    try clear c36
    try clear c37
    try clear c38
    try clear c39
    try clear c40
    try clear c42
    try clear c43
    try clear c44
    try clear c45
    try clear c47
    try clear c48
    try clear c49
    try clear hcz30_0
    try clear hcz30_1
    try clear hcz35_0
    try clear hcz35_1
    try clear hcz41_0
    try clear hcz41_1
    try clear hcz46_0
    try clear hcz46_1
    try clear hcz50_0
    try clear hcz50_1
    try clear hfz30_0
    try clear hfz30_1
    try clear hfz35_0
    try clear hfz35_1
    try clear hfz41_0
    try clear hfz41_1
    try clear hfz46_0
    try clear hfz46_1
    try clear hfz50_0
    try clear hfz50_1
    obtain ⟨kq, x22_5, rfl, HA, HJ5, BK114, BK115, BK116, BK123, BK124, BK125, HB⟩ := hcut
    cases kq with
    | zero => exact absurd HA.out (by simp [span_Plus.j0])
    | succ kj5 =>
      have H := HA.out
      clear HA
      simp only [span_Plus.j0] at H
      by_cases c51 : x22_5 = true
      · subst c51
        have H1 : (some ((-1048576), 1048576)) = some (r1, r2) := by rw [if_pos rfl] at H; exact H
        clear H
        have H := H1
        clear H1
        simp only [Option.some.injEq, Prod.mk.injEq] at H
        obtain ⟨rfl, rfl⟩ := H
        have hnb52 := NB116_114.out
        have hnc52 := NB114_116.out
        have hnb53 := NB116_115.out
        have hnc53 := NB115_116.out
        have hnb54 := NB116_123.out
        have hnc54 := NB123_116.out
        have hnb55 := NB116_124.out
        have hnc55 := NB124_116.out
        have hnb56 := NB116_125.out
        have hnc56 := NB125_116.out
        have hcz57_0 : wc.cell? ⟨gb116, 0, none⟩ = some (.int .i64 0) := (blk_cell BK116.out 0).trans rfl
        have hcz57_1 : wc.cell? ⟨gb116, 1, none⟩ = some (.int .i64 0) := (blk_cell BK116.out 1).trans rfl
        have hfz57_0 := blk_frozen BK116.out 0
        have hfz57_1 := blk_frozen BK116.out 1
        go_wp2_with (first | ((with_reducible refine wp_loop_rounds 9 ?_)) | ((with_reducible refine of_rounds ?_)))
        refine bodyPost_ret (results_cell_row rfl _ _ gb116 29 #[.int .i64 (-1048576), .int .i64 1048576] (0, 0) _ rfl (by (with_reducible repeat (first | refine blk_drewN ?_ _ | refine blk_drew ?_ | refine blk_alloc ?_ _)); refine blk_put (cs := #[.int .i64 (-1048576), .int .i64 0]) ?_ 1 _ rfl; (with_reducible repeat (first | refine blk_drewN ?_ _ | refine blk_drew ?_ | refine blk_alloc ?_ _)); refine blk_put (cs := #[.int .i64 0, .int .i64 0]) ?_ 0 _ rfl; (with_reducible repeat (first | refine blk_drewN ?_ _ | refine blk_drew ?_ | refine blk_alloc ?_ _)); exact BK116.out) Try.underlying29 rfl (by kernel_rfl)) rfl ?_
        exact ⟨by first | rfl | (simp [errW_none, errW_some] <;> rfl) | (simp [*, errW_none, errW_some] <;> rfl), by repeat (first | (with_reducible first | exact HB.out | apply below_alloc | apply pw_below_drewN | apply below_drew1 | refine below_set ?_ GE114.out | refine below_set ?_ GE115.out | refine below_set ?_ GE116.out | refine below_set ?_ GE123.out | refine below_set ?_ GE124.out | refine below_set ?_ GE125.out) | exact HB.out)⟩
      · replace c51 := Bool.eq_false_iff.mpr c51
        subst c51
        have H1 : ((span_Clip.f (wrap64 (t117 + t119))).bind fun t127 => (if t117 = t121 then (span_Plus.j1 kj5 t117 t118 t119 t120 t121 t122 t121 0) else (if t119 = t121 then (span_Plus.j1 kj5 t117 t118 t119 t120 t121 t122 t121 0) else (span_Plus.j1 kj5 t117 t118 t119 t120 t121 t122 t127 0)))) = some (r1, r2) := by rw [if_neg (show ¬ (false = true) by decide)] at H; exact H
        clear H
        have H := H1
        clear H1
        have HC58 := Aside0.mk H
        clear H
        go_upto_block 1 with (first | ((with_reducible refine gate_dst (N := 8) rfl ?_); refine box_event ?hg (N := 8) ?hd (cs := #[.int .i64 0, .int .i64 0]) (t := 54) ?hr ?_; (case hd => rfl); (case hg => rfl); (case hr => first | (go_simp; done) | (go_simp; rfl)); intro gb126 hg w59 hbox hb; have n0_ := Aside0.mk (blk_below (g := gb114) (o := .cells #[.int .i64 a0_0, .int .i64 a0_1] 29 (0, 0)) (by (with_reducible repeat (first | refine blk_drewN ?_ _ | refine blk_drew ?_ | refine blk_alloc ?_ _)); exact BK114.out) hb); have n1_ := Aside0.mk (blk_below (g := gb115) (o := .cells #[.int .i64 a1_0, .int .i64 a1_1] 29 (0, 0)) (by (with_reducible repeat (first | refine blk_drewN ?_ _ | refine blk_drew ?_ | refine blk_alloc ?_ _)); exact BK115.out) hb); have n2_ := Aside0.mk (blk_below (g := gb116) (o := .cells #[.int .i64 0, .int .i64 0] 29 (0, 0)) (by (with_reducible repeat (first | refine blk_drewN ?_ _ | refine blk_drew ?_ | refine blk_alloc ?_ _)); exact BK116.out) hb); have n3_ := Aside0.mk (blk_below (g := gb123) (o := .cells #[.int .i64 t117, .int .i64 t118] 54 (0, 0)) (by (with_reducible repeat (first | refine blk_drewN ?_ _ | refine blk_drew ?_ | refine blk_alloc ?_ _)); exact BK123.out) hb); have n4_ := Aside0.mk (blk_below (g := gb124) (o := .cells #[.int .i64 t119, .int .i64 t120] 54 (0, 0)) (by (with_reducible repeat (first | refine blk_drewN ?_ _ | refine blk_drew ?_ | refine blk_alloc ?_ _)); exact BK124.out) hb); have n5_ := Aside0.mk (blk_below (g := gb125) (o := .cells #[.int .i64 t121, .int .i64 t122] 54 (0, 0)) (by (with_reducible repeat (first | refine blk_drewN ?_ _ | refine blk_drew ?_ | refine blk_alloc ?_ _)); exact BK125.out) hb); have n6_ := Aside0.mk (below_step (by repeat (first | (with_reducible first | exact HB.out | apply below_alloc | apply pw_below_drewN | apply below_drew1 | refine below_set ?_ GE114.out | refine below_set ?_ GE115.out | refine below_set ?_ GE116.out | refine below_set ?_ GE123.out | refine below_set ?_ GE124.out | refine below_set ?_ GE125.out) | exact HB.out)) hb); have n7_ := Aside0.mk (hbox); have n8_ := Aside0.mk ((by rw [hg]; exact (below_size (by repeat (first | (with_reducible first | exact HB.out | apply below_alloc | apply pw_below_drewN | apply below_drew1 | refine below_set ?_ GE114.out | refine below_set ?_ GE115.out | refine below_set ?_ GE116.out | refine below_set ?_ GE123.out | refine below_set ?_ GE124.out | refine below_set ?_ GE125.out) | exact HB.out))) : w.heap.size ≤ gb126)); have n9_ := Aside0.mk ((by rw [hg]; exact (below_size (by repeat (first | (with_reducible first | exact HB.out | apply below_alloc | apply pw_below_drewN | apply below_drew1 | refine below_set ?_ GE114.out | refine below_set ?_ GE115.out | refine below_set ?_ GE116.out | refine below_set ?_ GE123.out | refine below_set ?_ GE124.out | refine below_set ?_ GE125.out) | exact HB.out))) : w.heap.size ≤ gb126)); have n10_ := Aside0.mk ((by rw [hg]; exact Nat.ne_of_lt (blk_lt (g := gb114) (o := .cells #[.int .i64 a0_0, .int .i64 a0_1] 29 (0, 0)) (by (with_reducible repeat (first | refine blk_drewN ?_ _ | refine blk_drew ?_ | refine blk_alloc ?_ _)); exact BK114.out)) : gb114 ≠ gb126)); have n11_ := Aside0.mk ((by rw [hg]; exact Nat.ne_of_gt (blk_lt (g := gb114) (o := .cells #[.int .i64 a0_0, .int .i64 a0_1] 29 (0, 0)) (by (with_reducible repeat (first | refine blk_drewN ?_ _ | refine blk_drew ?_ | refine blk_alloc ?_ _)); exact BK114.out)) : gb126 ≠ gb114)); have n12_ := Aside0.mk ((by rw [hg]; exact Nat.ne_of_lt (blk_lt (g := gb115) (o := .cells #[.int .i64 a1_0, .int .i64 a1_1] 29 (0, 0)) (by (with_reducible repeat (first | refine blk_drewN ?_ _ | refine blk_drew ?_ | refine blk_alloc ?_ _)); exact BK115.out)) : gb115 ≠ gb126)); have n13_ := Aside0.mk ((by rw [hg]; exact Nat.ne_of_gt (blk_lt (g := gb115) (o := .cells #[.int .i64 a1_0, .int .i64 a1_1] 29 (0, 0)) (by (with_reducible repeat (first | refine blk_drewN ?_ _ | refine blk_drew ?_ | refine blk_alloc ?_ _)); exact BK115.out)) : gb126 ≠ gb115)); have n14_ := Aside0.mk ((by rw [hg]; exact Nat.ne_of_lt (blk_lt (g := gb116) (o := .cells #[.int .i64 0, .int .i64 0] 29 (0, 0)) (by (with_reducible repeat (first | refine blk_drewN ?_ _ | refine blk_drew ?_ | refine blk_alloc ?_ _)); exact BK116.out)) : gb116 ≠ gb126)); have n15_ := Aside0.mk ((by rw [hg]; exact Nat.ne_of_gt (blk_lt (g := gb116) (o := .cells #[.int .i64 0, .int .i64 0] 29 (0, 0)) (by (with_reducible repeat (first | refine blk_drewN ?_ _ | refine blk_drew ?_ | refine blk_alloc ?_ _)); exact BK116.out)) : gb126 ≠ gb116)); have n16_ := Aside0.mk ((by rw [hg]; exact Nat.ne_of_lt (blk_lt (g := gb123) (o := .cells #[.int .i64 t117, .int .i64 t118] 54 (0, 0)) (by (with_reducible repeat (first | refine blk_drewN ?_ _ | refine blk_drew ?_ | refine blk_alloc ?_ _)); exact BK123.out)) : gb123 ≠ gb126)); have n17_ := Aside0.mk ((by rw [hg]; exact Nat.ne_of_gt (blk_lt (g := gb123) (o := .cells #[.int .i64 t117, .int .i64 t118] 54 (0, 0)) (by (with_reducible repeat (first | refine blk_drewN ?_ _ | refine blk_drew ?_ | refine blk_alloc ?_ _)); exact BK123.out)) : gb126 ≠ gb123)); have n18_ := Aside0.mk ((by rw [hg]; exact Nat.ne_of_lt (blk_lt (g := gb124) (o := .cells #[.int .i64 t119, .int .i64 t120] 54 (0, 0)) (by (with_reducible repeat (first | refine blk_drewN ?_ _ | refine blk_drew ?_ | refine blk_alloc ?_ _)); exact BK124.out)) : gb124 ≠ gb126)); have n19_ := Aside0.mk ((by rw [hg]; exact Nat.ne_of_gt (blk_lt (g := gb124) (o := .cells #[.int .i64 t119, .int .i64 t120] 54 (0, 0)) (by (with_reducible repeat (first | refine blk_drewN ?_ _ | refine blk_drew ?_ | refine blk_alloc ?_ _)); exact BK124.out)) : gb126 ≠ gb124)); have n20_ := Aside0.mk ((by rw [hg]; exact Nat.ne_of_lt (blk_lt (g := gb125) (o := .cells #[.int .i64 t121, .int .i64 t122] 54 (0, 0)) (by (with_reducible repeat (first | refine blk_drewN ?_ _ | refine blk_drew ?_ | refine blk_alloc ?_ _)); exact BK125.out)) : gb125 ≠ gb126)); have n21_ := Aside0.mk ((by rw [hg]; exact Nat.ne_of_gt (blk_lt (g := gb125) (o := .cells #[.int .i64 t121, .int .i64 t122] 54 (0, 0)) (by (with_reducible repeat (first | refine blk_drewN ?_ _ | refine blk_drew ?_ | refine blk_alloc ?_ _)); exact BK125.out)) : gb126 ≠ gb125)); clear BK114; clear BK115; clear BK116; clear BK123; clear BK124; clear BK125; clear HB; have BK114 := n0_; have BK115 := n1_; have BK116 := n2_; have BK123 := n3_; have BK124 := n4_; have BK125 := n5_; have HB := n6_; have BK126 := n7_; have GW126 := n8_; have GE126 := n9_; have NB114_126 := n10_; have NB126_114 := n11_; have NB115_126 := n12_; have NB126_115 := n13_; have NB116_126 := n14_; have NB126_116 := n15_; have NB123_126 := n16_; have NB126_123 := n17_; have NB124_126 := n18_; have NB126_124 := n19_; have NB125_126 := n20_; have NB126_125 := n21_; clear n0_ n1_ n2_ n3_ n4_ n5_ n6_ n7_ n8_ n9_ n10_ n11_ n12_ n13_ n14_ n15_ n16_ n17_ n18_ n19_ n20_ n21_; clear hb hbox hg) | ((with_reducible refine wp_loop_rounds 9 ?_)) | ((with_reducible refine of_rounds ?_)))
        (try simp only [Act.put, List.setIfInBounds_toArray, List.set_cons_zero, List.set_cons_succ])
        go_cut [] (fun wc => ∃ (kq : Nat) (x127000_57 : Int) (x127001_57 : Int), Aside0 (span_Plus.j1 kq t117 t118 t119 t120 t121 t122 x127000_57 x127001_57 = some (r1, r2)) ∧ Aside0 (kq ≤ kj5) ∧ Aside0 (wc.heap[gb114]? = some (.cells #[.int .i64 a0_0, .int .i64 a0_1] 29 (0, 0))) ∧ Aside0 (wc.heap[gb115]? = some (.cells #[.int .i64 a1_0, .int .i64 a1_1] 29 (0, 0))) ∧ Aside0 (wc.heap[gb116]? = some (.cells #[.int .i64 0, .int .i64 0] 29 (0, 0))) ∧ Aside0 (wc.heap[gb123]? = some (.cells #[.int .i64 t117, .int .i64 t118] 54 (0, 0))) ∧ Aside0 (wc.heap[gb124]? = some (.cells #[.int .i64 t119, .int .i64 t120] 54 (0, 0))) ∧ Aside0 (wc.heap[gb125]? = some (.cells #[.int .i64 t121, .int .i64 t122] 54 (0, 0))) ∧ Aside0 (wc.heap[gb126]? = some (.cells #[.int .i64 x127000_57, .int .i64 x127001_57] 54 (0, 0))) ∧ Aside0 (Below w.heap.size w wc))
        case first =>
          have H := HC58.out
          clear HC58
          replace H := Option.bind_eq_some_iff.mp H
          obtain ⟨t127, A600, H⟩ := H
          replace H : (if t117 = t121 then (span_Plus.j1 kj5 t117 t118 t119 t120 t121 t122 t121 0) else (if t119 = t121 then (span_Plus.j1 kj5 t117 t118 t119 t120 t121 t122 t121 0) else (span_Plus.j1 kj5 t117 t118 t119 t120 t121 t122 t127 0))) = some (r1, r2) := H
          have A60 := Aside0.mk A600
          clear A600
          by_cases c61 : t117 = t121
          · rw [if_pos c61] at H
            have c61b0 : (t117 == t121) = true := beq_iff_eq.mpr c61
            have c61b1 : (t117 != t121) = false := bne_eq_false_iff_eq.mpr c61
            clear c61
            (first | rw [c61b0] | (simp only [i64_w, i32_w]; rw [c61b0]) | skip)
            have H' := Aside0.mk H
            clear H
            try go_wp2_with (first | ((with_reducible refine wp_loop_rounds 9 ?_)) | ((with_reducible refine of_rounds ?_)))
            have n0_ := Aside0.mk (blk_drew BK114.out)
            have n1_ := Aside0.mk (blk_drew BK115.out)
            have n2_ := Aside0.mk (blk_drew BK116.out)
            have n3_ := Aside0.mk (blk_drew BK123.out)
            have n4_ := Aside0.mk (blk_drew BK124.out)
            have n5_ := Aside0.mk (blk_drew BK125.out)
            have n6_ := Aside0.mk (blk_drew BK126.out)
            have n7_ := Aside0.mk (below_drew1 HB.out)
            clear BK114
            clear BK115
            clear BK116
            clear BK123
            clear BK124
            clear BK125
            clear BK126
            clear HB
            have BK114 := n0_
            have BK115 := n1_
            have BK116 := n2_
            have BK123 := n3_
            have BK124 := n4_
            have BK125 := n5_
            have BK126 := n6_
            have HB := n7_
            clear n0_ n1_ n2_ n3_ n4_ n5_ n6_ n7_
            refine start_ (n := 11) (S := fun w' => w'.cell? ⟨gb123, 0, none⟩ = some (.int .i64 t117) ∧ w'.cell? ⟨gb123, 1, none⟩ = some (.int .i64 t118) ∧ w'.cell? ⟨gb124, 0, none⟩ = some (.int .i64 t119) ∧ w'.cell? ⟨gb124, 1, none⟩ = some (.int .i64 t120)) (ds := []) #[false, false, false, false, false, false, false, false, false, false, false] (by kernel_rfl) rfl rfl ⟨(blk_cell BK123.out 0).trans rfl, (blk_cell BK123.out 1).trans rfl, (blk_cell BK124.out 0).trans rfl, (blk_cell BK124.out 1).trans rfl⟩ (fun hHeld => ?_); refine with_tabW span_Plus.tab8 span_Plus.bits8 (fun HT_ HW_ => ?_)
            generalize w59.drew = w62 at BK114 BK115 BK116 BK123 BK124 BK125 BK126 HB hHeld ⊢
            refine pure_ (i := 0) (N := some 27) (v := ?_) (a' := ?_) #[true, false, false, false, false, false, false, false, false, false, false] rfl rfl (any_of HT_.out (by kernel_rfl)) (fun _ _ _ h => h) (Or.inl ⟨by rfl, ?_⟩) ?_ ?_
            rotate_left
            · intro w'
              go_simp
              with_reducible rfl
            rotate_left
            · simp only [Act.put, List.setIfInBounds_toArray, List.set_cons_zero, List.set_cons_succ, i64_w, i32_w]
              rfl
            refine pure_ (i := 1) (N := some 28) (v := ?_) (a' := ?_) #[true, true, false, false, false, false, false, false, false, false, false] rfl rfl (any_of HT_.out (by kernel_rfl)) (fun _ _ _ h => h) (Or.inl ⟨by rfl, ?_⟩) ?_ ?_
            rotate_left
            · intro w'
              go_simp
              with_reducible rfl
            rotate_left
            · simp only [Act.put, List.setIfInBounds_toArray, List.set_cons_zero, List.set_cons_succ, i64_w, i32_w]
              rfl
            refine pure_ (i := 2) (N := some 29) (v := ?_) (a' := ?_) #[true, true, true, false, false, false, false, false, false, false, false] rfl rfl (any_of HT_.out (by kernel_rfl)) (fun _ _ _ h => h) (Or.inl ⟨by rfl, ?_⟩) ?_ ?_
            rotate_left
            · intro w'
              go_simp
              with_reducible rfl
            rotate_left
            · simp only [Act.put, List.setIfInBounds_toArray, List.set_cons_zero, List.set_cons_succ, i64_w, i32_w]
              rfl
            refine pure_ (i := 4) (N := some 31) (v := ?_) (a' := ?_) #[true, true, true, false, true, false, false, false, false, false, false] rfl rfl (any_of HT_.out (by kernel_rfl)) (fun _ _ _ h => h) (Or.inl ⟨by rfl, ?_⟩) ?_ ?_
            rotate_left
            · intro w'
              go_simp
              with_reducible rfl
            rotate_left
            · simp only [Act.put, List.setIfInBounds_toArray, List.set_cons_zero, List.set_cons_succ, i64_w, i32_w]
              rfl
            refine pure_ (i := 5) (N := some 32) (v := ?_) (a' := ?_) #[true, true, true, false, true, true, false, false, false, false, false] rfl rfl (any_of HT_.out (by kernel_rfl)) (fun _ _ _ h => h) (Or.inl ⟨by rfl, ?_⟩) ?_ ?_
            rotate_left
            · intro w'
              go_simp
              with_reducible rfl
            rotate_left
            · simp only [Act.put, List.setIfInBounds_toArray, List.set_cons_zero, List.set_cons_succ, i64_w, i32_w]
              rfl
            refine take_ (i := 3) (N := some 30) (v := ?_) (a' := ?_) #[true, true, true, true, true, true, false, false, false, false, false] rfl rfl (take_ofW HT_.out HW_.out (by kernel_rfl)) (fun _ _ _ h => h) (Or.inl ⟨by rfl, ?_⟩) hHeld ?_ ?_
            rotate_left
            · rintro w' ⟨s0, s1, s2, s3⟩
              go_simp
              with_reducible rfl
            rotate_left
            · simp only [Act.put, List.setIfInBounds_toArray, List.set_cons_zero, List.set_cons_succ, i64_w, i32_w]
              rfl
            refine take_ (i := 6) (N := some 33) (v := ?_) (a' := ?_) #[true, true, true, true, true, true, true, false, false, false, false] rfl rfl (take_ofW HT_.out HW_.out (by kernel_rfl)) (fun _ _ _ h => h) (Or.inl ⟨by rfl, ?_⟩) hHeld ?_ ?_
            rotate_left
            · rintro w' ⟨s0, s1, s2, s3⟩
              go_simp
              with_reducible rfl
            rotate_left
            · simp only [Act.put, List.setIfInBounds_toArray, List.set_cons_zero, List.set_cons_succ, i64_w, i32_w]
              rfl
            refine pure_ (i := 7) (N := some 34) (v := ?_) (a' := ?_) #[true, true, true, true, true, true, true, true, false, false, false] rfl rfl (any_of HT_.out (by kernel_rfl)) (fun _ _ _ h => h) (Or.inl ⟨by rfl, ?_⟩) ?_ ?_
            rotate_left
            · intro w'
              go_simp
              with_reducible rfl
            rotate_left
            · simp only [Act.put, List.setIfInBounds_toArray, List.set_cons_zero, List.set_cons_succ, i64_w, i32_w]
              rfl
            refine one_ (i := 8) (N := some 35) #[true, true, true, true, true, true, true, true, true, false, false] rfl rfl (one_of HT_.out (by kernel_rfl)) (by decide) (fun K hK => ?_)
            refine goes_ Try.func27 (by kernel_rfl) rfl #[.int .i64 (wrap64 (t117 + t119))] (by rfl) rfl rfl (by (try simp only [List.map_toArray, List.map_cons, List.map_nil]); first | done | rfl | (simp only [List.length_drop, List.length_take]; rfl)) ?_
            with_reducible refine (span_Clip.calls (wrap64 (t117 + t119)) t127 _ A60.out).mono ?_
            rintro e w63 ⟨rfl, hb⟩
            refine ⟨_, rfl, ?_⟩
            have n0_ := Aside0.mk (blk_below (g := gb114) (o := .cells #[.int .i64 a0_0, .int .i64 a0_1] 29 (0, 0)) (by (with_reducible repeat (first | refine blk_drewN ?_ _ | refine blk_drew ?_ | refine blk_alloc ?_ _)); exact BK114.out) hb)
            have n1_ := Aside0.mk (blk_below (g := gb115) (o := .cells #[.int .i64 a1_0, .int .i64 a1_1] 29 (0, 0)) (by (with_reducible repeat (first | refine blk_drewN ?_ _ | refine blk_drew ?_ | refine blk_alloc ?_ _)); exact BK115.out) hb)
            have n2_ := Aside0.mk (blk_below (g := gb116) (o := .cells #[.int .i64 0, .int .i64 0] 29 (0, 0)) (by (with_reducible repeat (first | refine blk_drewN ?_ _ | refine blk_drew ?_ | refine blk_alloc ?_ _)); exact BK116.out) hb)
            have n3_ := Aside0.mk (blk_below (g := gb123) (o := .cells #[.int .i64 t117, .int .i64 t118] 54 (0, 0)) (by (with_reducible repeat (first | refine blk_drewN ?_ _ | refine blk_drew ?_ | refine blk_alloc ?_ _)); exact BK123.out) hb)
            have n4_ := Aside0.mk (blk_below (g := gb124) (o := .cells #[.int .i64 t119, .int .i64 t120] 54 (0, 0)) (by (with_reducible repeat (first | refine blk_drewN ?_ _ | refine blk_drew ?_ | refine blk_alloc ?_ _)); exact BK124.out) hb)
            have n5_ := Aside0.mk (blk_below (g := gb125) (o := .cells #[.int .i64 t121, .int .i64 t122] 54 (0, 0)) (by (with_reducible repeat (first | refine blk_drewN ?_ _ | refine blk_drew ?_ | refine blk_alloc ?_ _)); exact BK125.out) hb)
            have n6_ := Aside0.mk (blk_below (g := gb126) (o := .cells #[.int .i64 0, .int .i64 0] 54 (0, 0)) (by (with_reducible repeat (first | refine blk_drewN ?_ _ | refine blk_drew ?_ | refine blk_alloc ?_ _)); exact BK126.out) hb)
            have n7_ := Aside0.mk (below_step (by repeat (first | (with_reducible first | exact HB.out | apply below_alloc | apply pw_below_drewN | apply below_drew1 | refine below_set ?_ GE114.out | refine below_set ?_ GE115.out | refine below_set ?_ GE116.out | refine below_set ?_ GE123.out | refine below_set ?_ GE124.out | refine below_set ?_ GE125.out | refine below_set ?_ GE126.out) | exact HB.out)) hb)
            clear BK114
            clear BK115
            clear BK116
            clear BK123
            clear BK124
            clear BK125
            clear BK126
            clear HB
            have BK114 := n0_
            have BK115 := n1_
            have BK116 := n2_
            have BK123 := n3_
            have BK124 := n4_
            have BK125 := n5_
            have BK126 := n6_
            have HB := n7_
            clear n0_ n1_ n2_ n3_ n4_ n5_ n6_ n7_
            (try clear hb)
            (try clear hb2)
            (try clear hk)
            (try clear hi)
            refine hK.out _ _ ⟨(blk_cell BK123.out 0).trans rfl, (blk_cell BK123.out 1).trans rfl, (blk_cell BK124.out 0).trans rfl, (blk_cell BK124.out 1).trans rfl⟩ (fun hHeld => ?_)
            clear hK K
            refine norm_ (a' := ?_) ?_ ?_
            rotate_left
            · show Act.put _ (some 35) _ = _
              simp only [Act.put, List.setIfInBounds_toArray, List.set_cons_zero, List.set_cons_succ, i64_w, i32_w]
              rfl
            refine pure_ (i := 9) (N := some 36) (v := ?_) (a' := ?_) #[true, true, true, true, true, true, true, true, true, true, false] rfl rfl (any_of HT_.out (by kernel_rfl)) (fun _ _ _ h => h) (Or.inl ⟨by rfl, ?_⟩) ?_ ?_
            rotate_left
            · intro w'
              go_simp
              with_reducible rfl
            rotate_left
            · simp only [Act.put, List.setIfInBounds_toArray, List.set_cons_zero, List.set_cons_succ, i64_w, i32_w]
              rfl
            refine one_ (i := 10) (N := none) #[true, true, true, true, true, true, true, true, true, true, true] rfl rfl (one_of HT_.out (by kernel_rfl)) (by decide) (fun K hK => ?_)
            have hs64 : w63.cell? ⟨gb126, 0, none⟩ = some (.int .i64 0) := (blk_cell BK126.out 0).trans rfl
            have hfs64 := blk_frozen BK126.out 0
            have hns64_0 := NB114_126.out
            have hns64_1 := NB115_126.out
            have hns64_2 := NB116_126.out
            have hns64_3 := NB123_126.out
            have hns64_4 := NB124_126.out
            have hns64_5 := NB125_126.out
            have hms64_0 := NB126_114.out
            have hms64_1 := NB126_115.out
            have hms64_2 := NB126_116.out
            have hms64_3 := NB126_123.out
            have hms64_4 := NB126_124.out
            have hms64_5 := NB126_125.out
            refine skip_ (w1 := ?_) (by rfl) rfl ?_ ?_
            rotate_left
            · go_simp
              rfl
            refine hK.out _ _ ⟨((cell_far (p := ⟨gb126, _, none⟩) NB123_126.out _).trans (hHeld.1)), ((cell_far (p := ⟨gb126, _, none⟩) NB123_126.out _).trans (hHeld.2.1)), ((cell_far (p := ⟨gb126, _, none⟩) NB124_126.out _).trans (hHeld.2.2.1)), ((cell_far (p := ⟨gb126, _, none⟩) NB124_126.out _).trans (hHeld.2.2.2))⟩ (fun hHeld => ?_)
            clear hK K
            refine done_ (done_of HT_.out (by kernel_rfl)) ?_
            try go_wp2_with (first | ((with_reducible refine wp_loop_rounds 9 ?_)) | ((with_reducible refine of_rounds ?_)))
            have n0_ : Aside0 ((w63.setCell ⟨gb126, 0, none⟩ (.int .i64 t127)).heap[gb114]? = some (.cells #[.int .i64 a0_0, .int .i64 a0_1] 29 (0, 0))) := ⟨by (with_reducible repeat (first | refine blk_drewN ?_ _ | refine blk_drew ?_ | refine blk_alloc ?_ _)); refine blk_far ?_ NB114_126.out _; (with_reducible repeat (first | refine blk_drewN ?_ _ | refine blk_drew ?_ | refine blk_alloc ?_ _)); exact BK114.out⟩
            have n1_ : Aside0 ((w63.setCell ⟨gb126, 0, none⟩ (.int .i64 t127)).heap[gb115]? = some (.cells #[.int .i64 a1_0, .int .i64 a1_1] 29 (0, 0))) := ⟨by (with_reducible repeat (first | refine blk_drewN ?_ _ | refine blk_drew ?_ | refine blk_alloc ?_ _)); refine blk_far ?_ NB115_126.out _; (with_reducible repeat (first | refine blk_drewN ?_ _ | refine blk_drew ?_ | refine blk_alloc ?_ _)); exact BK115.out⟩
            have n2_ : Aside0 ((w63.setCell ⟨gb126, 0, none⟩ (.int .i64 t127)).heap[gb116]? = some (.cells #[.int .i64 0, .int .i64 0] 29 (0, 0))) := ⟨by (with_reducible repeat (first | refine blk_drewN ?_ _ | refine blk_drew ?_ | refine blk_alloc ?_ _)); refine blk_far ?_ NB116_126.out _; (with_reducible repeat (first | refine blk_drewN ?_ _ | refine blk_drew ?_ | refine blk_alloc ?_ _)); exact BK116.out⟩
            have n3_ : Aside0 ((w63.setCell ⟨gb126, 0, none⟩ (.int .i64 t127)).heap[gb123]? = some (.cells #[.int .i64 t117, .int .i64 t118] 54 (0, 0))) := ⟨by (with_reducible repeat (first | refine blk_drewN ?_ _ | refine blk_drew ?_ | refine blk_alloc ?_ _)); refine blk_far ?_ NB123_126.out _; (with_reducible repeat (first | refine blk_drewN ?_ _ | refine blk_drew ?_ | refine blk_alloc ?_ _)); exact BK123.out⟩
            have n4_ : Aside0 ((w63.setCell ⟨gb126, 0, none⟩ (.int .i64 t127)).heap[gb124]? = some (.cells #[.int .i64 t119, .int .i64 t120] 54 (0, 0))) := ⟨by (with_reducible repeat (first | refine blk_drewN ?_ _ | refine blk_drew ?_ | refine blk_alloc ?_ _)); refine blk_far ?_ NB124_126.out _; (with_reducible repeat (first | refine blk_drewN ?_ _ | refine blk_drew ?_ | refine blk_alloc ?_ _)); exact BK124.out⟩
            have n5_ : Aside0 ((w63.setCell ⟨gb126, 0, none⟩ (.int .i64 t127)).heap[gb125]? = some (.cells #[.int .i64 t121, .int .i64 t122] 54 (0, 0))) := ⟨by (with_reducible repeat (first | refine blk_drewN ?_ _ | refine blk_drew ?_ | refine blk_alloc ?_ _)); refine blk_far ?_ NB125_126.out _; (with_reducible repeat (first | refine blk_drewN ?_ _ | refine blk_drew ?_ | refine blk_alloc ?_ _)); exact BK125.out⟩
            have n6_ : Aside0 ((w63.setCell ⟨gb126, 0, none⟩ (.int .i64 t127)).heap[gb126]? = some (.cells #[.int .i64 t127, .int .i64 0] 54 (0, 0))) := ⟨by (with_reducible repeat (first | refine blk_drewN ?_ _ | refine blk_drew ?_ | refine blk_alloc ?_ _)); refine blk_put (cs := #[.int .i64 0, .int .i64 0]) ?_ 0 _ rfl; (with_reducible repeat (first | refine blk_drewN ?_ _ | refine blk_drew ?_ | refine blk_alloc ?_ _)); exact BK126.out⟩
            have n7_ : Aside0 (Below w.heap.size w (w63.setCell ⟨gb126, 0, none⟩ (.int .i64 t127))) := ⟨by repeat (first | (with_reducible first | exact HB.out | apply below_alloc | apply pw_below_drewN | apply below_drew1 | refine below_set ?_ GE114.out | refine below_set ?_ GE115.out | refine below_set ?_ GE116.out | refine below_set ?_ GE123.out | refine below_set ?_ GE124.out | refine below_set ?_ GE125.out | refine below_set ?_ GE126.out) | exact HB.out)⟩
            (try clear BK114)
            (try clear BK115)
            (try clear BK116)
            (try clear BK123)
            (try clear BK124)
            (try clear BK125)
            (try clear BK126)
            (try clear HB)
            generalize (w63.setCell ⟨gb126, 0, none⟩ (.int .i64 t127)) = w65 at n0_ n1_ n2_ n3_ n4_ n5_ n6_ n7_ ⊢
            have BK114 := n0_
            have BK115 := n1_
            have BK116 := n2_
            have BK123 := n3_
            have BK124 := n4_
            have BK125 := n5_
            have BK126 := n6_
            have HB := n7_
            clear n0_ n1_ n2_ n3_ n4_ n5_ n6_ n7_
            have n0_ := Aside0.mk (blk_drew BK114.out)
            have n1_ := Aside0.mk (blk_drew BK115.out)
            have n2_ := Aside0.mk (blk_drew BK116.out)
            have n3_ := Aside0.mk (blk_drew BK123.out)
            have n4_ := Aside0.mk (blk_drew BK124.out)
            have n5_ := Aside0.mk (blk_drew BK125.out)
            have n6_ := Aside0.mk (blk_drew BK126.out)
            have n7_ := Aside0.mk (below_drew1 HB.out)
            clear BK114
            clear BK115
            clear BK116
            clear BK123
            clear BK124
            clear BK125
            clear BK126
            clear HB
            have BK114 := n0_
            have BK115 := n1_
            have BK116 := n2_
            have BK123 := n3_
            have BK124 := n4_
            have BK125 := n5_
            have BK126 := n6_
            have HB := n7_
            clear n0_ n1_ n2_ n3_ n4_ n5_ n6_ n7_
            refine start_ (n := 16) (S := fun w' => w'.cell? ⟨gb123, 0, none⟩ = some (.int .i64 t117) ∧ w'.cell? ⟨gb123, 1, none⟩ = some (.int .i64 t118) ∧ w'.cell? ⟨gb125, 0, none⟩ = some (.int .i64 t121) ∧ w'.cell? ⟨gb125, 1, none⟩ = some (.int .i64 t122)) (ds := []) #[false, false, false, false, false, false, false, false, false, false, false, false, false, false, false, false] (by kernel_rfl) rfl rfl ⟨(blk_cell BK123.out 0).trans rfl, (blk_cell BK123.out 1).trans rfl, (blk_cell BK125.out 0).trans rfl, (blk_cell BK125.out 1).trans rfl⟩ (fun hHeld => ?_); refine with_tabW span_Plus.tab9 span_Plus.bits9 (fun HT_ HW_ => ?_)
            generalize w65.drew = w66 at BK114 BK115 BK116 BK123 BK124 BK125 BK126 HB hHeld ⊢
            refine pure_ (i := 0) (N := some 37) (v := ?_) (a' := ?_) #[true, false, false, false, false, false, false, false, false, false, false, false, false, false, false, false] rfl rfl (any_of HT_.out (by kernel_rfl)) (fun _ _ _ h => h) (Or.inl ⟨by rfl, ?_⟩) ?_ ?_
            rotate_left
            · intro w'
              go_simp
              with_reducible rfl
            rotate_left
            · simp only [Act.put, List.setIfInBounds_toArray, List.set_cons_zero, List.set_cons_succ, i64_w, i32_w]
              rfl
            refine pure_ (i := 1) (N := some 38) (v := ?_) (a' := ?_) #[true, true, false, false, false, false, false, false, false, false, false, false, false, false, false, false] rfl rfl (any_of HT_.out (by kernel_rfl)) (fun _ _ _ h => h) (Or.inl ⟨by rfl, ?_⟩) ?_ ?_
            rotate_left
            · intro w'
              go_simp
              with_reducible rfl
            rotate_left
            · simp only [Act.put, List.setIfInBounds_toArray, List.set_cons_zero, List.set_cons_succ, i64_w, i32_w]
              rfl
            refine pure_ (i := 3) (N := some 40) (v := ?_) (a' := ?_) #[true, true, false, true, false, false, false, false, false, false, false, false, false, false, false, false] rfl rfl (any_of HT_.out (by kernel_rfl)) (fun _ _ _ h => h) (Or.inl ⟨by rfl, ?_⟩) ?_ ?_
            rotate_left
            · intro w'
              go_simp
              with_reducible rfl
            rotate_left
            · simp only [Act.put, List.setIfInBounds_toArray, List.set_cons_zero, List.set_cons_succ, i64_w, i32_w]
              rfl
            refine pure_ (i := 4) (N := some 41) (v := ?_) (a' := ?_) #[true, true, false, true, true, false, false, false, false, false, false, false, false, false, false, false] rfl rfl (any_of HT_.out (by kernel_rfl)) (fun _ _ _ h => h) (Or.inl ⟨by rfl, ?_⟩) ?_ ?_
            rotate_left
            · intro w'
              go_simp
              with_reducible rfl
            rotate_left
            · simp only [Act.put, List.setIfInBounds_toArray, List.set_cons_zero, List.set_cons_succ, i64_w, i32_w]
              rfl
            refine take_ (i := 2) (N := some 39) (v := ?_) (a' := ?_) #[true, true, true, true, true, false, false, false, false, false, false, false, false, false, false, false] rfl rfl (take_ofW HT_.out HW_.out (by kernel_rfl)) (fun _ _ _ h => h) (Or.inl ⟨by rfl, ?_⟩) hHeld ?_ ?_
            rotate_left
            · rintro w' ⟨s0, s1, s2, s3⟩
              go_simp
              with_reducible rfl
            rotate_left
            · simp only [Act.put, List.setIfInBounds_toArray, List.set_cons_zero, List.set_cons_succ, i64_w, i32_w]
              rfl
            refine take_ (i := 5) (N := some 42) (v := ?_) (a' := ?_) #[true, true, true, true, true, true, false, false, false, false, false, false, false, false, false, false] rfl rfl (take_ofW HT_.out HW_.out (by kernel_rfl)) (fun _ _ _ h => h) (Or.inl ⟨by rfl, ?_⟩) hHeld ?_ ?_
            rotate_left
            · rintro w' ⟨s0, s1, s2, s3⟩
              go_simp
              with_reducible rfl
            rotate_left
            · simp only [Act.put, List.setIfInBounds_toArray, List.set_cons_zero, List.set_cons_succ, i64_w, i32_w]
              rfl
            refine pure_ (i := 6) (N := some 43) (v := ?_) (a' := ?_) #[true, true, true, true, true, true, true, false, false, false, false, false, false, false, false, false] rfl rfl (any_of HT_.out (by kernel_rfl)) (fun _ _ _ h => h) (Or.inl ⟨by rfl, ?_⟩) ?_ ?_
            rotate_left
            · intro w'
              go_simp
              with_reducible rfl
            rotate_left
            · simp only [Act.put, List.setIfInBounds_toArray, List.set_cons_zero, List.set_cons_succ, i64_w, i32_w]
              rfl
            refine pure_ (i := 7) (N := some 44) (v := ?_) (a' := ?_) #[true, true, true, true, true, true, true, true, false, false, false, false, false, false, false, false] rfl rfl (any_of HT_.out (by kernel_rfl)) (fun _ _ _ h => h) (Or.inl ⟨by rfl, ?_⟩) ?_ ?_
            rotate_left
            · intro w'
              go_simp
              with_reducible rfl
            rotate_left
            · simp only [Act.put, List.setIfInBounds_toArray, List.set_cons_zero, List.set_cons_succ, i64_w, i32_w]
              rfl
            refine pure_ (i := 8) (N := some 45) (v := undef) (a' := ?_) #[true, true, true, true, true, true, true, true, true, false, false, false, false, false, false, false] rfl rfl (any_of HT_.out (by kernel_rfl)) (fun _ _ _ h => h) (Or.inr ⟨by rfl, rfl⟩) ?_ ?_
            rotate_left
            · simp only [Act.put, List.setIfInBounds_toArray, List.set_cons_zero, List.set_cons_succ, i64_w, i32_w]
              rfl
            refine pure_ (i := 9) (N := some 46) (v := undef) (a' := ?_) #[true, true, true, true, true, true, true, true, true, true, false, false, false, false, false, false] rfl rfl (any_of HT_.out (by kernel_rfl)) (fun _ _ _ h => h) (Or.inr ⟨by rfl, rfl⟩) ?_ ?_
            rotate_left
            · simp only [Act.put, List.setIfInBounds_toArray, List.set_cons_zero, List.set_cons_succ, i64_w, i32_w]
              rfl
            refine pure_ (i := 10) (N := some 47) (v := undef) (a' := ?_) #[true, true, true, true, true, true, true, true, true, true, true, false, false, false, false, false] rfl rfl (any_of HT_.out (by kernel_rfl)) (fun _ _ _ h => h) (Or.inr ⟨by rfl, rfl⟩) ?_ ?_
            rotate_left
            · simp only [Act.put, List.setIfInBounds_toArray, List.set_cons_zero, List.set_cons_succ, i64_w, i32_w]
              rfl
            refine pure_ (i := 11) (N := some 48) (v := undef) (a' := ?_) #[true, true, true, true, true, true, true, true, true, true, true, true, false, false, false, false] rfl rfl (any_of HT_.out (by kernel_rfl)) (fun _ _ _ h => h) (Or.inr ⟨by rfl, rfl⟩) ?_ ?_
            rotate_left
            · simp only [Act.put, List.setIfInBounds_toArray, List.set_cons_zero, List.set_cons_succ, i64_w, i32_w]
              rfl
            refine pure_ (i := 12) (N := some 49) (v := undef) (a' := ?_) #[true, true, true, true, true, true, true, true, true, true, true, true, true, false, false, false] rfl rfl (any_of HT_.out (by kernel_rfl)) (fun _ _ _ h => h) (Or.inr ⟨by rfl, rfl⟩) ?_ ?_
            rotate_left
            · simp only [Act.put, List.setIfInBounds_toArray, List.set_cons_zero, List.set_cons_succ, i64_w, i32_w]
              rfl
            refine pure_ (i := 13) (N := some 50) (v := undef) (a' := ?_) #[true, true, true, true, true, true, true, true, true, true, true, true, true, true, false, false] rfl rfl (any_of HT_.out (by kernel_rfl)) (fun _ _ _ h => h) (Or.inr ⟨by rfl, rfl⟩) ?_ ?_
            rotate_left
            · simp only [Act.put, List.setIfInBounds_toArray, List.set_cons_zero, List.set_cons_succ, i64_w, i32_w]
              rfl
            refine pure_ (i := 14) (N := some 51) (v := undef) (a' := ?_) #[true, true, true, true, true, true, true, true, true, true, true, true, true, true, true, false] rfl rfl (any_of HT_.out (by kernel_rfl)) (fun _ _ _ h => h) (Or.inr ⟨by rfl, rfl⟩) ?_ ?_
            rotate_left
            · simp only [Act.put, List.setIfInBounds_toArray, List.set_cons_zero, List.set_cons_succ, i64_w, i32_w]
              rfl
            refine pure_ (i := 15) (N := some 52) (v := ?_) (a' := ?_) #[true, true, true, true, true, true, true, true, true, true, true, true, true, true, true, true] rfl rfl (any_of HT_.out (by kernel_rfl)) (fun _ _ _ h => h) (Or.inl ⟨by rfl, ?_⟩) ?_ ?_
            rotate_left
            · intro w'
              go_simp
              with_reducible rfl
            rotate_left
            · simp only [Act.put, List.setIfInBounds_toArray, List.set_cons_zero, List.set_cons_succ, i64_w, i32_w]
              rfl
            refine done_ (done_of HT_.out (by kernel_rfl)) ?_
            have hnb67 := NB125_114.out
            have hnc67 := NB114_125.out
            have hnb68 := NB125_115.out
            have hnc68 := NB115_125.out
            have hnb69 := NB125_116.out
            have hnc69 := NB116_125.out
            have hnb70 := NB125_123.out
            have hnc70 := NB123_125.out
            have hnb71 := NB125_124.out
            have hnc71 := NB124_125.out
            have hnb72 := NB125_126.out
            have hnc72 := NB126_125.out
            have hcz73_0 : w66.cell? ⟨gb125, 0, none⟩ = some (.int .i64 t121) := (blk_cell BK125.out 0).trans rfl
            have hcz73_1 : w66.cell? ⟨gb125, 1, none⟩ = some (.int .i64 t122) := (blk_cell BK125.out 1).trans rfl
            have hfz73_0 := blk_frozen BK125.out 0
            have hfz73_1 := blk_frozen BK125.out 1
            have hnb74 := NB126_114.out
            have hnc74 := NB114_126.out
            have hnb75 := NB126_115.out
            have hnc75 := NB115_126.out
            have hnb76 := NB126_116.out
            have hnc76 := NB116_126.out
            have hnb77 := NB126_123.out
            have hnc77 := NB123_126.out
            have hnb78 := NB126_124.out
            have hnc78 := NB124_126.out
            have hcz79_0 : w66.cell? ⟨gb126, 0, none⟩ = some (.int .i64 t127) := (blk_cell BK126.out 0).trans rfl
            have hcz79_1 : w66.cell? ⟨gb126, 1, none⟩ = some (.int .i64 0) := (blk_cell BK126.out 1).trans rfl
            have hfz79_0 := blk_frozen BK126.out 0
            have hfz79_1 := blk_frozen BK126.out 1
            try go_wp2_with (first | ((with_reducible refine wp_loop_rounds 9 ?_)) | ((with_reducible refine of_rounds ?_)))
            go_meet
            case rel => exact ⟨_, (t121), (0), H', ⟨by have := HJ5.out; first | omega | exact Nat.le_refl _⟩, ⟨by (with_reducible repeat (first | refine blk_drewN ?_ _ | refine blk_drew ?_ | refine blk_alloc ?_ _)); refine blk_far ?_ NB114_126.out _; (with_reducible repeat (first | refine blk_drewN ?_ _ | refine blk_drew ?_ | refine blk_alloc ?_ _)); exact BK114.out⟩, ⟨by (with_reducible repeat (first | refine blk_drewN ?_ _ | refine blk_drew ?_ | refine blk_alloc ?_ _)); refine blk_far ?_ NB115_126.out _; (with_reducible repeat (first | refine blk_drewN ?_ _ | refine blk_drew ?_ | refine blk_alloc ?_ _)); exact BK115.out⟩, ⟨by (with_reducible repeat (first | refine blk_drewN ?_ _ | refine blk_drew ?_ | refine blk_alloc ?_ _)); refine blk_far ?_ NB116_126.out _; (with_reducible repeat (first | refine blk_drewN ?_ _ | refine blk_drew ?_ | refine blk_alloc ?_ _)); exact BK116.out⟩, ⟨by (with_reducible repeat (first | refine blk_drewN ?_ _ | refine blk_drew ?_ | refine blk_alloc ?_ _)); refine blk_far ?_ NB123_126.out _; (with_reducible repeat (first | refine blk_drewN ?_ _ | refine blk_drew ?_ | refine blk_alloc ?_ _)); exact BK123.out⟩, ⟨by (with_reducible repeat (first | refine blk_drewN ?_ _ | refine blk_drew ?_ | refine blk_alloc ?_ _)); refine blk_far ?_ NB124_126.out _; (with_reducible repeat (first | refine blk_drewN ?_ _ | refine blk_drew ?_ | refine blk_alloc ?_ _)); exact BK124.out⟩, ⟨by (with_reducible repeat (first | refine blk_drewN ?_ _ | refine blk_drew ?_ | refine blk_alloc ?_ _)); refine blk_far ?_ NB125_126.out _; (with_reducible repeat (first | refine blk_drewN ?_ _ | refine blk_drew ?_ | refine blk_alloc ?_ _)); exact BK125.out⟩, ⟨by (with_reducible repeat (first | refine blk_drewN ?_ _ | refine blk_drew ?_ | refine blk_alloc ?_ _)); refine blk_put (cs := #[.int .i64 t127, .int .i64 0]) ?_ 0 _ rfl; (with_reducible repeat (first | refine blk_drewN ?_ _ | refine blk_drew ?_ | refine blk_alloc ?_ _)); exact BK126.out⟩, ⟨by repeat (first | (with_reducible first | exact HB.out | apply below_alloc | apply pw_below_drewN | apply below_drew1 | refine below_set ?_ GE114.out | refine below_set ?_ GE115.out | refine below_set ?_ GE116.out | refine below_set ?_ GE123.out | refine below_set ?_ GE124.out | refine below_set ?_ GE125.out | refine below_set ?_ GE126.out) | exact HB.out)⟩⟩
          · rw [if_neg c61] at H
            have c61b0 : (t117 == t121) = false := beq_eq_false_iff_ne.mpr c61
            have c61b1 : (t117 != t121) = true := bne_iff_ne.mpr c61
            (first | rw [c61b0] | (simp only [i64_w, i32_w]; rw [c61b0]) | skip)
            by_cases c80 : t119 = t121
            · rw [if_pos c80] at H
              have c80b0 : (t119 == t121) = true := beq_iff_eq.mpr c80
              have c80b1 : (t119 != t121) = false := bne_eq_false_iff_eq.mpr c80
              clear c80
              have H' := Aside0.mk H
              clear H
              try go_wp2_with (first | ((with_reducible refine wp_loop_rounds 9 ?_)) | ((with_reducible refine of_rounds ?_)))
              have n0_ := Aside0.mk (blk_drew BK114.out)
              have n1_ := Aside0.mk (blk_drew BK115.out)
              have n2_ := Aside0.mk (blk_drew BK116.out)
              have n3_ := Aside0.mk (blk_drew BK123.out)
              have n4_ := Aside0.mk (blk_drew BK124.out)
              have n5_ := Aside0.mk (blk_drew BK125.out)
              have n6_ := Aside0.mk (blk_drew BK126.out)
              have n7_ := Aside0.mk (below_drew1 HB.out)
              clear BK114
              clear BK115
              clear BK116
              clear BK123
              clear BK124
              clear BK125
              clear BK126
              clear HB
              have BK114 := n0_
              have BK115 := n1_
              have BK116 := n2_
              have BK123 := n3_
              have BK124 := n4_
              have BK125 := n5_
              have BK126 := n6_
              have HB := n7_
              clear n0_ n1_ n2_ n3_ n4_ n5_ n6_ n7_
              refine start_ (n := 11) (S := fun w' => w'.cell? ⟨gb123, 0, none⟩ = some (.int .i64 t117) ∧ w'.cell? ⟨gb123, 1, none⟩ = some (.int .i64 t118) ∧ w'.cell? ⟨gb124, 0, none⟩ = some (.int .i64 t119) ∧ w'.cell? ⟨gb124, 1, none⟩ = some (.int .i64 t120)) (ds := []) #[false, false, false, false, false, false, false, false, false, false, false] (by kernel_rfl) rfl rfl ⟨(blk_cell BK123.out 0).trans rfl, (blk_cell BK123.out 1).trans rfl, (blk_cell BK124.out 0).trans rfl, (blk_cell BK124.out 1).trans rfl⟩ (fun hHeld => ?_); refine with_tabW span_Plus.tab8 span_Plus.bits8 (fun HT_ HW_ => ?_)
              generalize w59.drew = w81 at BK114 BK115 BK116 BK123 BK124 BK125 BK126 HB hHeld ⊢
              refine pure_ (i := 0) (N := some 27) (v := ?_) (a' := ?_) #[true, false, false, false, false, false, false, false, false, false, false] rfl rfl (any_of HT_.out (by kernel_rfl)) (fun _ _ _ h => h) (Or.inl ⟨by rfl, ?_⟩) ?_ ?_
              rotate_left
              · intro w'
                go_simp
                with_reducible rfl
              rotate_left
              · simp only [Act.put, List.setIfInBounds_toArray, List.set_cons_zero, List.set_cons_succ, i64_w, i32_w]
                rfl
              refine pure_ (i := 1) (N := some 28) (v := ?_) (a' := ?_) #[true, true, false, false, false, false, false, false, false, false, false] rfl rfl (any_of HT_.out (by kernel_rfl)) (fun _ _ _ h => h) (Or.inl ⟨by rfl, ?_⟩) ?_ ?_
              rotate_left
              · intro w'
                go_simp
                with_reducible rfl
              rotate_left
              · simp only [Act.put, List.setIfInBounds_toArray, List.set_cons_zero, List.set_cons_succ, i64_w, i32_w]
                rfl
              refine pure_ (i := 2) (N := some 29) (v := ?_) (a' := ?_) #[true, true, true, false, false, false, false, false, false, false, false] rfl rfl (any_of HT_.out (by kernel_rfl)) (fun _ _ _ h => h) (Or.inl ⟨by rfl, ?_⟩) ?_ ?_
              rotate_left
              · intro w'
                go_simp
                with_reducible rfl
              rotate_left
              · simp only [Act.put, List.setIfInBounds_toArray, List.set_cons_zero, List.set_cons_succ, i64_w, i32_w]
                rfl
              refine pure_ (i := 4) (N := some 31) (v := ?_) (a' := ?_) #[true, true, true, false, true, false, false, false, false, false, false] rfl rfl (any_of HT_.out (by kernel_rfl)) (fun _ _ _ h => h) (Or.inl ⟨by rfl, ?_⟩) ?_ ?_
              rotate_left
              · intro w'
                go_simp
                with_reducible rfl
              rotate_left
              · simp only [Act.put, List.setIfInBounds_toArray, List.set_cons_zero, List.set_cons_succ, i64_w, i32_w]
                rfl
              refine pure_ (i := 5) (N := some 32) (v := ?_) (a' := ?_) #[true, true, true, false, true, true, false, false, false, false, false] rfl rfl (any_of HT_.out (by kernel_rfl)) (fun _ _ _ h => h) (Or.inl ⟨by rfl, ?_⟩) ?_ ?_
              rotate_left
              · intro w'
                go_simp
                with_reducible rfl
              rotate_left
              · simp only [Act.put, List.setIfInBounds_toArray, List.set_cons_zero, List.set_cons_succ, i64_w, i32_w]
                rfl
              refine take_ (i := 3) (N := some 30) (v := ?_) (a' := ?_) #[true, true, true, true, true, true, false, false, false, false, false] rfl rfl (take_ofW HT_.out HW_.out (by kernel_rfl)) (fun _ _ _ h => h) (Or.inl ⟨by rfl, ?_⟩) hHeld ?_ ?_
              rotate_left
              · rintro w' ⟨s0, s1, s2, s3⟩
                go_simp
                with_reducible rfl
              rotate_left
              · simp only [Act.put, List.setIfInBounds_toArray, List.set_cons_zero, List.set_cons_succ, i64_w, i32_w]
                rfl
              refine take_ (i := 6) (N := some 33) (v := ?_) (a' := ?_) #[true, true, true, true, true, true, true, false, false, false, false] rfl rfl (take_ofW HT_.out HW_.out (by kernel_rfl)) (fun _ _ _ h => h) (Or.inl ⟨by rfl, ?_⟩) hHeld ?_ ?_
              rotate_left
              · rintro w' ⟨s0, s1, s2, s3⟩
                go_simp
                with_reducible rfl
              rotate_left
              · simp only [Act.put, List.setIfInBounds_toArray, List.set_cons_zero, List.set_cons_succ, i64_w, i32_w]
                rfl
              refine pure_ (i := 7) (N := some 34) (v := ?_) (a' := ?_) #[true, true, true, true, true, true, true, true, false, false, false] rfl rfl (any_of HT_.out (by kernel_rfl)) (fun _ _ _ h => h) (Or.inl ⟨by rfl, ?_⟩) ?_ ?_
              rotate_left
              · intro w'
                go_simp
                with_reducible rfl
              rotate_left
              · simp only [Act.put, List.setIfInBounds_toArray, List.set_cons_zero, List.set_cons_succ, i64_w, i32_w]
                rfl
              refine one_ (i := 8) (N := some 35) #[true, true, true, true, true, true, true, true, true, false, false] rfl rfl (one_of HT_.out (by kernel_rfl)) (by decide) (fun K hK => ?_)
              refine goes_ Try.func27 (by kernel_rfl) rfl #[.int .i64 (wrap64 (t117 + t119))] (by rfl) rfl rfl (by (try simp only [List.map_toArray, List.map_cons, List.map_nil]); first | done | rfl | (simp only [List.length_drop, List.length_take]; rfl)) ?_
              with_reducible refine (span_Clip.calls (wrap64 (t117 + t119)) t127 _ A60.out).mono ?_
              rintro e w82 ⟨rfl, hb⟩
              refine ⟨_, rfl, ?_⟩
              have n0_ := Aside0.mk (blk_below (g := gb114) (o := .cells #[.int .i64 a0_0, .int .i64 a0_1] 29 (0, 0)) (by (with_reducible repeat (first | refine blk_drewN ?_ _ | refine blk_drew ?_ | refine blk_alloc ?_ _)); exact BK114.out) hb)
              have n1_ := Aside0.mk (blk_below (g := gb115) (o := .cells #[.int .i64 a1_0, .int .i64 a1_1] 29 (0, 0)) (by (with_reducible repeat (first | refine blk_drewN ?_ _ | refine blk_drew ?_ | refine blk_alloc ?_ _)); exact BK115.out) hb)
              have n2_ := Aside0.mk (blk_below (g := gb116) (o := .cells #[.int .i64 0, .int .i64 0] 29 (0, 0)) (by (with_reducible repeat (first | refine blk_drewN ?_ _ | refine blk_drew ?_ | refine blk_alloc ?_ _)); exact BK116.out) hb)
              have n3_ := Aside0.mk (blk_below (g := gb123) (o := .cells #[.int .i64 t117, .int .i64 t118] 54 (0, 0)) (by (with_reducible repeat (first | refine blk_drewN ?_ _ | refine blk_drew ?_ | refine blk_alloc ?_ _)); exact BK123.out) hb)
              have n4_ := Aside0.mk (blk_below (g := gb124) (o := .cells #[.int .i64 t119, .int .i64 t120] 54 (0, 0)) (by (with_reducible repeat (first | refine blk_drewN ?_ _ | refine blk_drew ?_ | refine blk_alloc ?_ _)); exact BK124.out) hb)
              have n5_ := Aside0.mk (blk_below (g := gb125) (o := .cells #[.int .i64 t121, .int .i64 t122] 54 (0, 0)) (by (with_reducible repeat (first | refine blk_drewN ?_ _ | refine blk_drew ?_ | refine blk_alloc ?_ _)); exact BK125.out) hb)
              have n6_ := Aside0.mk (blk_below (g := gb126) (o := .cells #[.int .i64 0, .int .i64 0] 54 (0, 0)) (by (with_reducible repeat (first | refine blk_drewN ?_ _ | refine blk_drew ?_ | refine blk_alloc ?_ _)); exact BK126.out) hb)
              have n7_ := Aside0.mk (below_step (by repeat (first | (with_reducible first | exact HB.out | apply below_alloc | apply pw_below_drewN | apply below_drew1 | refine below_set ?_ GE114.out | refine below_set ?_ GE115.out | refine below_set ?_ GE116.out | refine below_set ?_ GE123.out | refine below_set ?_ GE124.out | refine below_set ?_ GE125.out | refine below_set ?_ GE126.out) | exact HB.out)) hb)
              clear BK114
              clear BK115
              clear BK116
              clear BK123
              clear BK124
              clear BK125
              clear BK126
              clear HB
              have BK114 := n0_
              have BK115 := n1_
              have BK116 := n2_
              have BK123 := n3_
              have BK124 := n4_
              have BK125 := n5_
              have BK126 := n6_
              have HB := n7_
              clear n0_ n1_ n2_ n3_ n4_ n5_ n6_ n7_
              (try clear hb)
              (try clear hb2)
              (try clear hk)
              (try clear hi)
              refine hK.out _ _ ⟨(blk_cell BK123.out 0).trans rfl, (blk_cell BK123.out 1).trans rfl, (blk_cell BK124.out 0).trans rfl, (blk_cell BK124.out 1).trans rfl⟩ (fun hHeld => ?_)
              clear hK K
              refine norm_ (a' := ?_) ?_ ?_
              rotate_left
              · show Act.put _ (some 35) _ = _
                simp only [Act.put, List.setIfInBounds_toArray, List.set_cons_zero, List.set_cons_succ, i64_w, i32_w]
                rfl
              refine pure_ (i := 9) (N := some 36) (v := ?_) (a' := ?_) #[true, true, true, true, true, true, true, true, true, true, false] rfl rfl (any_of HT_.out (by kernel_rfl)) (fun _ _ _ h => h) (Or.inl ⟨by rfl, ?_⟩) ?_ ?_
              rotate_left
              · intro w'
                go_simp
                with_reducible rfl
              rotate_left
              · simp only [Act.put, List.setIfInBounds_toArray, List.set_cons_zero, List.set_cons_succ, i64_w, i32_w]
                rfl
              refine one_ (i := 10) (N := none) #[true, true, true, true, true, true, true, true, true, true, true] rfl rfl (one_of HT_.out (by kernel_rfl)) (by decide) (fun K hK => ?_)
              have hs83 : w82.cell? ⟨gb126, 0, none⟩ = some (.int .i64 0) := (blk_cell BK126.out 0).trans rfl
              have hfs83 := blk_frozen BK126.out 0
              have hns83_0 := NB114_126.out
              have hns83_1 := NB115_126.out
              have hns83_2 := NB116_126.out
              have hns83_3 := NB123_126.out
              have hns83_4 := NB124_126.out
              have hns83_5 := NB125_126.out
              have hms83_0 := NB126_114.out
              have hms83_1 := NB126_115.out
              have hms83_2 := NB126_116.out
              have hms83_3 := NB126_123.out
              have hms83_4 := NB126_124.out
              have hms83_5 := NB126_125.out
              refine skip_ (w1 := ?_) (by rfl) rfl ?_ ?_
              rotate_left
              · go_simp
                rfl
              refine hK.out _ _ ⟨((cell_far (p := ⟨gb126, _, none⟩) NB123_126.out _).trans (hHeld.1)), ((cell_far (p := ⟨gb126, _, none⟩) NB123_126.out _).trans (hHeld.2.1)), ((cell_far (p := ⟨gb126, _, none⟩) NB124_126.out _).trans (hHeld.2.2.1)), ((cell_far (p := ⟨gb126, _, none⟩) NB124_126.out _).trans (hHeld.2.2.2))⟩ (fun hHeld => ?_)
              clear hK K
              refine done_ (done_of HT_.out (by kernel_rfl)) ?_
              try go_wp2_with (first | ((with_reducible refine wp_loop_rounds 9 ?_)) | ((with_reducible refine of_rounds ?_)))
              have n0_ : Aside0 ((w82.setCell ⟨gb126, 0, none⟩ (.int .i64 t127)).heap[gb114]? = some (.cells #[.int .i64 a0_0, .int .i64 a0_1] 29 (0, 0))) := ⟨by (with_reducible repeat (first | refine blk_drewN ?_ _ | refine blk_drew ?_ | refine blk_alloc ?_ _)); refine blk_far ?_ NB114_126.out _; (with_reducible repeat (first | refine blk_drewN ?_ _ | refine blk_drew ?_ | refine blk_alloc ?_ _)); exact BK114.out⟩
              have n1_ : Aside0 ((w82.setCell ⟨gb126, 0, none⟩ (.int .i64 t127)).heap[gb115]? = some (.cells #[.int .i64 a1_0, .int .i64 a1_1] 29 (0, 0))) := ⟨by (with_reducible repeat (first | refine blk_drewN ?_ _ | refine blk_drew ?_ | refine blk_alloc ?_ _)); refine blk_far ?_ NB115_126.out _; (with_reducible repeat (first | refine blk_drewN ?_ _ | refine blk_drew ?_ | refine blk_alloc ?_ _)); exact BK115.out⟩
              have n2_ : Aside0 ((w82.setCell ⟨gb126, 0, none⟩ (.int .i64 t127)).heap[gb116]? = some (.cells #[.int .i64 0, .int .i64 0] 29 (0, 0))) := ⟨by (with_reducible repeat (first | refine blk_drewN ?_ _ | refine blk_drew ?_ | refine blk_alloc ?_ _)); refine blk_far ?_ NB116_126.out _; (with_reducible repeat (first | refine blk_drewN ?_ _ | refine blk_drew ?_ | refine blk_alloc ?_ _)); exact BK116.out⟩
              have n3_ : Aside0 ((w82.setCell ⟨gb126, 0, none⟩ (.int .i64 t127)).heap[gb123]? = some (.cells #[.int .i64 t117, .int .i64 t118] 54 (0, 0))) := ⟨by (with_reducible repeat (first | refine blk_drewN ?_ _ | refine blk_drew ?_ | refine blk_alloc ?_ _)); refine blk_far ?_ NB123_126.out _; (with_reducible repeat (first | refine blk_drewN ?_ _ | refine blk_drew ?_ | refine blk_alloc ?_ _)); exact BK123.out⟩
              have n4_ : Aside0 ((w82.setCell ⟨gb126, 0, none⟩ (.int .i64 t127)).heap[gb124]? = some (.cells #[.int .i64 t119, .int .i64 t120] 54 (0, 0))) := ⟨by (with_reducible repeat (first | refine blk_drewN ?_ _ | refine blk_drew ?_ | refine blk_alloc ?_ _)); refine blk_far ?_ NB124_126.out _; (with_reducible repeat (first | refine blk_drewN ?_ _ | refine blk_drew ?_ | refine blk_alloc ?_ _)); exact BK124.out⟩
              have n5_ : Aside0 ((w82.setCell ⟨gb126, 0, none⟩ (.int .i64 t127)).heap[gb125]? = some (.cells #[.int .i64 t121, .int .i64 t122] 54 (0, 0))) := ⟨by (with_reducible repeat (first | refine blk_drewN ?_ _ | refine blk_drew ?_ | refine blk_alloc ?_ _)); refine blk_far ?_ NB125_126.out _; (with_reducible repeat (first | refine blk_drewN ?_ _ | refine blk_drew ?_ | refine blk_alloc ?_ _)); exact BK125.out⟩
              have n6_ : Aside0 ((w82.setCell ⟨gb126, 0, none⟩ (.int .i64 t127)).heap[gb126]? = some (.cells #[.int .i64 t127, .int .i64 0] 54 (0, 0))) := ⟨by (with_reducible repeat (first | refine blk_drewN ?_ _ | refine blk_drew ?_ | refine blk_alloc ?_ _)); refine blk_put (cs := #[.int .i64 0, .int .i64 0]) ?_ 0 _ rfl; (with_reducible repeat (first | refine blk_drewN ?_ _ | refine blk_drew ?_ | refine blk_alloc ?_ _)); exact BK126.out⟩
              have n7_ : Aside0 (Below w.heap.size w (w82.setCell ⟨gb126, 0, none⟩ (.int .i64 t127))) := ⟨by repeat (first | (with_reducible first | exact HB.out | apply below_alloc | apply pw_below_drewN | apply below_drew1 | refine below_set ?_ GE114.out | refine below_set ?_ GE115.out | refine below_set ?_ GE116.out | refine below_set ?_ GE123.out | refine below_set ?_ GE124.out | refine below_set ?_ GE125.out | refine below_set ?_ GE126.out) | exact HB.out)⟩
              (try clear BK114)
              (try clear BK115)
              (try clear BK116)
              (try clear BK123)
              (try clear BK124)
              (try clear BK125)
              (try clear BK126)
              (try clear HB)
              generalize (w82.setCell ⟨gb126, 0, none⟩ (.int .i64 t127)) = w84 at n0_ n1_ n2_ n3_ n4_ n5_ n6_ n7_ ⊢
              have BK114 := n0_
              have BK115 := n1_
              have BK116 := n2_
              have BK123 := n3_
              have BK124 := n4_
              have BK125 := n5_
              have BK126 := n6_
              have HB := n7_
              clear n0_ n1_ n2_ n3_ n4_ n5_ n6_ n7_
              have n0_ := Aside0.mk (blk_drew BK114.out)
              have n1_ := Aside0.mk (blk_drew BK115.out)
              have n2_ := Aside0.mk (blk_drew BK116.out)
              have n3_ := Aside0.mk (blk_drew BK123.out)
              have n4_ := Aside0.mk (blk_drew BK124.out)
              have n5_ := Aside0.mk (blk_drew BK125.out)
              have n6_ := Aside0.mk (blk_drew BK126.out)
              have n7_ := Aside0.mk (below_drew1 HB.out)
              clear BK114
              clear BK115
              clear BK116
              clear BK123
              clear BK124
              clear BK125
              clear BK126
              clear HB
              have BK114 := n0_
              have BK115 := n1_
              have BK116 := n2_
              have BK123 := n3_
              have BK124 := n4_
              have BK125 := n5_
              have BK126 := n6_
              have HB := n7_
              clear n0_ n1_ n2_ n3_ n4_ n5_ n6_ n7_
              refine start_ (n := 16) (S := fun w' => w'.cell? ⟨gb123, 0, none⟩ = some (.int .i64 t117) ∧ w'.cell? ⟨gb123, 1, none⟩ = some (.int .i64 t118) ∧ w'.cell? ⟨gb125, 0, none⟩ = some (.int .i64 t121) ∧ w'.cell? ⟨gb125, 1, none⟩ = some (.int .i64 t122) ∧ w'.cell? ⟨gb124, 0, none⟩ = some (.int .i64 t119) ∧ w'.cell? ⟨gb124, 1, none⟩ = some (.int .i64 t120)) (ds := []) #[false, false, false, false, false, false, false, false, false, false, false, false, false, false, false, false] (by kernel_rfl) rfl rfl ⟨(blk_cell BK123.out 0).trans rfl, (blk_cell BK123.out 1).trans rfl, (blk_cell BK125.out 0).trans rfl, (blk_cell BK125.out 1).trans rfl, (blk_cell BK124.out 0).trans rfl, (blk_cell BK124.out 1).trans rfl⟩ (fun hHeld => ?_); refine with_tabW span_Plus.tab9 span_Plus.bits9 (fun HT_ HW_ => ?_)
              generalize w84.drew = w85 at BK114 BK115 BK116 BK123 BK124 BK125 BK126 HB hHeld ⊢
              refine pure_ (i := 0) (N := some 37) (v := ?_) (a' := ?_) #[true, false, false, false, false, false, false, false, false, false, false, false, false, false, false, false] rfl rfl (any_of HT_.out (by kernel_rfl)) (fun _ _ _ h => h) (Or.inl ⟨by rfl, ?_⟩) ?_ ?_
              rotate_left
              · intro w'
                go_simp
                with_reducible rfl
              rotate_left
              · simp only [Act.put, List.setIfInBounds_toArray, List.set_cons_zero, List.set_cons_succ, i64_w, i32_w]
                rfl
              refine pure_ (i := 1) (N := some 38) (v := ?_) (a' := ?_) #[true, true, false, false, false, false, false, false, false, false, false, false, false, false, false, false] rfl rfl (any_of HT_.out (by kernel_rfl)) (fun _ _ _ h => h) (Or.inl ⟨by rfl, ?_⟩) ?_ ?_
              rotate_left
              · intro w'
                go_simp
                with_reducible rfl
              rotate_left
              · simp only [Act.put, List.setIfInBounds_toArray, List.set_cons_zero, List.set_cons_succ, i64_w, i32_w]
                rfl
              refine pure_ (i := 3) (N := some 40) (v := ?_) (a' := ?_) #[true, true, false, true, false, false, false, false, false, false, false, false, false, false, false, false] rfl rfl (any_of HT_.out (by kernel_rfl)) (fun _ _ _ h => h) (Or.inl ⟨by rfl, ?_⟩) ?_ ?_
              rotate_left
              · intro w'
                go_simp
                with_reducible rfl
              rotate_left
              · simp only [Act.put, List.setIfInBounds_toArray, List.set_cons_zero, List.set_cons_succ, i64_w, i32_w]
                rfl
              refine pure_ (i := 4) (N := some 41) (v := ?_) (a' := ?_) #[true, true, false, true, true, false, false, false, false, false, false, false, false, false, false, false] rfl rfl (any_of HT_.out (by kernel_rfl)) (fun _ _ _ h => h) (Or.inl ⟨by rfl, ?_⟩) ?_ ?_
              rotate_left
              · intro w'
                go_simp
                with_reducible rfl
              rotate_left
              · simp only [Act.put, List.setIfInBounds_toArray, List.set_cons_zero, List.set_cons_succ, i64_w, i32_w]
                rfl
              refine take_ (i := 2) (N := some 39) (v := ?_) (a' := ?_) #[true, true, true, true, true, false, false, false, false, false, false, false, false, false, false, false] rfl rfl (take_ofW HT_.out HW_.out (by kernel_rfl)) (fun _ _ _ h => h) (Or.inl ⟨by rfl, ?_⟩) hHeld ?_ ?_
              rotate_left
              · rintro w' ⟨s0, s1, s2, s3, s4, s5⟩
                go_simp
                with_reducible rfl
              rotate_left
              · simp only [Act.put, List.setIfInBounds_toArray, List.set_cons_zero, List.set_cons_succ, i64_w, i32_w]
                rfl
              refine take_ (i := 5) (N := some 42) (v := ?_) (a' := ?_) #[true, true, true, true, true, true, false, false, false, false, false, false, false, false, false, false] rfl rfl (take_ofW HT_.out HW_.out (by kernel_rfl)) (fun _ _ _ h => h) (Or.inl ⟨by rfl, ?_⟩) hHeld ?_ ?_
              rotate_left
              · rintro w' ⟨s0, s1, s2, s3, s4, s5⟩
                go_simp
                with_reducible rfl
              rotate_left
              · simp only [Act.put, List.setIfInBounds_toArray, List.set_cons_zero, List.set_cons_succ, i64_w, i32_w]
                rfl
              refine pure_ (i := 6) (N := some 43) (v := ?_) (a' := ?_) #[true, true, true, true, true, true, true, false, false, false, false, false, false, false, false, false] rfl rfl (any_of HT_.out (by kernel_rfl)) (fun _ _ _ h => h) (Or.inl ⟨by rfl, ?_⟩) ?_ ?_
              rotate_left
              · intro w'
                go_simp
                with_reducible rfl
              rotate_left
              · simp only [Act.put, List.setIfInBounds_toArray, List.set_cons_zero, List.set_cons_succ, i64_w, i32_w]
                rfl
              refine pure_ (i := 7) (N := some 44) (v := ?_) (a' := ?_) #[true, true, true, true, true, true, true, true, false, false, false, false, false, false, false, false] rfl rfl (any_of HT_.out (by kernel_rfl)) (fun _ _ _ h => h) (Or.inl ⟨by rfl, ?_⟩) ?_ ?_
              rotate_left
              · intro w'
                go_simp
                with_reducible rfl
              rotate_left
              · simp only [Act.put, List.setIfInBounds_toArray, List.set_cons_zero, List.set_cons_succ, i64_w, i32_w]
                rfl
              refine pure_ (i := 8) (N := some 45) (v := ?_) (a' := ?_) #[true, true, true, true, true, true, true, true, true, false, false, false, false, false, false, false] rfl rfl (any_of HT_.out (by kernel_rfl)) (fun _ _ _ h => h) (Or.inl ⟨by rfl, ?_⟩) ?_ ?_
              rotate_left
              · intro w'
                go_simp
                with_reducible rfl
              rotate_left
              · simp only [Act.put, List.setIfInBounds_toArray, List.set_cons_zero, List.set_cons_succ, i64_w, i32_w]
                rfl
              refine pure_ (i := 9) (N := some 46) (v := ?_) (a' := ?_) #[true, true, true, true, true, true, true, true, true, true, false, false, false, false, false, false] rfl rfl (any_of HT_.out (by kernel_rfl)) (fun _ _ _ h => h) (Or.inl ⟨by rfl, ?_⟩) ?_ ?_
              rotate_left
              · intro w'
                go_simp
                with_reducible rfl
              rotate_left
              · simp only [Act.put, List.setIfInBounds_toArray, List.set_cons_zero, List.set_cons_succ, i64_w, i32_w]
                rfl
              refine pure_ (i := 11) (N := some 48) (v := ?_) (a' := ?_) #[true, true, true, true, true, true, true, true, true, true, false, true, false, false, false, false] rfl rfl (any_of HT_.out (by kernel_rfl)) (fun _ _ _ h => h) (Or.inl ⟨by rfl, ?_⟩) ?_ ?_
              rotate_left
              · intro w'
                go_simp
                with_reducible rfl
              rotate_left
              · simp only [Act.put, List.setIfInBounds_toArray, List.set_cons_zero, List.set_cons_succ, i64_w, i32_w]
                rfl
              refine pure_ (i := 12) (N := some 49) (v := ?_) (a' := ?_) #[true, true, true, true, true, true, true, true, true, true, false, true, true, false, false, false] rfl rfl (any_of HT_.out (by kernel_rfl)) (fun _ _ _ h => h) (Or.inl ⟨by rfl, ?_⟩) ?_ ?_
              rotate_left
              · intro w'
                go_simp
                with_reducible rfl
              rotate_left
              · simp only [Act.put, List.setIfInBounds_toArray, List.set_cons_zero, List.set_cons_succ, i64_w, i32_w]
                rfl
              refine take_ (i := 10) (N := some 47) (v := ?_) (a' := ?_) #[true, true, true, true, true, true, true, true, true, true, true, true, true, false, false, false] rfl rfl (take_ofW HT_.out HW_.out (by kernel_rfl)) (fun _ _ _ h => h) (Or.inl ⟨by rfl, ?_⟩) hHeld ?_ ?_
              rotate_left
              · rintro w' ⟨s0, s1, s2, s3, s4, s5⟩
                go_simp
                with_reducible rfl
              rotate_left
              · simp only [Act.put, List.setIfInBounds_toArray, List.set_cons_zero, List.set_cons_succ, i64_w, i32_w]
                rfl
              refine take_ (i := 13) (N := some 50) (v := ?_) (a' := ?_) #[true, true, true, true, true, true, true, true, true, true, true, true, true, true, false, false] rfl rfl (take_ofW HT_.out HW_.out (by kernel_rfl)) (fun _ _ _ h => h) (Or.inl ⟨by rfl, ?_⟩) hHeld ?_ ?_
              rotate_left
              · rintro w' ⟨s0, s1, s2, s3, s4, s5⟩
                go_simp
                with_reducible rfl
              rotate_left
              · simp only [Act.put, List.setIfInBounds_toArray, List.set_cons_zero, List.set_cons_succ, i64_w, i32_w]
                rfl
              refine pure_ (i := 14) (N := some 51) (v := ?_) (a' := ?_) #[true, true, true, true, true, true, true, true, true, true, true, true, true, true, true, false] rfl rfl (any_of HT_.out (by kernel_rfl)) (fun _ _ _ h => h) (Or.inl ⟨by rfl, ?_⟩) ?_ ?_
              rotate_left
              · intro w'
                go_simp
                with_reducible rfl
              rotate_left
              · simp only [Act.put, List.setIfInBounds_toArray, List.set_cons_zero, List.set_cons_succ, i64_w, i32_w]
                rfl
              refine pure_ (i := 15) (N := some 52) (v := ?_) (a' := ?_) #[true, true, true, true, true, true, true, true, true, true, true, true, true, true, true, true] rfl rfl (any_of HT_.out (by kernel_rfl)) (fun _ _ _ h => h) (Or.inl ⟨by rfl, ?_⟩) ?_ ?_
              rotate_left
              · intro w'
                go_simp
                with_reducible rfl
              rotate_left
              · simp only [Act.put, List.setIfInBounds_toArray, List.set_cons_zero, List.set_cons_succ, i64_w, i32_w]
                rfl
              refine done_ (done_of HT_.out (by kernel_rfl)) ?_
              have hnb86 := NB125_114.out
              have hnc86 := NB114_125.out
              have hnb87 := NB125_115.out
              have hnc87 := NB115_125.out
              have hnb88 := NB125_116.out
              have hnc88 := NB116_125.out
              have hnb89 := NB125_123.out
              have hnc89 := NB123_125.out
              have hnb90 := NB125_124.out
              have hnc90 := NB124_125.out
              have hnb91 := NB125_126.out
              have hnc91 := NB126_125.out
              have hcz92_0 : w85.cell? ⟨gb125, 0, none⟩ = some (.int .i64 t121) := (blk_cell BK125.out 0).trans rfl
              have hcz92_1 : w85.cell? ⟨gb125, 1, none⟩ = some (.int .i64 t122) := (blk_cell BK125.out 1).trans rfl
              have hfz92_0 := blk_frozen BK125.out 0
              have hfz92_1 := blk_frozen BK125.out 1
              have hnb93 := NB126_114.out
              have hnc93 := NB114_126.out
              have hnb94 := NB126_115.out
              have hnc94 := NB115_126.out
              have hnb95 := NB126_116.out
              have hnc95 := NB116_126.out
              have hnb96 := NB126_123.out
              have hnc96 := NB123_126.out
              have hnb97 := NB126_124.out
              have hnc97 := NB124_126.out
              have hcz98_0 : w85.cell? ⟨gb126, 0, none⟩ = some (.int .i64 t127) := (blk_cell BK126.out 0).trans rfl
              have hcz98_1 : w85.cell? ⟨gb126, 1, none⟩ = some (.int .i64 0) := (blk_cell BK126.out 1).trans rfl
              have hfz98_0 := blk_frozen BK126.out 0
              have hfz98_1 := blk_frozen BK126.out 1
              try go_wp2_with (first | ((with_reducible refine wp_loop_rounds 9 ?_)) | ((with_reducible refine of_rounds ?_)))
              go_meet
              case rel => exact ⟨_, (t121), (0), H', ⟨by have := HJ5.out; first | omega | exact Nat.le_refl _⟩, ⟨by (with_reducible repeat (first | refine blk_drewN ?_ _ | refine blk_drew ?_ | refine blk_alloc ?_ _)); refine blk_far ?_ NB114_126.out _; (with_reducible repeat (first | refine blk_drewN ?_ _ | refine blk_drew ?_ | refine blk_alloc ?_ _)); exact BK114.out⟩, ⟨by (with_reducible repeat (first | refine blk_drewN ?_ _ | refine blk_drew ?_ | refine blk_alloc ?_ _)); refine blk_far ?_ NB115_126.out _; (with_reducible repeat (first | refine blk_drewN ?_ _ | refine blk_drew ?_ | refine blk_alloc ?_ _)); exact BK115.out⟩, ⟨by (with_reducible repeat (first | refine blk_drewN ?_ _ | refine blk_drew ?_ | refine blk_alloc ?_ _)); refine blk_far ?_ NB116_126.out _; (with_reducible repeat (first | refine blk_drewN ?_ _ | refine blk_drew ?_ | refine blk_alloc ?_ _)); exact BK116.out⟩, ⟨by (with_reducible repeat (first | refine blk_drewN ?_ _ | refine blk_drew ?_ | refine blk_alloc ?_ _)); refine blk_far ?_ NB123_126.out _; (with_reducible repeat (first | refine blk_drewN ?_ _ | refine blk_drew ?_ | refine blk_alloc ?_ _)); exact BK123.out⟩, ⟨by (with_reducible repeat (first | refine blk_drewN ?_ _ | refine blk_drew ?_ | refine blk_alloc ?_ _)); refine blk_far ?_ NB124_126.out _; (with_reducible repeat (first | refine blk_drewN ?_ _ | refine blk_drew ?_ | refine blk_alloc ?_ _)); exact BK124.out⟩, ⟨by (with_reducible repeat (first | refine blk_drewN ?_ _ | refine blk_drew ?_ | refine blk_alloc ?_ _)); refine blk_far ?_ NB125_126.out _; (with_reducible repeat (first | refine blk_drewN ?_ _ | refine blk_drew ?_ | refine blk_alloc ?_ _)); exact BK125.out⟩, ⟨by (with_reducible repeat (first | refine blk_drewN ?_ _ | refine blk_drew ?_ | refine blk_alloc ?_ _)); refine blk_put (cs := #[.int .i64 t127, .int .i64 0]) ?_ 0 _ rfl; (with_reducible repeat (first | refine blk_drewN ?_ _ | refine blk_drew ?_ | refine blk_alloc ?_ _)); exact BK126.out⟩, ⟨by repeat (first | (with_reducible first | exact HB.out | apply below_alloc | apply pw_below_drewN | apply below_drew1 | refine below_set ?_ GE114.out | refine below_set ?_ GE115.out | refine below_set ?_ GE116.out | refine below_set ?_ GE123.out | refine below_set ?_ GE124.out | refine below_set ?_ GE125.out | refine below_set ?_ GE126.out) | exact HB.out)⟩⟩
            · rw [if_neg c80] at H
              have c80b0 : (t119 == t121) = false := beq_eq_false_iff_ne.mpr c80
              have c80b1 : (t119 != t121) = true := bne_iff_ne.mpr c80
              have H' := Aside0.mk H
              clear H
              try go_wp2_with (first | ((with_reducible refine wp_loop_rounds 9 ?_)) | ((with_reducible refine of_rounds ?_)))
              have n0_ := Aside0.mk (blk_drew BK114.out)
              have n1_ := Aside0.mk (blk_drew BK115.out)
              have n2_ := Aside0.mk (blk_drew BK116.out)
              have n3_ := Aside0.mk (blk_drew BK123.out)
              have n4_ := Aside0.mk (blk_drew BK124.out)
              have n5_ := Aside0.mk (blk_drew BK125.out)
              have n6_ := Aside0.mk (blk_drew BK126.out)
              have n7_ := Aside0.mk (below_drew1 HB.out)
              clear BK114
              clear BK115
              clear BK116
              clear BK123
              clear BK124
              clear BK125
              clear BK126
              clear HB
              have BK114 := n0_
              have BK115 := n1_
              have BK116 := n2_
              have BK123 := n3_
              have BK124 := n4_
              have BK125 := n5_
              have BK126 := n6_
              have HB := n7_
              clear n0_ n1_ n2_ n3_ n4_ n5_ n6_ n7_
              refine start_ (n := 11) (S := fun w' => w'.cell? ⟨gb123, 0, none⟩ = some (.int .i64 t117) ∧ w'.cell? ⟨gb123, 1, none⟩ = some (.int .i64 t118) ∧ w'.cell? ⟨gb124, 0, none⟩ = some (.int .i64 t119) ∧ w'.cell? ⟨gb124, 1, none⟩ = some (.int .i64 t120)) (ds := []) #[false, false, false, false, false, false, false, false, false, false, false] (by kernel_rfl) rfl rfl ⟨(blk_cell BK123.out 0).trans rfl, (blk_cell BK123.out 1).trans rfl, (blk_cell BK124.out 0).trans rfl, (blk_cell BK124.out 1).trans rfl⟩ (fun hHeld => ?_); refine with_tabW span_Plus.tab8 span_Plus.bits8 (fun HT_ HW_ => ?_)
              generalize w59.drew = w99 at BK114 BK115 BK116 BK123 BK124 BK125 BK126 HB hHeld ⊢
              refine pure_ (i := 0) (N := some 27) (v := ?_) (a' := ?_) #[true, false, false, false, false, false, false, false, false, false, false] rfl rfl (any_of HT_.out (by kernel_rfl)) (fun _ _ _ h => h) (Or.inl ⟨by rfl, ?_⟩) ?_ ?_
              rotate_left
              · intro w'
                go_simp
                with_reducible rfl
              rotate_left
              · simp only [Act.put, List.setIfInBounds_toArray, List.set_cons_zero, List.set_cons_succ, i64_w, i32_w]
                rfl
              refine pure_ (i := 1) (N := some 28) (v := ?_) (a' := ?_) #[true, true, false, false, false, false, false, false, false, false, false] rfl rfl (any_of HT_.out (by kernel_rfl)) (fun _ _ _ h => h) (Or.inl ⟨by rfl, ?_⟩) ?_ ?_
              rotate_left
              · intro w'
                go_simp
                with_reducible rfl
              rotate_left
              · simp only [Act.put, List.setIfInBounds_toArray, List.set_cons_zero, List.set_cons_succ, i64_w, i32_w]
                rfl
              refine pure_ (i := 2) (N := some 29) (v := ?_) (a' := ?_) #[true, true, true, false, false, false, false, false, false, false, false] rfl rfl (any_of HT_.out (by kernel_rfl)) (fun _ _ _ h => h) (Or.inl ⟨by rfl, ?_⟩) ?_ ?_
              rotate_left
              · intro w'
                go_simp
                with_reducible rfl
              rotate_left
              · simp only [Act.put, List.setIfInBounds_toArray, List.set_cons_zero, List.set_cons_succ, i64_w, i32_w]
                rfl
              refine pure_ (i := 4) (N := some 31) (v := ?_) (a' := ?_) #[true, true, true, false, true, false, false, false, false, false, false] rfl rfl (any_of HT_.out (by kernel_rfl)) (fun _ _ _ h => h) (Or.inl ⟨by rfl, ?_⟩) ?_ ?_
              rotate_left
              · intro w'
                go_simp
                with_reducible rfl
              rotate_left
              · simp only [Act.put, List.setIfInBounds_toArray, List.set_cons_zero, List.set_cons_succ, i64_w, i32_w]
                rfl
              refine pure_ (i := 5) (N := some 32) (v := ?_) (a' := ?_) #[true, true, true, false, true, true, false, false, false, false, false] rfl rfl (any_of HT_.out (by kernel_rfl)) (fun _ _ _ h => h) (Or.inl ⟨by rfl, ?_⟩) ?_ ?_
              rotate_left
              · intro w'
                go_simp
                with_reducible rfl
              rotate_left
              · simp only [Act.put, List.setIfInBounds_toArray, List.set_cons_zero, List.set_cons_succ, i64_w, i32_w]
                rfl
              refine take_ (i := 3) (N := some 30) (v := ?_) (a' := ?_) #[true, true, true, true, true, true, false, false, false, false, false] rfl rfl (take_ofW HT_.out HW_.out (by kernel_rfl)) (fun _ _ _ h => h) (Or.inl ⟨by rfl, ?_⟩) hHeld ?_ ?_
              rotate_left
              · rintro w' ⟨s0, s1, s2, s3⟩
                go_simp
                with_reducible rfl
              rotate_left
              · simp only [Act.put, List.setIfInBounds_toArray, List.set_cons_zero, List.set_cons_succ, i64_w, i32_w]
                rfl
              refine take_ (i := 6) (N := some 33) (v := ?_) (a' := ?_) #[true, true, true, true, true, true, true, false, false, false, false] rfl rfl (take_ofW HT_.out HW_.out (by kernel_rfl)) (fun _ _ _ h => h) (Or.inl ⟨by rfl, ?_⟩) hHeld ?_ ?_
              rotate_left
              · rintro w' ⟨s0, s1, s2, s3⟩
                go_simp
                with_reducible rfl
              rotate_left
              · simp only [Act.put, List.setIfInBounds_toArray, List.set_cons_zero, List.set_cons_succ, i64_w, i32_w]
                rfl
              refine pure_ (i := 7) (N := some 34) (v := ?_) (a' := ?_) #[true, true, true, true, true, true, true, true, false, false, false] rfl rfl (any_of HT_.out (by kernel_rfl)) (fun _ _ _ h => h) (Or.inl ⟨by rfl, ?_⟩) ?_ ?_
              rotate_left
              · intro w'
                go_simp
                with_reducible rfl
              rotate_left
              · simp only [Act.put, List.setIfInBounds_toArray, List.set_cons_zero, List.set_cons_succ, i64_w, i32_w]
                rfl
              refine one_ (i := 8) (N := some 35) #[true, true, true, true, true, true, true, true, true, false, false] rfl rfl (one_of HT_.out (by kernel_rfl)) (by decide) (fun K hK => ?_)
              refine goes_ Try.func27 (by kernel_rfl) rfl #[.int .i64 (wrap64 (t117 + t119))] (by rfl) rfl rfl (by (try simp only [List.map_toArray, List.map_cons, List.map_nil]); first | done | rfl | (simp only [List.length_drop, List.length_take]; rfl)) ?_
              with_reducible refine (span_Clip.calls (wrap64 (t117 + t119)) t127 _ A60.out).mono ?_
              rintro e w100 ⟨rfl, hb⟩
              refine ⟨_, rfl, ?_⟩
              have n0_ := Aside0.mk (blk_below (g := gb114) (o := .cells #[.int .i64 a0_0, .int .i64 a0_1] 29 (0, 0)) (by (with_reducible repeat (first | refine blk_drewN ?_ _ | refine blk_drew ?_ | refine blk_alloc ?_ _)); exact BK114.out) hb)
              have n1_ := Aside0.mk (blk_below (g := gb115) (o := .cells #[.int .i64 a1_0, .int .i64 a1_1] 29 (0, 0)) (by (with_reducible repeat (first | refine blk_drewN ?_ _ | refine blk_drew ?_ | refine blk_alloc ?_ _)); exact BK115.out) hb)
              have n2_ := Aside0.mk (blk_below (g := gb116) (o := .cells #[.int .i64 0, .int .i64 0] 29 (0, 0)) (by (with_reducible repeat (first | refine blk_drewN ?_ _ | refine blk_drew ?_ | refine blk_alloc ?_ _)); exact BK116.out) hb)
              have n3_ := Aside0.mk (blk_below (g := gb123) (o := .cells #[.int .i64 t117, .int .i64 t118] 54 (0, 0)) (by (with_reducible repeat (first | refine blk_drewN ?_ _ | refine blk_drew ?_ | refine blk_alloc ?_ _)); exact BK123.out) hb)
              have n4_ := Aside0.mk (blk_below (g := gb124) (o := .cells #[.int .i64 t119, .int .i64 t120] 54 (0, 0)) (by (with_reducible repeat (first | refine blk_drewN ?_ _ | refine blk_drew ?_ | refine blk_alloc ?_ _)); exact BK124.out) hb)
              have n5_ := Aside0.mk (blk_below (g := gb125) (o := .cells #[.int .i64 t121, .int .i64 t122] 54 (0, 0)) (by (with_reducible repeat (first | refine blk_drewN ?_ _ | refine blk_drew ?_ | refine blk_alloc ?_ _)); exact BK125.out) hb)
              have n6_ := Aside0.mk (blk_below (g := gb126) (o := .cells #[.int .i64 0, .int .i64 0] 54 (0, 0)) (by (with_reducible repeat (first | refine blk_drewN ?_ _ | refine blk_drew ?_ | refine blk_alloc ?_ _)); exact BK126.out) hb)
              have n7_ := Aside0.mk (below_step (by repeat (first | (with_reducible first | exact HB.out | apply below_alloc | apply pw_below_drewN | apply below_drew1 | refine below_set ?_ GE114.out | refine below_set ?_ GE115.out | refine below_set ?_ GE116.out | refine below_set ?_ GE123.out | refine below_set ?_ GE124.out | refine below_set ?_ GE125.out | refine below_set ?_ GE126.out) | exact HB.out)) hb)
              clear BK114
              clear BK115
              clear BK116
              clear BK123
              clear BK124
              clear BK125
              clear BK126
              clear HB
              have BK114 := n0_
              have BK115 := n1_
              have BK116 := n2_
              have BK123 := n3_
              have BK124 := n4_
              have BK125 := n5_
              have BK126 := n6_
              have HB := n7_
              clear n0_ n1_ n2_ n3_ n4_ n5_ n6_ n7_
              (try clear hb)
              (try clear hb2)
              (try clear hk)
              (try clear hi)
              refine hK.out _ _ ⟨(blk_cell BK123.out 0).trans rfl, (blk_cell BK123.out 1).trans rfl, (blk_cell BK124.out 0).trans rfl, (blk_cell BK124.out 1).trans rfl⟩ (fun hHeld => ?_)
              clear hK K
              refine norm_ (a' := ?_) ?_ ?_
              rotate_left
              · show Act.put _ (some 35) _ = _
                simp only [Act.put, List.setIfInBounds_toArray, List.set_cons_zero, List.set_cons_succ, i64_w, i32_w]
                rfl
              refine pure_ (i := 9) (N := some 36) (v := ?_) (a' := ?_) #[true, true, true, true, true, true, true, true, true, true, false] rfl rfl (any_of HT_.out (by kernel_rfl)) (fun _ _ _ h => h) (Or.inl ⟨by rfl, ?_⟩) ?_ ?_
              rotate_left
              · intro w'
                go_simp
                with_reducible rfl
              rotate_left
              · simp only [Act.put, List.setIfInBounds_toArray, List.set_cons_zero, List.set_cons_succ, i64_w, i32_w]
                rfl
              refine one_ (i := 10) (N := none) #[true, true, true, true, true, true, true, true, true, true, true] rfl rfl (one_of HT_.out (by kernel_rfl)) (by decide) (fun K hK => ?_)
              have hs101 : w100.cell? ⟨gb126, 0, none⟩ = some (.int .i64 0) := (blk_cell BK126.out 0).trans rfl
              have hfs101 := blk_frozen BK126.out 0
              have hns101_0 := NB114_126.out
              have hns101_1 := NB115_126.out
              have hns101_2 := NB116_126.out
              have hns101_3 := NB123_126.out
              have hns101_4 := NB124_126.out
              have hns101_5 := NB125_126.out
              have hms101_0 := NB126_114.out
              have hms101_1 := NB126_115.out
              have hms101_2 := NB126_116.out
              have hms101_3 := NB126_123.out
              have hms101_4 := NB126_124.out
              have hms101_5 := NB126_125.out
              refine skip_ (w1 := ?_) (by rfl) rfl ?_ ?_
              rotate_left
              · go_simp
                rfl
              refine hK.out _ _ ⟨((cell_far (p := ⟨gb126, _, none⟩) NB123_126.out _).trans (hHeld.1)), ((cell_far (p := ⟨gb126, _, none⟩) NB123_126.out _).trans (hHeld.2.1)), ((cell_far (p := ⟨gb126, _, none⟩) NB124_126.out _).trans (hHeld.2.2.1)), ((cell_far (p := ⟨gb126, _, none⟩) NB124_126.out _).trans (hHeld.2.2.2))⟩ (fun hHeld => ?_)
              clear hK K
              refine done_ (done_of HT_.out (by kernel_rfl)) ?_
              try go_wp2_with (first | ((with_reducible refine wp_loop_rounds 9 ?_)) | ((with_reducible refine of_rounds ?_)))
              have n0_ : Aside0 ((w100.setCell ⟨gb126, 0, none⟩ (.int .i64 t127)).heap[gb114]? = some (.cells #[.int .i64 a0_0, .int .i64 a0_1] 29 (0, 0))) := ⟨by (with_reducible repeat (first | refine blk_drewN ?_ _ | refine blk_drew ?_ | refine blk_alloc ?_ _)); refine blk_far ?_ NB114_126.out _; (with_reducible repeat (first | refine blk_drewN ?_ _ | refine blk_drew ?_ | refine blk_alloc ?_ _)); exact BK114.out⟩
              have n1_ : Aside0 ((w100.setCell ⟨gb126, 0, none⟩ (.int .i64 t127)).heap[gb115]? = some (.cells #[.int .i64 a1_0, .int .i64 a1_1] 29 (0, 0))) := ⟨by (with_reducible repeat (first | refine blk_drewN ?_ _ | refine blk_drew ?_ | refine blk_alloc ?_ _)); refine blk_far ?_ NB115_126.out _; (with_reducible repeat (first | refine blk_drewN ?_ _ | refine blk_drew ?_ | refine blk_alloc ?_ _)); exact BK115.out⟩
              have n2_ : Aside0 ((w100.setCell ⟨gb126, 0, none⟩ (.int .i64 t127)).heap[gb116]? = some (.cells #[.int .i64 0, .int .i64 0] 29 (0, 0))) := ⟨by (with_reducible repeat (first | refine blk_drewN ?_ _ | refine blk_drew ?_ | refine blk_alloc ?_ _)); refine blk_far ?_ NB116_126.out _; (with_reducible repeat (first | refine blk_drewN ?_ _ | refine blk_drew ?_ | refine blk_alloc ?_ _)); exact BK116.out⟩
              have n3_ : Aside0 ((w100.setCell ⟨gb126, 0, none⟩ (.int .i64 t127)).heap[gb123]? = some (.cells #[.int .i64 t117, .int .i64 t118] 54 (0, 0))) := ⟨by (with_reducible repeat (first | refine blk_drewN ?_ _ | refine blk_drew ?_ | refine blk_alloc ?_ _)); refine blk_far ?_ NB123_126.out _; (with_reducible repeat (first | refine blk_drewN ?_ _ | refine blk_drew ?_ | refine blk_alloc ?_ _)); exact BK123.out⟩
              have n4_ : Aside0 ((w100.setCell ⟨gb126, 0, none⟩ (.int .i64 t127)).heap[gb124]? = some (.cells #[.int .i64 t119, .int .i64 t120] 54 (0, 0))) := ⟨by (with_reducible repeat (first | refine blk_drewN ?_ _ | refine blk_drew ?_ | refine blk_alloc ?_ _)); refine blk_far ?_ NB124_126.out _; (with_reducible repeat (first | refine blk_drewN ?_ _ | refine blk_drew ?_ | refine blk_alloc ?_ _)); exact BK124.out⟩
              have n5_ : Aside0 ((w100.setCell ⟨gb126, 0, none⟩ (.int .i64 t127)).heap[gb125]? = some (.cells #[.int .i64 t121, .int .i64 t122] 54 (0, 0))) := ⟨by (with_reducible repeat (first | refine blk_drewN ?_ _ | refine blk_drew ?_ | refine blk_alloc ?_ _)); refine blk_far ?_ NB125_126.out _; (with_reducible repeat (first | refine blk_drewN ?_ _ | refine blk_drew ?_ | refine blk_alloc ?_ _)); exact BK125.out⟩
              have n6_ : Aside0 ((w100.setCell ⟨gb126, 0, none⟩ (.int .i64 t127)).heap[gb126]? = some (.cells #[.int .i64 t127, .int .i64 0] 54 (0, 0))) := ⟨by (with_reducible repeat (first | refine blk_drewN ?_ _ | refine blk_drew ?_ | refine blk_alloc ?_ _)); refine blk_put (cs := #[.int .i64 0, .int .i64 0]) ?_ 0 _ rfl; (with_reducible repeat (first | refine blk_drewN ?_ _ | refine blk_drew ?_ | refine blk_alloc ?_ _)); exact BK126.out⟩
              have n7_ : Aside0 (Below w.heap.size w (w100.setCell ⟨gb126, 0, none⟩ (.int .i64 t127))) := ⟨by repeat (first | (with_reducible first | exact HB.out | apply below_alloc | apply pw_below_drewN | apply below_drew1 | refine below_set ?_ GE114.out | refine below_set ?_ GE115.out | refine below_set ?_ GE116.out | refine below_set ?_ GE123.out | refine below_set ?_ GE124.out | refine below_set ?_ GE125.out | refine below_set ?_ GE126.out) | exact HB.out)⟩
              (try clear BK114)
              (try clear BK115)
              (try clear BK116)
              (try clear BK123)
              (try clear BK124)
              (try clear BK125)
              (try clear BK126)
              (try clear HB)
              generalize (w100.setCell ⟨gb126, 0, none⟩ (.int .i64 t127)) = w102 at n0_ n1_ n2_ n3_ n4_ n5_ n6_ n7_ ⊢
              have BK114 := n0_
              have BK115 := n1_
              have BK116 := n2_
              have BK123 := n3_
              have BK124 := n4_
              have BK125 := n5_
              have BK126 := n6_
              have HB := n7_
              clear n0_ n1_ n2_ n3_ n4_ n5_ n6_ n7_
              have n0_ := Aside0.mk (blk_drew BK114.out)
              have n1_ := Aside0.mk (blk_drew BK115.out)
              have n2_ := Aside0.mk (blk_drew BK116.out)
              have n3_ := Aside0.mk (blk_drew BK123.out)
              have n4_ := Aside0.mk (blk_drew BK124.out)
              have n5_ := Aside0.mk (blk_drew BK125.out)
              have n6_ := Aside0.mk (blk_drew BK126.out)
              have n7_ := Aside0.mk (below_drew1 HB.out)
              clear BK114
              clear BK115
              clear BK116
              clear BK123
              clear BK124
              clear BK125
              clear BK126
              clear HB
              have BK114 := n0_
              have BK115 := n1_
              have BK116 := n2_
              have BK123 := n3_
              have BK124 := n4_
              have BK125 := n5_
              have BK126 := n6_
              have HB := n7_
              clear n0_ n1_ n2_ n3_ n4_ n5_ n6_ n7_
              refine start_ (n := 16) (S := fun w' => w'.cell? ⟨gb123, 0, none⟩ = some (.int .i64 t117) ∧ w'.cell? ⟨gb123, 1, none⟩ = some (.int .i64 t118) ∧ w'.cell? ⟨gb125, 0, none⟩ = some (.int .i64 t121) ∧ w'.cell? ⟨gb125, 1, none⟩ = some (.int .i64 t122) ∧ w'.cell? ⟨gb124, 0, none⟩ = some (.int .i64 t119) ∧ w'.cell? ⟨gb124, 1, none⟩ = some (.int .i64 t120)) (ds := []) #[false, false, false, false, false, false, false, false, false, false, false, false, false, false, false, false] (by kernel_rfl) rfl rfl ⟨(blk_cell BK123.out 0).trans rfl, (blk_cell BK123.out 1).trans rfl, (blk_cell BK125.out 0).trans rfl, (blk_cell BK125.out 1).trans rfl, (blk_cell BK124.out 0).trans rfl, (blk_cell BK124.out 1).trans rfl⟩ (fun hHeld => ?_); refine with_tabW span_Plus.tab9 span_Plus.bits9 (fun HT_ HW_ => ?_)
              generalize w102.drew = w103 at BK114 BK115 BK116 BK123 BK124 BK125 BK126 HB hHeld ⊢
              refine pure_ (i := 0) (N := some 37) (v := ?_) (a' := ?_) #[true, false, false, false, false, false, false, false, false, false, false, false, false, false, false, false] rfl rfl (any_of HT_.out (by kernel_rfl)) (fun _ _ _ h => h) (Or.inl ⟨by rfl, ?_⟩) ?_ ?_
              rotate_left
              · intro w'
                go_simp
                with_reducible rfl
              rotate_left
              · simp only [Act.put, List.setIfInBounds_toArray, List.set_cons_zero, List.set_cons_succ, i64_w, i32_w]
                rfl
              refine pure_ (i := 1) (N := some 38) (v := ?_) (a' := ?_) #[true, true, false, false, false, false, false, false, false, false, false, false, false, false, false, false] rfl rfl (any_of HT_.out (by kernel_rfl)) (fun _ _ _ h => h) (Or.inl ⟨by rfl, ?_⟩) ?_ ?_
              rotate_left
              · intro w'
                go_simp
                with_reducible rfl
              rotate_left
              · simp only [Act.put, List.setIfInBounds_toArray, List.set_cons_zero, List.set_cons_succ, i64_w, i32_w]
                rfl
              refine pure_ (i := 3) (N := some 40) (v := ?_) (a' := ?_) #[true, true, false, true, false, false, false, false, false, false, false, false, false, false, false, false] rfl rfl (any_of HT_.out (by kernel_rfl)) (fun _ _ _ h => h) (Or.inl ⟨by rfl, ?_⟩) ?_ ?_
              rotate_left
              · intro w'
                go_simp
                with_reducible rfl
              rotate_left
              · simp only [Act.put, List.setIfInBounds_toArray, List.set_cons_zero, List.set_cons_succ, i64_w, i32_w]
                rfl
              refine pure_ (i := 4) (N := some 41) (v := ?_) (a' := ?_) #[true, true, false, true, true, false, false, false, false, false, false, false, false, false, false, false] rfl rfl (any_of HT_.out (by kernel_rfl)) (fun _ _ _ h => h) (Or.inl ⟨by rfl, ?_⟩) ?_ ?_
              rotate_left
              · intro w'
                go_simp
                with_reducible rfl
              rotate_left
              · simp only [Act.put, List.setIfInBounds_toArray, List.set_cons_zero, List.set_cons_succ, i64_w, i32_w]
                rfl
              refine take_ (i := 2) (N := some 39) (v := ?_) (a' := ?_) #[true, true, true, true, true, false, false, false, false, false, false, false, false, false, false, false] rfl rfl (take_ofW HT_.out HW_.out (by kernel_rfl)) (fun _ _ _ h => h) (Or.inl ⟨by rfl, ?_⟩) hHeld ?_ ?_
              rotate_left
              · rintro w' ⟨s0, s1, s2, s3, s4, s5⟩
                go_simp
                with_reducible rfl
              rotate_left
              · simp only [Act.put, List.setIfInBounds_toArray, List.set_cons_zero, List.set_cons_succ, i64_w, i32_w]
                rfl
              refine take_ (i := 5) (N := some 42) (v := ?_) (a' := ?_) #[true, true, true, true, true, true, false, false, false, false, false, false, false, false, false, false] rfl rfl (take_ofW HT_.out HW_.out (by kernel_rfl)) (fun _ _ _ h => h) (Or.inl ⟨by rfl, ?_⟩) hHeld ?_ ?_
              rotate_left
              · rintro w' ⟨s0, s1, s2, s3, s4, s5⟩
                go_simp
                with_reducible rfl
              rotate_left
              · simp only [Act.put, List.setIfInBounds_toArray, List.set_cons_zero, List.set_cons_succ, i64_w, i32_w]
                rfl
              refine pure_ (i := 6) (N := some 43) (v := ?_) (a' := ?_) #[true, true, true, true, true, true, true, false, false, false, false, false, false, false, false, false] rfl rfl (any_of HT_.out (by kernel_rfl)) (fun _ _ _ h => h) (Or.inl ⟨by rfl, ?_⟩) ?_ ?_
              rotate_left
              · intro w'
                go_simp
                with_reducible rfl
              rotate_left
              · simp only [Act.put, List.setIfInBounds_toArray, List.set_cons_zero, List.set_cons_succ, i64_w, i32_w]
                rfl
              refine pure_ (i := 7) (N := some 44) (v := ?_) (a' := ?_) #[true, true, true, true, true, true, true, true, false, false, false, false, false, false, false, false] rfl rfl (any_of HT_.out (by kernel_rfl)) (fun _ _ _ h => h) (Or.inl ⟨by rfl, ?_⟩) ?_ ?_
              rotate_left
              · intro w'
                go_simp
                with_reducible rfl
              rotate_left
              · simp only [Act.put, List.setIfInBounds_toArray, List.set_cons_zero, List.set_cons_succ, i64_w, i32_w]
                rfl
              refine pure_ (i := 8) (N := some 45) (v := ?_) (a' := ?_) #[true, true, true, true, true, true, true, true, true, false, false, false, false, false, false, false] rfl rfl (any_of HT_.out (by kernel_rfl)) (fun _ _ _ h => h) (Or.inl ⟨by rfl, ?_⟩) ?_ ?_
              rotate_left
              · intro w'
                go_simp
                with_reducible rfl
              rotate_left
              · simp only [Act.put, List.setIfInBounds_toArray, List.set_cons_zero, List.set_cons_succ, i64_w, i32_w]
                rfl
              refine pure_ (i := 9) (N := some 46) (v := ?_) (a' := ?_) #[true, true, true, true, true, true, true, true, true, true, false, false, false, false, false, false] rfl rfl (any_of HT_.out (by kernel_rfl)) (fun _ _ _ h => h) (Or.inl ⟨by rfl, ?_⟩) ?_ ?_
              rotate_left
              · intro w'
                go_simp
                with_reducible rfl
              rotate_left
              · simp only [Act.put, List.setIfInBounds_toArray, List.set_cons_zero, List.set_cons_succ, i64_w, i32_w]
                rfl
              refine pure_ (i := 11) (N := some 48) (v := ?_) (a' := ?_) #[true, true, true, true, true, true, true, true, true, true, false, true, false, false, false, false] rfl rfl (any_of HT_.out (by kernel_rfl)) (fun _ _ _ h => h) (Or.inl ⟨by rfl, ?_⟩) ?_ ?_
              rotate_left
              · intro w'
                go_simp
                with_reducible rfl
              rotate_left
              · simp only [Act.put, List.setIfInBounds_toArray, List.set_cons_zero, List.set_cons_succ, i64_w, i32_w]
                rfl
              refine pure_ (i := 12) (N := some 49) (v := ?_) (a' := ?_) #[true, true, true, true, true, true, true, true, true, true, false, true, true, false, false, false] rfl rfl (any_of HT_.out (by kernel_rfl)) (fun _ _ _ h => h) (Or.inl ⟨by rfl, ?_⟩) ?_ ?_
              rotate_left
              · intro w'
                go_simp
                with_reducible rfl
              rotate_left
              · simp only [Act.put, List.setIfInBounds_toArray, List.set_cons_zero, List.set_cons_succ, i64_w, i32_w]
                rfl
              refine take_ (i := 10) (N := some 47) (v := ?_) (a' := ?_) #[true, true, true, true, true, true, true, true, true, true, true, true, true, false, false, false] rfl rfl (take_ofW HT_.out HW_.out (by kernel_rfl)) (fun _ _ _ h => h) (Or.inl ⟨by rfl, ?_⟩) hHeld ?_ ?_
              rotate_left
              · rintro w' ⟨s0, s1, s2, s3, s4, s5⟩
                go_simp
                with_reducible rfl
              rotate_left
              · simp only [Act.put, List.setIfInBounds_toArray, List.set_cons_zero, List.set_cons_succ, i64_w, i32_w]
                rfl
              refine take_ (i := 13) (N := some 50) (v := ?_) (a' := ?_) #[true, true, true, true, true, true, true, true, true, true, true, true, true, true, false, false] rfl rfl (take_ofW HT_.out HW_.out (by kernel_rfl)) (fun _ _ _ h => h) (Or.inl ⟨by rfl, ?_⟩) hHeld ?_ ?_
              rotate_left
              · rintro w' ⟨s0, s1, s2, s3, s4, s5⟩
                go_simp
                with_reducible rfl
              rotate_left
              · simp only [Act.put, List.setIfInBounds_toArray, List.set_cons_zero, List.set_cons_succ, i64_w, i32_w]
                rfl
              refine pure_ (i := 14) (N := some 51) (v := ?_) (a' := ?_) #[true, true, true, true, true, true, true, true, true, true, true, true, true, true, true, false] rfl rfl (any_of HT_.out (by kernel_rfl)) (fun _ _ _ h => h) (Or.inl ⟨by rfl, ?_⟩) ?_ ?_
              rotate_left
              · intro w'
                go_simp
                with_reducible rfl
              rotate_left
              · simp only [Act.put, List.setIfInBounds_toArray, List.set_cons_zero, List.set_cons_succ, i64_w, i32_w]
                rfl
              refine pure_ (i := 15) (N := some 52) (v := ?_) (a' := ?_) #[true, true, true, true, true, true, true, true, true, true, true, true, true, true, true, true] rfl rfl (any_of HT_.out (by kernel_rfl)) (fun _ _ _ h => h) (Or.inl ⟨by rfl, ?_⟩) ?_ ?_
              rotate_left
              · intro w'
                go_simp
                with_reducible rfl
              rotate_left
              · simp only [Act.put, List.setIfInBounds_toArray, List.set_cons_zero, List.set_cons_succ, i64_w, i32_w]
                rfl
              refine done_ (done_of HT_.out (by kernel_rfl)) ?_
              try go_wp2_with (first | ((with_reducible refine wp_loop_rounds 9 ?_)) | ((with_reducible refine of_rounds ?_)))
              go_meet
              case rel => exact ⟨_, (t127), (0), H', ⟨by have := HJ5.out; first | omega | exact Nat.le_refl _⟩, ⟨by (with_reducible repeat (first | refine blk_drewN ?_ _ | refine blk_drew ?_ | refine blk_alloc ?_ _)); exact BK114.out⟩, ⟨by (with_reducible repeat (first | refine blk_drewN ?_ _ | refine blk_drew ?_ | refine blk_alloc ?_ _)); exact BK115.out⟩, ⟨by (with_reducible repeat (first | refine blk_drewN ?_ _ | refine blk_drew ?_ | refine blk_alloc ?_ _)); exact BK116.out⟩, ⟨by (with_reducible repeat (first | refine blk_drewN ?_ _ | refine blk_drew ?_ | refine blk_alloc ?_ _)); exact BK123.out⟩, ⟨by (with_reducible repeat (first | refine blk_drewN ?_ _ | refine blk_drew ?_ | refine blk_alloc ?_ _)); exact BK124.out⟩, ⟨by (with_reducible repeat (first | refine blk_drewN ?_ _ | refine blk_drew ?_ | refine blk_alloc ?_ _)); exact BK125.out⟩, ⟨by (with_reducible repeat (first | refine blk_drewN ?_ _ | refine blk_drew ?_ | refine blk_alloc ?_ _)); exact BK126.out⟩, ⟨by repeat (first | (with_reducible first | exact HB.out | apply below_alloc | apply pw_below_drewN | apply below_drew1 | refine below_set ?_ GE114.out | refine below_set ?_ GE115.out | refine below_set ?_ GE116.out | refine below_set ?_ GE123.out | refine below_set ?_ GE124.out | refine below_set ?_ GE125.out | refine below_set ?_ GE126.out) | exact HB.out)⟩⟩
        case rest =>
          clear HC58
          try clear c2
          try clear p2
          try clear p6
          try clear c8
          try clear c9
          try clear c27
          try clear p64
          try clear c80
          try clear c80b0
          try clear c80b1
          try clear c86
          try clear c87
          try clear c88
          try clear c89
          try clear c90
          try clear c91
          try clear c93
          try clear c94
          try clear c95
          try clear c96
          try clear c97
          try clear hcz92_0
          try clear hcz92_1
          try clear hcz98_0
          try clear hcz98_1
          try clear hfz92_0
          try clear hfz92_1
          try clear hfz98_0
          try clear hfz98_1
          obtain ⟨kq, x127000_57, x127001_57, HA, HJ57, BK114, BK115, BK116, BK123, BK124, BK125, BK126, HB⟩ := hcut
          cases kq with
          | zero => exact absurd HA.out (by simp [span_Plus.j1])
          | succ kj57 =>
            have H := HA.out
            clear HA
            simp only [span_Plus.j1] at H
            have HC104 := Aside0.mk H
            clear H
            go_upto_block 1 with (first | ((with_reducible refine wp_loop_rounds 9 ?_)) | ((with_reducible refine of_rounds ?_)))
            go_cut [] (fun wc => ∃ (kq : Nat) (x127000_103 : Int) (x127001_103 : Int), Aside0 (span_Plus.j2 kq x127000_103 x127001_103 = some (r1, r2)) ∧ Aside0 (kq ≤ kj57) ∧ Aside0 (wc.heap[gb114]? = some (.cells #[.int .i64 a0_0, .int .i64 a0_1] 29 (0, 0))) ∧ Aside0 (wc.heap[gb115]? = some (.cells #[.int .i64 a1_0, .int .i64 a1_1] 29 (0, 0))) ∧ Aside0 (wc.heap[gb116]? = some (.cells #[.int .i64 0, .int .i64 0] 29 (0, 0))) ∧ Aside0 (wc.heap[gb123]? = some (.cells #[.int .i64 t117, .int .i64 t118] 54 (0, 0))) ∧ Aside0 (wc.heap[gb124]? = some (.cells #[.int .i64 t119, .int .i64 t120] 54 (0, 0))) ∧ Aside0 (wc.heap[gb125]? = some (.cells #[.int .i64 t121, .int .i64 t122] 54 (0, 0))) ∧ Aside0 (wc.heap[gb126]? = some (.cells #[.int .i64 x127000_103, .int .i64 x127001_103] 54 (0, 0))) ∧ Aside0 (Below w.heap.size w wc))
            case first =>
              have H := HC104.out
              clear HC104
              replace H := Option.bind_eq_some_iff.mp H
              obtain ⟨t128, A1050, H⟩ := H
              replace H : (if t118 = t122 then (span_Plus.j2 kj57 x127000_57 t122) else (if t120 = t122 then (span_Plus.j2 kj57 x127000_57 t122) else (span_Plus.j2 kj57 x127000_57 t128))) = some (r1, r2) := H
              have A105 := Aside0.mk A1050
              clear A1050
              by_cases c106 : t118 = t122
              · rw [if_pos c106] at H
                have c106b0 : (t118 == t122) = true := beq_iff_eq.mpr c106
                have c106b1 : (t118 != t122) = false := bne_eq_false_iff_eq.mpr c106
                clear c106
                (first | rw [c106b0] | (simp only [i64_w, i32_w]; rw [c106b0]) | skip)
                have H' := Aside0.mk H
                clear H
                try go_wp2_with (first | ((with_reducible refine wp_loop_rounds 9 ?_)) | ((with_reducible refine of_rounds ?_)))
                have n0_ := Aside0.mk (blk_drew BK114.out)
                have n1_ := Aside0.mk (blk_drew BK115.out)
                have n2_ := Aside0.mk (blk_drew BK116.out)
                have n3_ := Aside0.mk (blk_drew BK123.out)
                have n4_ := Aside0.mk (blk_drew BK124.out)
                have n5_ := Aside0.mk (blk_drew BK125.out)
                have n6_ := Aside0.mk (blk_drew BK126.out)
                have n7_ := Aside0.mk (below_drew1 HB.out)
                clear BK114
                clear BK115
                clear BK116
                clear BK123
                clear BK124
                clear BK125
                clear BK126
                clear HB
                have BK114 := n0_
                have BK115 := n1_
                have BK116 := n2_
                have BK123 := n3_
                have BK124 := n4_
                have BK125 := n5_
                have BK126 := n6_
                have HB := n7_
                clear n0_ n1_ n2_ n3_ n4_ n5_ n6_ n7_
                refine start_ (n := 11) (S := fun w' => w'.cell? ⟨gb123, 0, none⟩ = some (.int .i64 t117) ∧ w'.cell? ⟨gb123, 1, none⟩ = some (.int .i64 t118) ∧ w'.cell? ⟨gb124, 0, none⟩ = some (.int .i64 t119) ∧ w'.cell? ⟨gb124, 1, none⟩ = some (.int .i64 t120)) (ds := []) #[false, false, false, false, false, false, false, false, false, false, false] (by kernel_rfl) rfl rfl ⟨(blk_cell BK123.out 0).trans rfl, (blk_cell BK123.out 1).trans rfl, (blk_cell BK124.out 0).trans rfl, (blk_cell BK124.out 1).trans rfl⟩ (fun hHeld => ?_); refine with_tabW span_Plus.tab8 span_Plus.bits8 (fun HT_ HW_ => ?_)
                generalize wc.drew = w107 at BK114 BK115 BK116 BK123 BK124 BK125 BK126 HB hHeld ⊢
                refine pure_ (i := 0) (N := some 27) (v := ?_) (a' := ?_) #[true, false, false, false, false, false, false, false, false, false, false] rfl rfl (any_of HT_.out (by kernel_rfl)) (fun _ _ _ h => h) (Or.inl ⟨by rfl, ?_⟩) ?_ ?_
                rotate_left
                · intro w'
                  go_simp
                  with_reducible rfl
                rotate_left
                · simp only [Act.put, List.setIfInBounds_toArray, List.set_cons_zero, List.set_cons_succ, i64_w, i32_w]
                  rfl
                refine pure_ (i := 1) (N := some 28) (v := ?_) (a' := ?_) #[true, true, false, false, false, false, false, false, false, false, false] rfl rfl (any_of HT_.out (by kernel_rfl)) (fun _ _ _ h => h) (Or.inl ⟨by rfl, ?_⟩) ?_ ?_
                rotate_left
                · intro w'
                  go_simp
                  with_reducible rfl
                rotate_left
                · simp only [Act.put, List.setIfInBounds_toArray, List.set_cons_zero, List.set_cons_succ, i64_w, i32_w]
                  rfl
                refine pure_ (i := 2) (N := some 29) (v := ?_) (a' := ?_) #[true, true, true, false, false, false, false, false, false, false, false] rfl rfl (any_of HT_.out (by kernel_rfl)) (fun _ _ _ h => h) (Or.inl ⟨by rfl, ?_⟩) ?_ ?_
                rotate_left
                · intro w'
                  go_simp
                  with_reducible rfl
                rotate_left
                · simp only [Act.put, List.setIfInBounds_toArray, List.set_cons_zero, List.set_cons_succ, i64_w, i32_w]
                  rfl
                refine pure_ (i := 4) (N := some 31) (v := ?_) (a' := ?_) #[true, true, true, false, true, false, false, false, false, false, false] rfl rfl (any_of HT_.out (by kernel_rfl)) (fun _ _ _ h => h) (Or.inl ⟨by rfl, ?_⟩) ?_ ?_
                rotate_left
                · intro w'
                  go_simp
                  with_reducible rfl
                rotate_left
                · simp only [Act.put, List.setIfInBounds_toArray, List.set_cons_zero, List.set_cons_succ, i64_w, i32_w]
                  rfl
                refine pure_ (i := 5) (N := some 32) (v := ?_) (a' := ?_) #[true, true, true, false, true, true, false, false, false, false, false] rfl rfl (any_of HT_.out (by kernel_rfl)) (fun _ _ _ h => h) (Or.inl ⟨by rfl, ?_⟩) ?_ ?_
                rotate_left
                · intro w'
                  go_simp
                  with_reducible rfl
                rotate_left
                · simp only [Act.put, List.setIfInBounds_toArray, List.set_cons_zero, List.set_cons_succ, i64_w, i32_w]
                  rfl
                refine take_ (i := 3) (N := some 30) (v := ?_) (a' := ?_) #[true, true, true, true, true, true, false, false, false, false, false] rfl rfl (take_ofW HT_.out HW_.out (by kernel_rfl)) (fun _ _ _ h => h) (Or.inl ⟨by rfl, ?_⟩) hHeld ?_ ?_
                rotate_left
                · rintro w' ⟨s0, s1, s2, s3⟩
                  go_simp
                  with_reducible rfl
                rotate_left
                · simp only [Act.put, List.setIfInBounds_toArray, List.set_cons_zero, List.set_cons_succ, i64_w, i32_w]
                  rfl
                refine take_ (i := 6) (N := some 33) (v := ?_) (a' := ?_) #[true, true, true, true, true, true, true, false, false, false, false] rfl rfl (take_ofW HT_.out HW_.out (by kernel_rfl)) (fun _ _ _ h => h) (Or.inl ⟨by rfl, ?_⟩) hHeld ?_ ?_
                rotate_left
                · rintro w' ⟨s0, s1, s2, s3⟩
                  go_simp
                  with_reducible rfl
                rotate_left
                · simp only [Act.put, List.setIfInBounds_toArray, List.set_cons_zero, List.set_cons_succ, i64_w, i32_w]
                  rfl
                refine pure_ (i := 7) (N := some 34) (v := ?_) (a' := ?_) #[true, true, true, true, true, true, true, true, false, false, false] rfl rfl (any_of HT_.out (by kernel_rfl)) (fun _ _ _ h => h) (Or.inl ⟨by rfl, ?_⟩) ?_ ?_
                rotate_left
                · intro w'
                  go_simp
                  with_reducible rfl
                rotate_left
                · simp only [Act.put, List.setIfInBounds_toArray, List.set_cons_zero, List.set_cons_succ, i64_w, i32_w]
                  rfl
                refine one_ (i := 8) (N := some 35) #[true, true, true, true, true, true, true, true, true, false, false] rfl rfl (one_of HT_.out (by kernel_rfl)) (by decide) (fun K hK => ?_)
                refine goes_ Try.func27 (by kernel_rfl) rfl #[.int .i64 (wrap64 (t118 + t120))] (by rfl) rfl rfl (by (try simp only [List.map_toArray, List.map_cons, List.map_nil]); first | done | rfl | (simp only [List.length_drop, List.length_take]; rfl)) ?_
                with_reducible refine (span_Clip.calls (wrap64 (t118 + t120)) t128 _ A105.out).mono ?_
                rintro e w108 ⟨rfl, hb⟩
                refine ⟨_, rfl, ?_⟩
                have n0_ := Aside0.mk (blk_below (g := gb114) (o := .cells #[.int .i64 a0_0, .int .i64 a0_1] 29 (0, 0)) (by (with_reducible repeat (first | refine blk_drewN ?_ _ | refine blk_drew ?_ | refine blk_alloc ?_ _)); exact BK114.out) hb)
                have n1_ := Aside0.mk (blk_below (g := gb115) (o := .cells #[.int .i64 a1_0, .int .i64 a1_1] 29 (0, 0)) (by (with_reducible repeat (first | refine blk_drewN ?_ _ | refine blk_drew ?_ | refine blk_alloc ?_ _)); exact BK115.out) hb)
                have n2_ := Aside0.mk (blk_below (g := gb116) (o := .cells #[.int .i64 0, .int .i64 0] 29 (0, 0)) (by (with_reducible repeat (first | refine blk_drewN ?_ _ | refine blk_drew ?_ | refine blk_alloc ?_ _)); exact BK116.out) hb)
                have n3_ := Aside0.mk (blk_below (g := gb123) (o := .cells #[.int .i64 t117, .int .i64 t118] 54 (0, 0)) (by (with_reducible repeat (first | refine blk_drewN ?_ _ | refine blk_drew ?_ | refine blk_alloc ?_ _)); exact BK123.out) hb)
                have n4_ := Aside0.mk (blk_below (g := gb124) (o := .cells #[.int .i64 t119, .int .i64 t120] 54 (0, 0)) (by (with_reducible repeat (first | refine blk_drewN ?_ _ | refine blk_drew ?_ | refine blk_alloc ?_ _)); exact BK124.out) hb)
                have n5_ := Aside0.mk (blk_below (g := gb125) (o := .cells #[.int .i64 t121, .int .i64 t122] 54 (0, 0)) (by (with_reducible repeat (first | refine blk_drewN ?_ _ | refine blk_drew ?_ | refine blk_alloc ?_ _)); exact BK125.out) hb)
                have n6_ := Aside0.mk (blk_below (g := gb126) (o := .cells #[.int .i64 x127000_57, .int .i64 x127001_57] 54 (0, 0)) (by (with_reducible repeat (first | refine blk_drewN ?_ _ | refine blk_drew ?_ | refine blk_alloc ?_ _)); exact BK126.out) hb)
                have n7_ := Aside0.mk (below_step (by repeat (first | (with_reducible first | exact HB.out | apply below_alloc | apply pw_below_drewN | apply below_drew1 | refine below_set ?_ GE114.out | refine below_set ?_ GE115.out | refine below_set ?_ GE116.out | refine below_set ?_ GE123.out | refine below_set ?_ GE124.out | refine below_set ?_ GE125.out | refine below_set ?_ GE126.out) | exact HB.out)) hb)
                clear BK114
                clear BK115
                clear BK116
                clear BK123
                clear BK124
                clear BK125
                clear BK126
                clear HB
                have BK114 := n0_
                have BK115 := n1_
                have BK116 := n2_
                have BK123 := n3_
                have BK124 := n4_
                have BK125 := n5_
                have BK126 := n6_
                have HB := n7_
                clear n0_ n1_ n2_ n3_ n4_ n5_ n6_ n7_
                (try clear hb)
                (try clear hb2)
                (try clear hk)
                (try clear hi)
                refine hK.out _ _ ⟨(blk_cell BK123.out 0).trans rfl, (blk_cell BK123.out 1).trans rfl, (blk_cell BK124.out 0).trans rfl, (blk_cell BK124.out 1).trans rfl⟩ (fun hHeld => ?_)
                clear hK K
                refine norm_ (a' := ?_) ?_ ?_
                rotate_left
                · show Act.put _ (some 35) _ = _
                  simp only [Act.put, List.setIfInBounds_toArray, List.set_cons_zero, List.set_cons_succ, i64_w, i32_w]
                  rfl
                refine pure_ (i := 9) (N := some 36) (v := ?_) (a' := ?_) #[true, true, true, true, true, true, true, true, true, true, false] rfl rfl (any_of HT_.out (by kernel_rfl)) (fun _ _ _ h => h) (Or.inl ⟨by rfl, ?_⟩) ?_ ?_
                rotate_left
                · intro w'
                  go_simp
                  with_reducible rfl
                rotate_left
                · simp only [Act.put, List.setIfInBounds_toArray, List.set_cons_zero, List.set_cons_succ, i64_w, i32_w]
                  rfl
                refine one_ (i := 10) (N := none) #[true, true, true, true, true, true, true, true, true, true, true] rfl rfl (one_of HT_.out (by kernel_rfl)) (by decide) (fun K hK => ?_)
                have hs109 : w108.cell? ⟨gb126, 1, none⟩ = some (.int .i64 x127001_57) := (blk_cell BK126.out 1).trans rfl
                have hfs109 := blk_frozen BK126.out 1
                have hns109_0 := NB114_126.out
                have hns109_1 := NB115_126.out
                have hns109_2 := NB116_126.out
                have hns109_3 := NB123_126.out
                have hns109_4 := NB124_126.out
                have hns109_5 := NB125_126.out
                have hms109_0 := NB126_114.out
                have hms109_1 := NB126_115.out
                have hms109_2 := NB126_116.out
                have hms109_3 := NB126_123.out
                have hms109_4 := NB126_124.out
                have hms109_5 := NB126_125.out
                refine skip_ (w1 := ?_) (by rfl) rfl ?_ ?_
                rotate_left
                · go_simp
                  rfl
                refine hK.out _ _ ⟨((cell_far (p := ⟨gb126, _, none⟩) NB123_126.out _).trans (hHeld.1)), ((cell_far (p := ⟨gb126, _, none⟩) NB123_126.out _).trans (hHeld.2.1)), ((cell_far (p := ⟨gb126, _, none⟩) NB124_126.out _).trans (hHeld.2.2.1)), ((cell_far (p := ⟨gb126, _, none⟩) NB124_126.out _).trans (hHeld.2.2.2))⟩ (fun hHeld => ?_)
                clear hK K
                refine done_ (done_of HT_.out (by kernel_rfl)) ?_
                try go_wp2_with (first | ((with_reducible refine wp_loop_rounds 9 ?_)) | ((with_reducible refine of_rounds ?_)))
                have n0_ : Aside0 ((w108.setCell ⟨gb126, 1, none⟩ (.int .i64 t128)).heap[gb114]? = some (.cells #[.int .i64 a0_0, .int .i64 a0_1] 29 (0, 0))) := ⟨by (with_reducible repeat (first | refine blk_drewN ?_ _ | refine blk_drew ?_ | refine blk_alloc ?_ _)); refine blk_far ?_ NB114_126.out _; (with_reducible repeat (first | refine blk_drewN ?_ _ | refine blk_drew ?_ | refine blk_alloc ?_ _)); exact BK114.out⟩
                have n1_ : Aside0 ((w108.setCell ⟨gb126, 1, none⟩ (.int .i64 t128)).heap[gb115]? = some (.cells #[.int .i64 a1_0, .int .i64 a1_1] 29 (0, 0))) := ⟨by (with_reducible repeat (first | refine blk_drewN ?_ _ | refine blk_drew ?_ | refine blk_alloc ?_ _)); refine blk_far ?_ NB115_126.out _; (with_reducible repeat (first | refine blk_drewN ?_ _ | refine blk_drew ?_ | refine blk_alloc ?_ _)); exact BK115.out⟩
                have n2_ : Aside0 ((w108.setCell ⟨gb126, 1, none⟩ (.int .i64 t128)).heap[gb116]? = some (.cells #[.int .i64 0, .int .i64 0] 29 (0, 0))) := ⟨by (with_reducible repeat (first | refine blk_drewN ?_ _ | refine blk_drew ?_ | refine blk_alloc ?_ _)); refine blk_far ?_ NB116_126.out _; (with_reducible repeat (first | refine blk_drewN ?_ _ | refine blk_drew ?_ | refine blk_alloc ?_ _)); exact BK116.out⟩
                have n3_ : Aside0 ((w108.setCell ⟨gb126, 1, none⟩ (.int .i64 t128)).heap[gb123]? = some (.cells #[.int .i64 t117, .int .i64 t118] 54 (0, 0))) := ⟨by (with_reducible repeat (first | refine blk_drewN ?_ _ | refine blk_drew ?_ | refine blk_alloc ?_ _)); refine blk_far ?_ NB123_126.out _; (with_reducible repeat (first | refine blk_drewN ?_ _ | refine blk_drew ?_ | refine blk_alloc ?_ _)); exact BK123.out⟩
                have n4_ : Aside0 ((w108.setCell ⟨gb126, 1, none⟩ (.int .i64 t128)).heap[gb124]? = some (.cells #[.int .i64 t119, .int .i64 t120] 54 (0, 0))) := ⟨by (with_reducible repeat (first | refine blk_drewN ?_ _ | refine blk_drew ?_ | refine blk_alloc ?_ _)); refine blk_far ?_ NB124_126.out _; (with_reducible repeat (first | refine blk_drewN ?_ _ | refine blk_drew ?_ | refine blk_alloc ?_ _)); exact BK124.out⟩
                have n5_ : Aside0 ((w108.setCell ⟨gb126, 1, none⟩ (.int .i64 t128)).heap[gb125]? = some (.cells #[.int .i64 t121, .int .i64 t122] 54 (0, 0))) := ⟨by (with_reducible repeat (first | refine blk_drewN ?_ _ | refine blk_drew ?_ | refine blk_alloc ?_ _)); refine blk_far ?_ NB125_126.out _; (with_reducible repeat (first | refine blk_drewN ?_ _ | refine blk_drew ?_ | refine blk_alloc ?_ _)); exact BK125.out⟩
                have n6_ : Aside0 ((w108.setCell ⟨gb126, 1, none⟩ (.int .i64 t128)).heap[gb126]? = some (.cells #[.int .i64 x127000_57, .int .i64 t128] 54 (0, 0))) := ⟨by (with_reducible repeat (first | refine blk_drewN ?_ _ | refine blk_drew ?_ | refine blk_alloc ?_ _)); refine blk_put (cs := #[.int .i64 x127000_57, .int .i64 x127001_57]) ?_ 1 _ rfl; (with_reducible repeat (first | refine blk_drewN ?_ _ | refine blk_drew ?_ | refine blk_alloc ?_ _)); exact BK126.out⟩
                have n7_ : Aside0 (Below w.heap.size w (w108.setCell ⟨gb126, 1, none⟩ (.int .i64 t128))) := ⟨by repeat (first | (with_reducible first | exact HB.out | apply below_alloc | apply pw_below_drewN | apply below_drew1 | refine below_set ?_ GE114.out | refine below_set ?_ GE115.out | refine below_set ?_ GE116.out | refine below_set ?_ GE123.out | refine below_set ?_ GE124.out | refine below_set ?_ GE125.out | refine below_set ?_ GE126.out) | exact HB.out)⟩
                (try clear BK114)
                (try clear BK115)
                (try clear BK116)
                (try clear BK123)
                (try clear BK124)
                (try clear BK125)
                (try clear BK126)
                (try clear HB)
                generalize (w108.setCell ⟨gb126, 1, none⟩ (.int .i64 t128)) = w110 at n0_ n1_ n2_ n3_ n4_ n5_ n6_ n7_ ⊢
                have BK114 := n0_
                have BK115 := n1_
                have BK116 := n2_
                have BK123 := n3_
                have BK124 := n4_
                have BK125 := n5_
                have BK126 := n6_
                have HB := n7_
                clear n0_ n1_ n2_ n3_ n4_ n5_ n6_ n7_
                have n0_ := Aside0.mk (blk_drew BK114.out)
                have n1_ := Aside0.mk (blk_drew BK115.out)
                have n2_ := Aside0.mk (blk_drew BK116.out)
                have n3_ := Aside0.mk (blk_drew BK123.out)
                have n4_ := Aside0.mk (blk_drew BK124.out)
                have n5_ := Aside0.mk (blk_drew BK125.out)
                have n6_ := Aside0.mk (blk_drew BK126.out)
                have n7_ := Aside0.mk (below_drew1 HB.out)
                clear BK114
                clear BK115
                clear BK116
                clear BK123
                clear BK124
                clear BK125
                clear BK126
                clear HB
                have BK114 := n0_
                have BK115 := n1_
                have BK116 := n2_
                have BK123 := n3_
                have BK124 := n4_
                have BK125 := n5_
                have BK126 := n6_
                have HB := n7_
                clear n0_ n1_ n2_ n3_ n4_ n5_ n6_ n7_
                refine start_ (n := 16) (S := fun w' => w'.cell? ⟨gb123, 0, none⟩ = some (.int .i64 t117) ∧ w'.cell? ⟨gb123, 1, none⟩ = some (.int .i64 t118) ∧ w'.cell? ⟨gb125, 0, none⟩ = some (.int .i64 t121) ∧ w'.cell? ⟨gb125, 1, none⟩ = some (.int .i64 t122)) (ds := []) #[false, false, false, false, false, false, false, false, false, false, false, false, false, false, false, false] (by kernel_rfl) rfl rfl ⟨(blk_cell BK123.out 0).trans rfl, (blk_cell BK123.out 1).trans rfl, (blk_cell BK125.out 0).trans rfl, (blk_cell BK125.out 1).trans rfl⟩ (fun hHeld => ?_); refine with_tabW span_Plus.tab9 span_Plus.bits9 (fun HT_ HW_ => ?_)
                generalize w110.drew = w111 at BK114 BK115 BK116 BK123 BK124 BK125 BK126 HB hHeld ⊢
                refine pure_ (i := 0) (N := some 37) (v := ?_) (a' := ?_) #[true, false, false, false, false, false, false, false, false, false, false, false, false, false, false, false] rfl rfl (any_of HT_.out (by kernel_rfl)) (fun _ _ _ h => h) (Or.inl ⟨by rfl, ?_⟩) ?_ ?_
                rotate_left
                · intro w'
                  go_simp
                  with_reducible rfl
                rotate_left
                · simp only [Act.put, List.setIfInBounds_toArray, List.set_cons_zero, List.set_cons_succ, i64_w, i32_w]
                  rfl
                refine pure_ (i := 1) (N := some 38) (v := ?_) (a' := ?_) #[true, true, false, false, false, false, false, false, false, false, false, false, false, false, false, false] rfl rfl (any_of HT_.out (by kernel_rfl)) (fun _ _ _ h => h) (Or.inl ⟨by rfl, ?_⟩) ?_ ?_
                rotate_left
                · intro w'
                  go_simp
                  with_reducible rfl
                rotate_left
                · simp only [Act.put, List.setIfInBounds_toArray, List.set_cons_zero, List.set_cons_succ, i64_w, i32_w]
                  rfl
                refine pure_ (i := 3) (N := some 40) (v := ?_) (a' := ?_) #[true, true, false, true, false, false, false, false, false, false, false, false, false, false, false, false] rfl rfl (any_of HT_.out (by kernel_rfl)) (fun _ _ _ h => h) (Or.inl ⟨by rfl, ?_⟩) ?_ ?_
                rotate_left
                · intro w'
                  go_simp
                  with_reducible rfl
                rotate_left
                · simp only [Act.put, List.setIfInBounds_toArray, List.set_cons_zero, List.set_cons_succ, i64_w, i32_w]
                  rfl
                refine pure_ (i := 4) (N := some 41) (v := ?_) (a' := ?_) #[true, true, false, true, true, false, false, false, false, false, false, false, false, false, false, false] rfl rfl (any_of HT_.out (by kernel_rfl)) (fun _ _ _ h => h) (Or.inl ⟨by rfl, ?_⟩) ?_ ?_
                rotate_left
                · intro w'
                  go_simp
                  with_reducible rfl
                rotate_left
                · simp only [Act.put, List.setIfInBounds_toArray, List.set_cons_zero, List.set_cons_succ, i64_w, i32_w]
                  rfl
                refine take_ (i := 2) (N := some 39) (v := ?_) (a' := ?_) #[true, true, true, true, true, false, false, false, false, false, false, false, false, false, false, false] rfl rfl (take_ofW HT_.out HW_.out (by kernel_rfl)) (fun _ _ _ h => h) (Or.inl ⟨by rfl, ?_⟩) hHeld ?_ ?_
                rotate_left
                · rintro w' ⟨s0, s1, s2, s3⟩
                  go_simp
                  with_reducible rfl
                rotate_left
                · simp only [Act.put, List.setIfInBounds_toArray, List.set_cons_zero, List.set_cons_succ, i64_w, i32_w]
                  rfl
                refine take_ (i := 5) (N := some 42) (v := ?_) (a' := ?_) #[true, true, true, true, true, true, false, false, false, false, false, false, false, false, false, false] rfl rfl (take_ofW HT_.out HW_.out (by kernel_rfl)) (fun _ _ _ h => h) (Or.inl ⟨by rfl, ?_⟩) hHeld ?_ ?_
                rotate_left
                · rintro w' ⟨s0, s1, s2, s3⟩
                  go_simp
                  with_reducible rfl
                rotate_left
                · simp only [Act.put, List.setIfInBounds_toArray, List.set_cons_zero, List.set_cons_succ, i64_w, i32_w]
                  rfl
                refine pure_ (i := 6) (N := some 43) (v := ?_) (a' := ?_) #[true, true, true, true, true, true, true, false, false, false, false, false, false, false, false, false] rfl rfl (any_of HT_.out (by kernel_rfl)) (fun _ _ _ h => h) (Or.inl ⟨by rfl, ?_⟩) ?_ ?_
                rotate_left
                · intro w'
                  go_simp
                  with_reducible rfl
                rotate_left
                · simp only [Act.put, List.setIfInBounds_toArray, List.set_cons_zero, List.set_cons_succ, i64_w, i32_w]
                  rfl
                refine pure_ (i := 7) (N := some 44) (v := ?_) (a' := ?_) #[true, true, true, true, true, true, true, true, false, false, false, false, false, false, false, false] rfl rfl (any_of HT_.out (by kernel_rfl)) (fun _ _ _ h => h) (Or.inl ⟨by rfl, ?_⟩) ?_ ?_
                rotate_left
                · intro w'
                  go_simp
                  with_reducible rfl
                rotate_left
                · simp only [Act.put, List.setIfInBounds_toArray, List.set_cons_zero, List.set_cons_succ, i64_w, i32_w]
                  rfl
                refine pure_ (i := 8) (N := some 45) (v := undef) (a' := ?_) #[true, true, true, true, true, true, true, true, true, false, false, false, false, false, false, false] rfl rfl (any_of HT_.out (by kernel_rfl)) (fun _ _ _ h => h) (Or.inr ⟨by rfl, rfl⟩) ?_ ?_
                rotate_left
                · simp only [Act.put, List.setIfInBounds_toArray, List.set_cons_zero, List.set_cons_succ, i64_w, i32_w]
                  rfl
                refine pure_ (i := 9) (N := some 46) (v := undef) (a' := ?_) #[true, true, true, true, true, true, true, true, true, true, false, false, false, false, false, false] rfl rfl (any_of HT_.out (by kernel_rfl)) (fun _ _ _ h => h) (Or.inr ⟨by rfl, rfl⟩) ?_ ?_
                rotate_left
                · simp only [Act.put, List.setIfInBounds_toArray, List.set_cons_zero, List.set_cons_succ, i64_w, i32_w]
                  rfl
                refine pure_ (i := 10) (N := some 47) (v := undef) (a' := ?_) #[true, true, true, true, true, true, true, true, true, true, true, false, false, false, false, false] rfl rfl (any_of HT_.out (by kernel_rfl)) (fun _ _ _ h => h) (Or.inr ⟨by rfl, rfl⟩) ?_ ?_
                rotate_left
                · simp only [Act.put, List.setIfInBounds_toArray, List.set_cons_zero, List.set_cons_succ, i64_w, i32_w]
                  rfl
                refine pure_ (i := 11) (N := some 48) (v := undef) (a' := ?_) #[true, true, true, true, true, true, true, true, true, true, true, true, false, false, false, false] rfl rfl (any_of HT_.out (by kernel_rfl)) (fun _ _ _ h => h) (Or.inr ⟨by rfl, rfl⟩) ?_ ?_
                rotate_left
                · simp only [Act.put, List.setIfInBounds_toArray, List.set_cons_zero, List.set_cons_succ, i64_w, i32_w]
                  rfl
                refine pure_ (i := 12) (N := some 49) (v := undef) (a' := ?_) #[true, true, true, true, true, true, true, true, true, true, true, true, true, false, false, false] rfl rfl (any_of HT_.out (by kernel_rfl)) (fun _ _ _ h => h) (Or.inr ⟨by rfl, rfl⟩) ?_ ?_
                rotate_left
                · simp only [Act.put, List.setIfInBounds_toArray, List.set_cons_zero, List.set_cons_succ, i64_w, i32_w]
                  rfl
                refine pure_ (i := 13) (N := some 50) (v := undef) (a' := ?_) #[true, true, true, true, true, true, true, true, true, true, true, true, true, true, false, false] rfl rfl (any_of HT_.out (by kernel_rfl)) (fun _ _ _ h => h) (Or.inr ⟨by rfl, rfl⟩) ?_ ?_
                rotate_left
                · simp only [Act.put, List.setIfInBounds_toArray, List.set_cons_zero, List.set_cons_succ, i64_w, i32_w]
                  rfl
                refine pure_ (i := 14) (N := some 51) (v := undef) (a' := ?_) #[true, true, true, true, true, true, true, true, true, true, true, true, true, true, true, false] rfl rfl (any_of HT_.out (by kernel_rfl)) (fun _ _ _ h => h) (Or.inr ⟨by rfl, rfl⟩) ?_ ?_
                rotate_left
                · simp only [Act.put, List.setIfInBounds_toArray, List.set_cons_zero, List.set_cons_succ, i64_w, i32_w]
                  rfl
                refine pure_ (i := 15) (N := some 52) (v := ?_) (a' := ?_) #[true, true, true, true, true, true, true, true, true, true, true, true, true, true, true, true] rfl rfl (any_of HT_.out (by kernel_rfl)) (fun _ _ _ h => h) (Or.inl ⟨by rfl, ?_⟩) ?_ ?_
                rotate_left
                · intro w'
                  go_simp
                  with_reducible rfl
                rotate_left
                · simp only [Act.put, List.setIfInBounds_toArray, List.set_cons_zero, List.set_cons_succ, i64_w, i32_w]
                  rfl
                refine done_ (done_of HT_.out (by kernel_rfl)) ?_
                have hnb112 := NB125_114.out
                have hnc112 := NB114_125.out
                have hnb113 := NB125_115.out
                have hnc113 := NB115_125.out
                have hnb114 := NB125_116.out
                have hnc114 := NB116_125.out
                have hnb115 := NB125_123.out
                have hnc115 := NB123_125.out
                have hnb116 := NB125_124.out
                have hnc116 := NB124_125.out
                have hnb117 := NB125_126.out
                have hnc117 := NB126_125.out
                have hcz118_0 : w111.cell? ⟨gb125, 0, none⟩ = some (.int .i64 t121) := (blk_cell BK125.out 0).trans rfl
                have hcz118_1 : w111.cell? ⟨gb125, 1, none⟩ = some (.int .i64 t122) := (blk_cell BK125.out 1).trans rfl
                have hfz118_0 := blk_frozen BK125.out 0
                have hfz118_1 := blk_frozen BK125.out 1
                have hnb119 := NB126_114.out
                have hnc119 := NB114_126.out
                have hnb120 := NB126_115.out
                have hnc120 := NB115_126.out
                have hnb121 := NB126_116.out
                have hnc121 := NB116_126.out
                have hnb122 := NB126_123.out
                have hnc122 := NB123_126.out
                have hnb123 := NB126_124.out
                have hnc123 := NB124_126.out
                have hcz124_0 : w111.cell? ⟨gb126, 0, none⟩ = some (.int .i64 x127000_57) := (blk_cell BK126.out 0).trans rfl
                have hcz124_1 : w111.cell? ⟨gb126, 1, none⟩ = some (.int .i64 t128) := (blk_cell BK126.out 1).trans rfl
                have hfz124_0 := blk_frozen BK126.out 0
                have hfz124_1 := blk_frozen BK126.out 1
                try go_wp2_with (first | ((with_reducible refine wp_loop_rounds 9 ?_)) | ((with_reducible refine of_rounds ?_)))
                go_meet
                case rel => exact ⟨_, (x127000_57), (t122), H', ⟨by have := HJ5.out; have := HJ57.out; first | omega | exact Nat.le_refl _⟩, ⟨by (with_reducible repeat (first | refine blk_drewN ?_ _ | refine blk_drew ?_ | refine blk_alloc ?_ _)); refine blk_far ?_ NB114_126.out _; (with_reducible repeat (first | refine blk_drewN ?_ _ | refine blk_drew ?_ | refine blk_alloc ?_ _)); exact BK114.out⟩, ⟨by (with_reducible repeat (first | refine blk_drewN ?_ _ | refine blk_drew ?_ | refine blk_alloc ?_ _)); refine blk_far ?_ NB115_126.out _; (with_reducible repeat (first | refine blk_drewN ?_ _ | refine blk_drew ?_ | refine blk_alloc ?_ _)); exact BK115.out⟩, ⟨by (with_reducible repeat (first | refine blk_drewN ?_ _ | refine blk_drew ?_ | refine blk_alloc ?_ _)); refine blk_far ?_ NB116_126.out _; (with_reducible repeat (first | refine blk_drewN ?_ _ | refine blk_drew ?_ | refine blk_alloc ?_ _)); exact BK116.out⟩, ⟨by (with_reducible repeat (first | refine blk_drewN ?_ _ | refine blk_drew ?_ | refine blk_alloc ?_ _)); refine blk_far ?_ NB123_126.out _; (with_reducible repeat (first | refine blk_drewN ?_ _ | refine blk_drew ?_ | refine blk_alloc ?_ _)); exact BK123.out⟩, ⟨by (with_reducible repeat (first | refine blk_drewN ?_ _ | refine blk_drew ?_ | refine blk_alloc ?_ _)); refine blk_far ?_ NB124_126.out _; (with_reducible repeat (first | refine blk_drewN ?_ _ | refine blk_drew ?_ | refine blk_alloc ?_ _)); exact BK124.out⟩, ⟨by (with_reducible repeat (first | refine blk_drewN ?_ _ | refine blk_drew ?_ | refine blk_alloc ?_ _)); refine blk_far ?_ NB125_126.out _; (with_reducible repeat (first | refine blk_drewN ?_ _ | refine blk_drew ?_ | refine blk_alloc ?_ _)); exact BK125.out⟩, ⟨by (with_reducible repeat (first | refine blk_drewN ?_ _ | refine blk_drew ?_ | refine blk_alloc ?_ _)); refine blk_put (cs := #[.int .i64 x127000_57, .int .i64 t128]) ?_ 1 _ rfl; (with_reducible repeat (first | refine blk_drewN ?_ _ | refine blk_drew ?_ | refine blk_alloc ?_ _)); exact BK126.out⟩, ⟨by repeat (first | (with_reducible first | exact HB.out | apply below_alloc | apply pw_below_drewN | apply below_drew1 | refine below_set ?_ GE114.out | refine below_set ?_ GE115.out | refine below_set ?_ GE116.out | refine below_set ?_ GE123.out | refine below_set ?_ GE124.out | refine below_set ?_ GE125.out | refine below_set ?_ GE126.out) | exact HB.out)⟩⟩
              · rw [if_neg c106] at H
                have c106b0 : (t118 == t122) = false := beq_eq_false_iff_ne.mpr c106
                have c106b1 : (t118 != t122) = true := bne_iff_ne.mpr c106
                (first | rw [c106b0] | (simp only [i64_w, i32_w]; rw [c106b0]) | skip)
                by_cases c125 : t120 = t122
                · rw [if_pos c125] at H
                  have c125b0 : (t120 == t122) = true := beq_iff_eq.mpr c125
                  have c125b1 : (t120 != t122) = false := bne_eq_false_iff_eq.mpr c125
                  clear c125
                  have H' := Aside0.mk H
                  clear H
                  try go_wp2_with (first | ((with_reducible refine wp_loop_rounds 9 ?_)) | ((with_reducible refine of_rounds ?_)))
                  have n0_ := Aside0.mk (blk_drew BK114.out)
                  have n1_ := Aside0.mk (blk_drew BK115.out)
                  have n2_ := Aside0.mk (blk_drew BK116.out)
                  have n3_ := Aside0.mk (blk_drew BK123.out)
                  have n4_ := Aside0.mk (blk_drew BK124.out)
                  have n5_ := Aside0.mk (blk_drew BK125.out)
                  have n6_ := Aside0.mk (blk_drew BK126.out)
                  have n7_ := Aside0.mk (below_drew1 HB.out)
                  clear BK114
                  clear BK115
                  clear BK116
                  clear BK123
                  clear BK124
                  clear BK125
                  clear BK126
                  clear HB
                  have BK114 := n0_
                  have BK115 := n1_
                  have BK116 := n2_
                  have BK123 := n3_
                  have BK124 := n4_
                  have BK125 := n5_
                  have BK126 := n6_
                  have HB := n7_
                  clear n0_ n1_ n2_ n3_ n4_ n5_ n6_ n7_
                  refine start_ (n := 11) (S := fun w' => w'.cell? ⟨gb123, 0, none⟩ = some (.int .i64 t117) ∧ w'.cell? ⟨gb123, 1, none⟩ = some (.int .i64 t118) ∧ w'.cell? ⟨gb124, 0, none⟩ = some (.int .i64 t119) ∧ w'.cell? ⟨gb124, 1, none⟩ = some (.int .i64 t120)) (ds := []) #[false, false, false, false, false, false, false, false, false, false, false] (by kernel_rfl) rfl rfl ⟨(blk_cell BK123.out 0).trans rfl, (blk_cell BK123.out 1).trans rfl, (blk_cell BK124.out 0).trans rfl, (blk_cell BK124.out 1).trans rfl⟩ (fun hHeld => ?_); refine with_tabW span_Plus.tab8 span_Plus.bits8 (fun HT_ HW_ => ?_)
                  generalize wc.drew = w126 at BK114 BK115 BK116 BK123 BK124 BK125 BK126 HB hHeld ⊢
                  refine pure_ (i := 0) (N := some 27) (v := ?_) (a' := ?_) #[true, false, false, false, false, false, false, false, false, false, false] rfl rfl (any_of HT_.out (by kernel_rfl)) (fun _ _ _ h => h) (Or.inl ⟨by rfl, ?_⟩) ?_ ?_
                  rotate_left
                  · intro w'
                    go_simp
                    with_reducible rfl
                  rotate_left
                  · simp only [Act.put, List.setIfInBounds_toArray, List.set_cons_zero, List.set_cons_succ, i64_w, i32_w]
                    rfl
                  refine pure_ (i := 1) (N := some 28) (v := ?_) (a' := ?_) #[true, true, false, false, false, false, false, false, false, false, false] rfl rfl (any_of HT_.out (by kernel_rfl)) (fun _ _ _ h => h) (Or.inl ⟨by rfl, ?_⟩) ?_ ?_
                  rotate_left
                  · intro w'
                    go_simp
                    with_reducible rfl
                  rotate_left
                  · simp only [Act.put, List.setIfInBounds_toArray, List.set_cons_zero, List.set_cons_succ, i64_w, i32_w]
                    rfl
                  refine pure_ (i := 2) (N := some 29) (v := ?_) (a' := ?_) #[true, true, true, false, false, false, false, false, false, false, false] rfl rfl (any_of HT_.out (by kernel_rfl)) (fun _ _ _ h => h) (Or.inl ⟨by rfl, ?_⟩) ?_ ?_
                  rotate_left
                  · intro w'
                    go_simp
                    with_reducible rfl
                  rotate_left
                  · simp only [Act.put, List.setIfInBounds_toArray, List.set_cons_zero, List.set_cons_succ, i64_w, i32_w]
                    rfl
                  refine pure_ (i := 4) (N := some 31) (v := ?_) (a' := ?_) #[true, true, true, false, true, false, false, false, false, false, false] rfl rfl (any_of HT_.out (by kernel_rfl)) (fun _ _ _ h => h) (Or.inl ⟨by rfl, ?_⟩) ?_ ?_
                  rotate_left
                  · intro w'
                    go_simp
                    with_reducible rfl
                  rotate_left
                  · simp only [Act.put, List.setIfInBounds_toArray, List.set_cons_zero, List.set_cons_succ, i64_w, i32_w]
                    rfl
                  refine pure_ (i := 5) (N := some 32) (v := ?_) (a' := ?_) #[true, true, true, false, true, true, false, false, false, false, false] rfl rfl (any_of HT_.out (by kernel_rfl)) (fun _ _ _ h => h) (Or.inl ⟨by rfl, ?_⟩) ?_ ?_
                  rotate_left
                  · intro w'
                    go_simp
                    with_reducible rfl
                  rotate_left
                  · simp only [Act.put, List.setIfInBounds_toArray, List.set_cons_zero, List.set_cons_succ, i64_w, i32_w]
                    rfl
                  refine take_ (i := 3) (N := some 30) (v := ?_) (a' := ?_) #[true, true, true, true, true, true, false, false, false, false, false] rfl rfl (take_ofW HT_.out HW_.out (by kernel_rfl)) (fun _ _ _ h => h) (Or.inl ⟨by rfl, ?_⟩) hHeld ?_ ?_
                  rotate_left
                  · rintro w' ⟨s0, s1, s2, s3⟩
                    go_simp
                    with_reducible rfl
                  rotate_left
                  · simp only [Act.put, List.setIfInBounds_toArray, List.set_cons_zero, List.set_cons_succ, i64_w, i32_w]
                    rfl
                  refine take_ (i := 6) (N := some 33) (v := ?_) (a' := ?_) #[true, true, true, true, true, true, true, false, false, false, false] rfl rfl (take_ofW HT_.out HW_.out (by kernel_rfl)) (fun _ _ _ h => h) (Or.inl ⟨by rfl, ?_⟩) hHeld ?_ ?_
                  rotate_left
                  · rintro w' ⟨s0, s1, s2, s3⟩
                    go_simp
                    with_reducible rfl
                  rotate_left
                  · simp only [Act.put, List.setIfInBounds_toArray, List.set_cons_zero, List.set_cons_succ, i64_w, i32_w]
                    rfl
                  refine pure_ (i := 7) (N := some 34) (v := ?_) (a' := ?_) #[true, true, true, true, true, true, true, true, false, false, false] rfl rfl (any_of HT_.out (by kernel_rfl)) (fun _ _ _ h => h) (Or.inl ⟨by rfl, ?_⟩) ?_ ?_
                  rotate_left
                  · intro w'
                    go_simp
                    with_reducible rfl
                  rotate_left
                  · simp only [Act.put, List.setIfInBounds_toArray, List.set_cons_zero, List.set_cons_succ, i64_w, i32_w]
                    rfl
                  refine one_ (i := 8) (N := some 35) #[true, true, true, true, true, true, true, true, true, false, false] rfl rfl (one_of HT_.out (by kernel_rfl)) (by decide) (fun K hK => ?_)
                  refine goes_ Try.func27 (by kernel_rfl) rfl #[.int .i64 (wrap64 (t118 + t120))] (by rfl) rfl rfl (by (try simp only [List.map_toArray, List.map_cons, List.map_nil]); first | done | rfl | (simp only [List.length_drop, List.length_take]; rfl)) ?_
                  with_reducible refine (span_Clip.calls (wrap64 (t118 + t120)) t128 _ A105.out).mono ?_
                  rintro e w127 ⟨rfl, hb⟩
                  refine ⟨_, rfl, ?_⟩
                  have n0_ := Aside0.mk (blk_below (g := gb114) (o := .cells #[.int .i64 a0_0, .int .i64 a0_1] 29 (0, 0)) (by (with_reducible repeat (first | refine blk_drewN ?_ _ | refine blk_drew ?_ | refine blk_alloc ?_ _)); exact BK114.out) hb)
                  have n1_ := Aside0.mk (blk_below (g := gb115) (o := .cells #[.int .i64 a1_0, .int .i64 a1_1] 29 (0, 0)) (by (with_reducible repeat (first | refine blk_drewN ?_ _ | refine blk_drew ?_ | refine blk_alloc ?_ _)); exact BK115.out) hb)
                  have n2_ := Aside0.mk (blk_below (g := gb116) (o := .cells #[.int .i64 0, .int .i64 0] 29 (0, 0)) (by (with_reducible repeat (first | refine blk_drewN ?_ _ | refine blk_drew ?_ | refine blk_alloc ?_ _)); exact BK116.out) hb)
                  have n3_ := Aside0.mk (blk_below (g := gb123) (o := .cells #[.int .i64 t117, .int .i64 t118] 54 (0, 0)) (by (with_reducible repeat (first | refine blk_drewN ?_ _ | refine blk_drew ?_ | refine blk_alloc ?_ _)); exact BK123.out) hb)
                  have n4_ := Aside0.mk (blk_below (g := gb124) (o := .cells #[.int .i64 t119, .int .i64 t120] 54 (0, 0)) (by (with_reducible repeat (first | refine blk_drewN ?_ _ | refine blk_drew ?_ | refine blk_alloc ?_ _)); exact BK124.out) hb)
                  have n5_ := Aside0.mk (blk_below (g := gb125) (o := .cells #[.int .i64 t121, .int .i64 t122] 54 (0, 0)) (by (with_reducible repeat (first | refine blk_drewN ?_ _ | refine blk_drew ?_ | refine blk_alloc ?_ _)); exact BK125.out) hb)
                  have n6_ := Aside0.mk (blk_below (g := gb126) (o := .cells #[.int .i64 x127000_57, .int .i64 x127001_57] 54 (0, 0)) (by (with_reducible repeat (first | refine blk_drewN ?_ _ | refine blk_drew ?_ | refine blk_alloc ?_ _)); exact BK126.out) hb)
                  have n7_ := Aside0.mk (below_step (by repeat (first | (with_reducible first | exact HB.out | apply below_alloc | apply pw_below_drewN | apply below_drew1 | refine below_set ?_ GE114.out | refine below_set ?_ GE115.out | refine below_set ?_ GE116.out | refine below_set ?_ GE123.out | refine below_set ?_ GE124.out | refine below_set ?_ GE125.out | refine below_set ?_ GE126.out) | exact HB.out)) hb)
                  clear BK114
                  clear BK115
                  clear BK116
                  clear BK123
                  clear BK124
                  clear BK125
                  clear BK126
                  clear HB
                  have BK114 := n0_
                  have BK115 := n1_
                  have BK116 := n2_
                  have BK123 := n3_
                  have BK124 := n4_
                  have BK125 := n5_
                  have BK126 := n6_
                  have HB := n7_
                  clear n0_ n1_ n2_ n3_ n4_ n5_ n6_ n7_
                  (try clear hb)
                  (try clear hb2)
                  (try clear hk)
                  (try clear hi)
                  refine hK.out _ _ ⟨(blk_cell BK123.out 0).trans rfl, (blk_cell BK123.out 1).trans rfl, (blk_cell BK124.out 0).trans rfl, (blk_cell BK124.out 1).trans rfl⟩ (fun hHeld => ?_)
                  clear hK K
                  refine norm_ (a' := ?_) ?_ ?_
                  rotate_left
                  · show Act.put _ (some 35) _ = _
                    simp only [Act.put, List.setIfInBounds_toArray, List.set_cons_zero, List.set_cons_succ, i64_w, i32_w]
                    rfl
                  refine pure_ (i := 9) (N := some 36) (v := ?_) (a' := ?_) #[true, true, true, true, true, true, true, true, true, true, false] rfl rfl (any_of HT_.out (by kernel_rfl)) (fun _ _ _ h => h) (Or.inl ⟨by rfl, ?_⟩) ?_ ?_
                  rotate_left
                  · intro w'
                    go_simp
                    with_reducible rfl
                  rotate_left
                  · simp only [Act.put, List.setIfInBounds_toArray, List.set_cons_zero, List.set_cons_succ, i64_w, i32_w]
                    rfl
                  refine one_ (i := 10) (N := none) #[true, true, true, true, true, true, true, true, true, true, true] rfl rfl (one_of HT_.out (by kernel_rfl)) (by decide) (fun K hK => ?_)
                  have hs128 : w127.cell? ⟨gb126, 1, none⟩ = some (.int .i64 x127001_57) := (blk_cell BK126.out 1).trans rfl
                  have hfs128 := blk_frozen BK126.out 1
                  have hns128_0 := NB114_126.out
                  have hns128_1 := NB115_126.out
                  have hns128_2 := NB116_126.out
                  have hns128_3 := NB123_126.out
                  have hns128_4 := NB124_126.out
                  have hns128_5 := NB125_126.out
                  have hms128_0 := NB126_114.out
                  have hms128_1 := NB126_115.out
                  have hms128_2 := NB126_116.out
                  have hms128_3 := NB126_123.out
                  have hms128_4 := NB126_124.out
                  have hms128_5 := NB126_125.out
                  refine skip_ (w1 := ?_) (by rfl) rfl ?_ ?_
                  rotate_left
                  · go_simp
                    rfl
                  refine hK.out _ _ ⟨((cell_far (p := ⟨gb126, _, none⟩) NB123_126.out _).trans (hHeld.1)), ((cell_far (p := ⟨gb126, _, none⟩) NB123_126.out _).trans (hHeld.2.1)), ((cell_far (p := ⟨gb126, _, none⟩) NB124_126.out _).trans (hHeld.2.2.1)), ((cell_far (p := ⟨gb126, _, none⟩) NB124_126.out _).trans (hHeld.2.2.2))⟩ (fun hHeld => ?_)
                  clear hK K
                  refine done_ (done_of HT_.out (by kernel_rfl)) ?_
                  try go_wp2_with (first | ((with_reducible refine wp_loop_rounds 9 ?_)) | ((with_reducible refine of_rounds ?_)))
                  have n0_ : Aside0 ((w127.setCell ⟨gb126, 1, none⟩ (.int .i64 t128)).heap[gb114]? = some (.cells #[.int .i64 a0_0, .int .i64 a0_1] 29 (0, 0))) := ⟨by (with_reducible repeat (first | refine blk_drewN ?_ _ | refine blk_drew ?_ | refine blk_alloc ?_ _)); refine blk_far ?_ NB114_126.out _; (with_reducible repeat (first | refine blk_drewN ?_ _ | refine blk_drew ?_ | refine blk_alloc ?_ _)); exact BK114.out⟩
                  have n1_ : Aside0 ((w127.setCell ⟨gb126, 1, none⟩ (.int .i64 t128)).heap[gb115]? = some (.cells #[.int .i64 a1_0, .int .i64 a1_1] 29 (0, 0))) := ⟨by (with_reducible repeat (first | refine blk_drewN ?_ _ | refine blk_drew ?_ | refine blk_alloc ?_ _)); refine blk_far ?_ NB115_126.out _; (with_reducible repeat (first | refine blk_drewN ?_ _ | refine blk_drew ?_ | refine blk_alloc ?_ _)); exact BK115.out⟩
                  have n2_ : Aside0 ((w127.setCell ⟨gb126, 1, none⟩ (.int .i64 t128)).heap[gb116]? = some (.cells #[.int .i64 0, .int .i64 0] 29 (0, 0))) := ⟨by (with_reducible repeat (first | refine blk_drewN ?_ _ | refine blk_drew ?_ | refine blk_alloc ?_ _)); refine blk_far ?_ NB116_126.out _; (with_reducible repeat (first | refine blk_drewN ?_ _ | refine blk_drew ?_ | refine blk_alloc ?_ _)); exact BK116.out⟩
                  have n3_ : Aside0 ((w127.setCell ⟨gb126, 1, none⟩ (.int .i64 t128)).heap[gb123]? = some (.cells #[.int .i64 t117, .int .i64 t118] 54 (0, 0))) := ⟨by (with_reducible repeat (first | refine blk_drewN ?_ _ | refine blk_drew ?_ | refine blk_alloc ?_ _)); refine blk_far ?_ NB123_126.out _; (with_reducible repeat (first | refine blk_drewN ?_ _ | refine blk_drew ?_ | refine blk_alloc ?_ _)); exact BK123.out⟩
                  have n4_ : Aside0 ((w127.setCell ⟨gb126, 1, none⟩ (.int .i64 t128)).heap[gb124]? = some (.cells #[.int .i64 t119, .int .i64 t120] 54 (0, 0))) := ⟨by (with_reducible repeat (first | refine blk_drewN ?_ _ | refine blk_drew ?_ | refine blk_alloc ?_ _)); refine blk_far ?_ NB124_126.out _; (with_reducible repeat (first | refine blk_drewN ?_ _ | refine blk_drew ?_ | refine blk_alloc ?_ _)); exact BK124.out⟩
                  have n5_ : Aside0 ((w127.setCell ⟨gb126, 1, none⟩ (.int .i64 t128)).heap[gb125]? = some (.cells #[.int .i64 t121, .int .i64 t122] 54 (0, 0))) := ⟨by (with_reducible repeat (first | refine blk_drewN ?_ _ | refine blk_drew ?_ | refine blk_alloc ?_ _)); refine blk_far ?_ NB125_126.out _; (with_reducible repeat (first | refine blk_drewN ?_ _ | refine blk_drew ?_ | refine blk_alloc ?_ _)); exact BK125.out⟩
                  have n6_ : Aside0 ((w127.setCell ⟨gb126, 1, none⟩ (.int .i64 t128)).heap[gb126]? = some (.cells #[.int .i64 x127000_57, .int .i64 t128] 54 (0, 0))) := ⟨by (with_reducible repeat (first | refine blk_drewN ?_ _ | refine blk_drew ?_ | refine blk_alloc ?_ _)); refine blk_put (cs := #[.int .i64 x127000_57, .int .i64 x127001_57]) ?_ 1 _ rfl; (with_reducible repeat (first | refine blk_drewN ?_ _ | refine blk_drew ?_ | refine blk_alloc ?_ _)); exact BK126.out⟩
                  have n7_ : Aside0 (Below w.heap.size w (w127.setCell ⟨gb126, 1, none⟩ (.int .i64 t128))) := ⟨by repeat (first | (with_reducible first | exact HB.out | apply below_alloc | apply pw_below_drewN | apply below_drew1 | refine below_set ?_ GE114.out | refine below_set ?_ GE115.out | refine below_set ?_ GE116.out | refine below_set ?_ GE123.out | refine below_set ?_ GE124.out | refine below_set ?_ GE125.out | refine below_set ?_ GE126.out) | exact HB.out)⟩
                  (try clear BK114)
                  (try clear BK115)
                  (try clear BK116)
                  (try clear BK123)
                  (try clear BK124)
                  (try clear BK125)
                  (try clear BK126)
                  (try clear HB)
                  generalize (w127.setCell ⟨gb126, 1, none⟩ (.int .i64 t128)) = w129 at n0_ n1_ n2_ n3_ n4_ n5_ n6_ n7_ ⊢
                  have BK114 := n0_
                  have BK115 := n1_
                  have BK116 := n2_
                  have BK123 := n3_
                  have BK124 := n4_
                  have BK125 := n5_
                  have BK126 := n6_
                  have HB := n7_
                  clear n0_ n1_ n2_ n3_ n4_ n5_ n6_ n7_
                  have n0_ := Aside0.mk (blk_drew BK114.out)
                  have n1_ := Aside0.mk (blk_drew BK115.out)
                  have n2_ := Aside0.mk (blk_drew BK116.out)
                  have n3_ := Aside0.mk (blk_drew BK123.out)
                  have n4_ := Aside0.mk (blk_drew BK124.out)
                  have n5_ := Aside0.mk (blk_drew BK125.out)
                  have n6_ := Aside0.mk (blk_drew BK126.out)
                  have n7_ := Aside0.mk (below_drew1 HB.out)
                  clear BK114
                  clear BK115
                  clear BK116
                  clear BK123
                  clear BK124
                  clear BK125
                  clear BK126
                  clear HB
                  have BK114 := n0_
                  have BK115 := n1_
                  have BK116 := n2_
                  have BK123 := n3_
                  have BK124 := n4_
                  have BK125 := n5_
                  have BK126 := n6_
                  have HB := n7_
                  clear n0_ n1_ n2_ n3_ n4_ n5_ n6_ n7_
                  refine start_ (n := 16) (S := fun w' => w'.cell? ⟨gb123, 0, none⟩ = some (.int .i64 t117) ∧ w'.cell? ⟨gb123, 1, none⟩ = some (.int .i64 t118) ∧ w'.cell? ⟨gb125, 0, none⟩ = some (.int .i64 t121) ∧ w'.cell? ⟨gb125, 1, none⟩ = some (.int .i64 t122) ∧ w'.cell? ⟨gb124, 0, none⟩ = some (.int .i64 t119) ∧ w'.cell? ⟨gb124, 1, none⟩ = some (.int .i64 t120)) (ds := []) #[false, false, false, false, false, false, false, false, false, false, false, false, false, false, false, false] (by kernel_rfl) rfl rfl ⟨(blk_cell BK123.out 0).trans rfl, (blk_cell BK123.out 1).trans rfl, (blk_cell BK125.out 0).trans rfl, (blk_cell BK125.out 1).trans rfl, (blk_cell BK124.out 0).trans rfl, (blk_cell BK124.out 1).trans rfl⟩ (fun hHeld => ?_); refine with_tabW span_Plus.tab9 span_Plus.bits9 (fun HT_ HW_ => ?_)
                  generalize w129.drew = w130 at BK114 BK115 BK116 BK123 BK124 BK125 BK126 HB hHeld ⊢
                  refine pure_ (i := 0) (N := some 37) (v := ?_) (a' := ?_) #[true, false, false, false, false, false, false, false, false, false, false, false, false, false, false, false] rfl rfl (any_of HT_.out (by kernel_rfl)) (fun _ _ _ h => h) (Or.inl ⟨by rfl, ?_⟩) ?_ ?_
                  rotate_left
                  · intro w'
                    go_simp
                    with_reducible rfl
                  rotate_left
                  · simp only [Act.put, List.setIfInBounds_toArray, List.set_cons_zero, List.set_cons_succ, i64_w, i32_w]
                    rfl
                  refine pure_ (i := 1) (N := some 38) (v := ?_) (a' := ?_) #[true, true, false, false, false, false, false, false, false, false, false, false, false, false, false, false] rfl rfl (any_of HT_.out (by kernel_rfl)) (fun _ _ _ h => h) (Or.inl ⟨by rfl, ?_⟩) ?_ ?_
                  rotate_left
                  · intro w'
                    go_simp
                    with_reducible rfl
                  rotate_left
                  · simp only [Act.put, List.setIfInBounds_toArray, List.set_cons_zero, List.set_cons_succ, i64_w, i32_w]
                    rfl
                  refine pure_ (i := 3) (N := some 40) (v := ?_) (a' := ?_) #[true, true, false, true, false, false, false, false, false, false, false, false, false, false, false, false] rfl rfl (any_of HT_.out (by kernel_rfl)) (fun _ _ _ h => h) (Or.inl ⟨by rfl, ?_⟩) ?_ ?_
                  rotate_left
                  · intro w'
                    go_simp
                    with_reducible rfl
                  rotate_left
                  · simp only [Act.put, List.setIfInBounds_toArray, List.set_cons_zero, List.set_cons_succ, i64_w, i32_w]
                    rfl
                  refine pure_ (i := 4) (N := some 41) (v := ?_) (a' := ?_) #[true, true, false, true, true, false, false, false, false, false, false, false, false, false, false, false] rfl rfl (any_of HT_.out (by kernel_rfl)) (fun _ _ _ h => h) (Or.inl ⟨by rfl, ?_⟩) ?_ ?_
                  rotate_left
                  · intro w'
                    go_simp
                    with_reducible rfl
                  rotate_left
                  · simp only [Act.put, List.setIfInBounds_toArray, List.set_cons_zero, List.set_cons_succ, i64_w, i32_w]
                    rfl
                  refine take_ (i := 2) (N := some 39) (v := ?_) (a' := ?_) #[true, true, true, true, true, false, false, false, false, false, false, false, false, false, false, false] rfl rfl (take_ofW HT_.out HW_.out (by kernel_rfl)) (fun _ _ _ h => h) (Or.inl ⟨by rfl, ?_⟩) hHeld ?_ ?_
                  rotate_left
                  · rintro w' ⟨s0, s1, s2, s3, s4, s5⟩
                    go_simp
                    with_reducible rfl
                  rotate_left
                  · simp only [Act.put, List.setIfInBounds_toArray, List.set_cons_zero, List.set_cons_succ, i64_w, i32_w]
                    rfl
                  refine take_ (i := 5) (N := some 42) (v := ?_) (a' := ?_) #[true, true, true, true, true, true, false, false, false, false, false, false, false, false, false, false] rfl rfl (take_ofW HT_.out HW_.out (by kernel_rfl)) (fun _ _ _ h => h) (Or.inl ⟨by rfl, ?_⟩) hHeld ?_ ?_
                  rotate_left
                  · rintro w' ⟨s0, s1, s2, s3, s4, s5⟩
                    go_simp
                    with_reducible rfl
                  rotate_left
                  · simp only [Act.put, List.setIfInBounds_toArray, List.set_cons_zero, List.set_cons_succ, i64_w, i32_w]
                    rfl
                  refine pure_ (i := 6) (N := some 43) (v := ?_) (a' := ?_) #[true, true, true, true, true, true, true, false, false, false, false, false, false, false, false, false] rfl rfl (any_of HT_.out (by kernel_rfl)) (fun _ _ _ h => h) (Or.inl ⟨by rfl, ?_⟩) ?_ ?_
                  rotate_left
                  · intro w'
                    go_simp
                    with_reducible rfl
                  rotate_left
                  · simp only [Act.put, List.setIfInBounds_toArray, List.set_cons_zero, List.set_cons_succ, i64_w, i32_w]
                    rfl
                  refine pure_ (i := 7) (N := some 44) (v := ?_) (a' := ?_) #[true, true, true, true, true, true, true, true, false, false, false, false, false, false, false, false] rfl rfl (any_of HT_.out (by kernel_rfl)) (fun _ _ _ h => h) (Or.inl ⟨by rfl, ?_⟩) ?_ ?_
                  rotate_left
                  · intro w'
                    go_simp
                    with_reducible rfl
                  rotate_left
                  · simp only [Act.put, List.setIfInBounds_toArray, List.set_cons_zero, List.set_cons_succ, i64_w, i32_w]
                    rfl
                  refine pure_ (i := 8) (N := some 45) (v := ?_) (a' := ?_) #[true, true, true, true, true, true, true, true, true, false, false, false, false, false, false, false] rfl rfl (any_of HT_.out (by kernel_rfl)) (fun _ _ _ h => h) (Or.inl ⟨by rfl, ?_⟩) ?_ ?_
                  rotate_left
                  · intro w'
                    go_simp
                    with_reducible rfl
                  rotate_left
                  · simp only [Act.put, List.setIfInBounds_toArray, List.set_cons_zero, List.set_cons_succ, i64_w, i32_w]
                    rfl
                  refine pure_ (i := 9) (N := some 46) (v := ?_) (a' := ?_) #[true, true, true, true, true, true, true, true, true, true, false, false, false, false, false, false] rfl rfl (any_of HT_.out (by kernel_rfl)) (fun _ _ _ h => h) (Or.inl ⟨by rfl, ?_⟩) ?_ ?_
                  rotate_left
                  · intro w'
                    go_simp
                    with_reducible rfl
                  rotate_left
                  · simp only [Act.put, List.setIfInBounds_toArray, List.set_cons_zero, List.set_cons_succ, i64_w, i32_w]
                    rfl
                  refine pure_ (i := 11) (N := some 48) (v := ?_) (a' := ?_) #[true, true, true, true, true, true, true, true, true, true, false, true, false, false, false, false] rfl rfl (any_of HT_.out (by kernel_rfl)) (fun _ _ _ h => h) (Or.inl ⟨by rfl, ?_⟩) ?_ ?_
                  rotate_left
                  · intro w'
                    go_simp
                    with_reducible rfl
                  rotate_left
                  · simp only [Act.put, List.setIfInBounds_toArray, List.set_cons_zero, List.set_cons_succ, i64_w, i32_w]
                    rfl
                  refine pure_ (i := 12) (N := some 49) (v := ?_) (a' := ?_) #[true, true, true, true, true, true, true, true, true, true, false, true, true, false, false, false] rfl rfl (any_of HT_.out (by kernel_rfl)) (fun _ _ _ h => h) (Or.inl ⟨by rfl, ?_⟩) ?_ ?_
                  rotate_left
                  · intro w'
                    go_simp
                    with_reducible rfl
                  rotate_left
                  · simp only [Act.put, List.setIfInBounds_toArray, List.set_cons_zero, List.set_cons_succ, i64_w, i32_w]
                    rfl
                  refine take_ (i := 10) (N := some 47) (v := ?_) (a' := ?_) #[true, true, true, true, true, true, true, true, true, true, true, true, true, false, false, false] rfl rfl (take_ofW HT_.out HW_.out (by kernel_rfl)) (fun _ _ _ h => h) (Or.inl ⟨by rfl, ?_⟩) hHeld ?_ ?_
                  rotate_left
                  · rintro w' ⟨s0, s1, s2, s3, s4, s5⟩
                    go_simp
                    with_reducible rfl
                  rotate_left
                  · simp only [Act.put, List.setIfInBounds_toArray, List.set_cons_zero, List.set_cons_succ, i64_w, i32_w]
                    rfl
                  refine take_ (i := 13) (N := some 50) (v := ?_) (a' := ?_) #[true, true, true, true, true, true, true, true, true, true, true, true, true, true, false, false] rfl rfl (take_ofW HT_.out HW_.out (by kernel_rfl)) (fun _ _ _ h => h) (Or.inl ⟨by rfl, ?_⟩) hHeld ?_ ?_
                  rotate_left
                  · rintro w' ⟨s0, s1, s2, s3, s4, s5⟩
                    go_simp
                    with_reducible rfl
                  rotate_left
                  · simp only [Act.put, List.setIfInBounds_toArray, List.set_cons_zero, List.set_cons_succ, i64_w, i32_w]
                    rfl
                  refine pure_ (i := 14) (N := some 51) (v := ?_) (a' := ?_) #[true, true, true, true, true, true, true, true, true, true, true, true, true, true, true, false] rfl rfl (any_of HT_.out (by kernel_rfl)) (fun _ _ _ h => h) (Or.inl ⟨by rfl, ?_⟩) ?_ ?_
                  rotate_left
                  · intro w'
                    go_simp
                    with_reducible rfl
                  rotate_left
                  · simp only [Act.put, List.setIfInBounds_toArray, List.set_cons_zero, List.set_cons_succ, i64_w, i32_w]
                    rfl
                  refine pure_ (i := 15) (N := some 52) (v := ?_) (a' := ?_) #[true, true, true, true, true, true, true, true, true, true, true, true, true, true, true, true] rfl rfl (any_of HT_.out (by kernel_rfl)) (fun _ _ _ h => h) (Or.inl ⟨by rfl, ?_⟩) ?_ ?_
                  rotate_left
                  · intro w'
                    go_simp
                    with_reducible rfl
                  rotate_left
                  · simp only [Act.put, List.setIfInBounds_toArray, List.set_cons_zero, List.set_cons_succ, i64_w, i32_w]
                    rfl
                  refine done_ (done_of HT_.out (by kernel_rfl)) ?_
                  have hnb131 := NB125_114.out
                  have hnc131 := NB114_125.out
                  have hnb132 := NB125_115.out
                  have hnc132 := NB115_125.out
                  have hnb133 := NB125_116.out
                  have hnc133 := NB116_125.out
                  have hnb134 := NB125_123.out
                  have hnc134 := NB123_125.out
                  have hnb135 := NB125_124.out
                  have hnc135 := NB124_125.out
                  have hnb136 := NB125_126.out
                  have hnc136 := NB126_125.out
                  have hcz137_0 : w130.cell? ⟨gb125, 0, none⟩ = some (.int .i64 t121) := (blk_cell BK125.out 0).trans rfl
                  have hcz137_1 : w130.cell? ⟨gb125, 1, none⟩ = some (.int .i64 t122) := (blk_cell BK125.out 1).trans rfl
                  have hfz137_0 := blk_frozen BK125.out 0
                  have hfz137_1 := blk_frozen BK125.out 1
                  have hnb138 := NB126_114.out
                  have hnc138 := NB114_126.out
                  have hnb139 := NB126_115.out
                  have hnc139 := NB115_126.out
                  have hnb140 := NB126_116.out
                  have hnc140 := NB116_126.out
                  have hnb141 := NB126_123.out
                  have hnc141 := NB123_126.out
                  have hnb142 := NB126_124.out
                  have hnc142 := NB124_126.out
                  have hcz143_0 : w130.cell? ⟨gb126, 0, none⟩ = some (.int .i64 x127000_57) := (blk_cell BK126.out 0).trans rfl
                  have hcz143_1 : w130.cell? ⟨gb126, 1, none⟩ = some (.int .i64 t128) := (blk_cell BK126.out 1).trans rfl
                  have hfz143_0 := blk_frozen BK126.out 0
                  have hfz143_1 := blk_frozen BK126.out 1
                  try go_wp2_with (first | ((with_reducible refine wp_loop_rounds 9 ?_)) | ((with_reducible refine of_rounds ?_)))
                  go_meet
                  case rel => exact ⟨_, (x127000_57), (t122), H', ⟨by have := HJ5.out; have := HJ57.out; first | omega | exact Nat.le_refl _⟩, ⟨by (with_reducible repeat (first | refine blk_drewN ?_ _ | refine blk_drew ?_ | refine blk_alloc ?_ _)); refine blk_far ?_ NB114_126.out _; (with_reducible repeat (first | refine blk_drewN ?_ _ | refine blk_drew ?_ | refine blk_alloc ?_ _)); exact BK114.out⟩, ⟨by (with_reducible repeat (first | refine blk_drewN ?_ _ | refine blk_drew ?_ | refine blk_alloc ?_ _)); refine blk_far ?_ NB115_126.out _; (with_reducible repeat (first | refine blk_drewN ?_ _ | refine blk_drew ?_ | refine blk_alloc ?_ _)); exact BK115.out⟩, ⟨by (with_reducible repeat (first | refine blk_drewN ?_ _ | refine blk_drew ?_ | refine blk_alloc ?_ _)); refine blk_far ?_ NB116_126.out _; (with_reducible repeat (first | refine blk_drewN ?_ _ | refine blk_drew ?_ | refine blk_alloc ?_ _)); exact BK116.out⟩, ⟨by (with_reducible repeat (first | refine blk_drewN ?_ _ | refine blk_drew ?_ | refine blk_alloc ?_ _)); refine blk_far ?_ NB123_126.out _; (with_reducible repeat (first | refine blk_drewN ?_ _ | refine blk_drew ?_ | refine blk_alloc ?_ _)); exact BK123.out⟩, ⟨by (with_reducible repeat (first | refine blk_drewN ?_ _ | refine blk_drew ?_ | refine blk_alloc ?_ _)); refine blk_far ?_ NB124_126.out _; (with_reducible repeat (first | refine blk_drewN ?_ _ | refine blk_drew ?_ | refine blk_alloc ?_ _)); exact BK124.out⟩, ⟨by (with_reducible repeat (first | refine blk_drewN ?_ _ | refine blk_drew ?_ | refine blk_alloc ?_ _)); refine blk_far ?_ NB125_126.out _; (with_reducible repeat (first | refine blk_drewN ?_ _ | refine blk_drew ?_ | refine blk_alloc ?_ _)); exact BK125.out⟩, ⟨by (with_reducible repeat (first | refine blk_drewN ?_ _ | refine blk_drew ?_ | refine blk_alloc ?_ _)); refine blk_put (cs := #[.int .i64 x127000_57, .int .i64 t128]) ?_ 1 _ rfl; (with_reducible repeat (first | refine blk_drewN ?_ _ | refine blk_drew ?_ | refine blk_alloc ?_ _)); exact BK126.out⟩, ⟨by repeat (first | (with_reducible first | exact HB.out | apply below_alloc | apply pw_below_drewN | apply below_drew1 | refine below_set ?_ GE114.out | refine below_set ?_ GE115.out | refine below_set ?_ GE116.out | refine below_set ?_ GE123.out | refine below_set ?_ GE124.out | refine below_set ?_ GE125.out | refine below_set ?_ GE126.out) | exact HB.out)⟩⟩
                · rw [if_neg c125] at H
                  have c125b0 : (t120 == t122) = false := beq_eq_false_iff_ne.mpr c125
                  have c125b1 : (t120 != t122) = true := bne_iff_ne.mpr c125
                  have H' := Aside0.mk H
                  clear H
                  try go_wp2_with (first | ((with_reducible refine wp_loop_rounds 9 ?_)) | ((with_reducible refine of_rounds ?_)))
                  have n0_ := Aside0.mk (blk_drew BK114.out)
                  have n1_ := Aside0.mk (blk_drew BK115.out)
                  have n2_ := Aside0.mk (blk_drew BK116.out)
                  have n3_ := Aside0.mk (blk_drew BK123.out)
                  have n4_ := Aside0.mk (blk_drew BK124.out)
                  have n5_ := Aside0.mk (blk_drew BK125.out)
                  have n6_ := Aside0.mk (blk_drew BK126.out)
                  have n7_ := Aside0.mk (below_drew1 HB.out)
                  clear BK114
                  clear BK115
                  clear BK116
                  clear BK123
                  clear BK124
                  clear BK125
                  clear BK126
                  clear HB
                  have BK114 := n0_
                  have BK115 := n1_
                  have BK116 := n2_
                  have BK123 := n3_
                  have BK124 := n4_
                  have BK125 := n5_
                  have BK126 := n6_
                  have HB := n7_
                  clear n0_ n1_ n2_ n3_ n4_ n5_ n6_ n7_
                  refine start_ (n := 11) (S := fun w' => w'.cell? ⟨gb123, 0, none⟩ = some (.int .i64 t117) ∧ w'.cell? ⟨gb123, 1, none⟩ = some (.int .i64 t118) ∧ w'.cell? ⟨gb124, 0, none⟩ = some (.int .i64 t119) ∧ w'.cell? ⟨gb124, 1, none⟩ = some (.int .i64 t120)) (ds := []) #[false, false, false, false, false, false, false, false, false, false, false] (by kernel_rfl) rfl rfl ⟨(blk_cell BK123.out 0).trans rfl, (blk_cell BK123.out 1).trans rfl, (blk_cell BK124.out 0).trans rfl, (blk_cell BK124.out 1).trans rfl⟩ (fun hHeld => ?_); refine with_tabW span_Plus.tab8 span_Plus.bits8 (fun HT_ HW_ => ?_)
                  generalize wc.drew = w144 at BK114 BK115 BK116 BK123 BK124 BK125 BK126 HB hHeld ⊢
                  refine pure_ (i := 0) (N := some 27) (v := ?_) (a' := ?_) #[true, false, false, false, false, false, false, false, false, false, false] rfl rfl (any_of HT_.out (by kernel_rfl)) (fun _ _ _ h => h) (Or.inl ⟨by rfl, ?_⟩) ?_ ?_
                  rotate_left
                  · intro w'
                    go_simp
                    with_reducible rfl
                  rotate_left
                  · simp only [Act.put, List.setIfInBounds_toArray, List.set_cons_zero, List.set_cons_succ, i64_w, i32_w]
                    rfl
                  refine pure_ (i := 1) (N := some 28) (v := ?_) (a' := ?_) #[true, true, false, false, false, false, false, false, false, false, false] rfl rfl (any_of HT_.out (by kernel_rfl)) (fun _ _ _ h => h) (Or.inl ⟨by rfl, ?_⟩) ?_ ?_
                  rotate_left
                  · intro w'
                    go_simp
                    with_reducible rfl
                  rotate_left
                  · simp only [Act.put, List.setIfInBounds_toArray, List.set_cons_zero, List.set_cons_succ, i64_w, i32_w]
                    rfl
                  refine pure_ (i := 2) (N := some 29) (v := ?_) (a' := ?_) #[true, true, true, false, false, false, false, false, false, false, false] rfl rfl (any_of HT_.out (by kernel_rfl)) (fun _ _ _ h => h) (Or.inl ⟨by rfl, ?_⟩) ?_ ?_
                  rotate_left
                  · intro w'
                    go_simp
                    with_reducible rfl
                  rotate_left
                  · simp only [Act.put, List.setIfInBounds_toArray, List.set_cons_zero, List.set_cons_succ, i64_w, i32_w]
                    rfl
                  refine pure_ (i := 4) (N := some 31) (v := ?_) (a' := ?_) #[true, true, true, false, true, false, false, false, false, false, false] rfl rfl (any_of HT_.out (by kernel_rfl)) (fun _ _ _ h => h) (Or.inl ⟨by rfl, ?_⟩) ?_ ?_
                  rotate_left
                  · intro w'
                    go_simp
                    with_reducible rfl
                  rotate_left
                  · simp only [Act.put, List.setIfInBounds_toArray, List.set_cons_zero, List.set_cons_succ, i64_w, i32_w]
                    rfl
                  refine pure_ (i := 5) (N := some 32) (v := ?_) (a' := ?_) #[true, true, true, false, true, true, false, false, false, false, false] rfl rfl (any_of HT_.out (by kernel_rfl)) (fun _ _ _ h => h) (Or.inl ⟨by rfl, ?_⟩) ?_ ?_
                  rotate_left
                  · intro w'
                    go_simp
                    with_reducible rfl
                  rotate_left
                  · simp only [Act.put, List.setIfInBounds_toArray, List.set_cons_zero, List.set_cons_succ, i64_w, i32_w]
                    rfl
                  refine take_ (i := 3) (N := some 30) (v := ?_) (a' := ?_) #[true, true, true, true, true, true, false, false, false, false, false] rfl rfl (take_ofW HT_.out HW_.out (by kernel_rfl)) (fun _ _ _ h => h) (Or.inl ⟨by rfl, ?_⟩) hHeld ?_ ?_
                  rotate_left
                  · rintro w' ⟨s0, s1, s2, s3⟩
                    go_simp
                    with_reducible rfl
                  rotate_left
                  · simp only [Act.put, List.setIfInBounds_toArray, List.set_cons_zero, List.set_cons_succ, i64_w, i32_w]
                    rfl
                  refine take_ (i := 6) (N := some 33) (v := ?_) (a' := ?_) #[true, true, true, true, true, true, true, false, false, false, false] rfl rfl (take_ofW HT_.out HW_.out (by kernel_rfl)) (fun _ _ _ h => h) (Or.inl ⟨by rfl, ?_⟩) hHeld ?_ ?_
                  rotate_left
                  · rintro w' ⟨s0, s1, s2, s3⟩
                    go_simp
                    with_reducible rfl
                  rotate_left
                  · simp only [Act.put, List.setIfInBounds_toArray, List.set_cons_zero, List.set_cons_succ, i64_w, i32_w]
                    rfl
                  refine pure_ (i := 7) (N := some 34) (v := ?_) (a' := ?_) #[true, true, true, true, true, true, true, true, false, false, false] rfl rfl (any_of HT_.out (by kernel_rfl)) (fun _ _ _ h => h) (Or.inl ⟨by rfl, ?_⟩) ?_ ?_
                  rotate_left
                  · intro w'
                    go_simp
                    with_reducible rfl
                  rotate_left
                  · simp only [Act.put, List.setIfInBounds_toArray, List.set_cons_zero, List.set_cons_succ, i64_w, i32_w]
                    rfl
                  refine one_ (i := 8) (N := some 35) #[true, true, true, true, true, true, true, true, true, false, false] rfl rfl (one_of HT_.out (by kernel_rfl)) (by decide) (fun K hK => ?_)
                  refine goes_ Try.func27 (by kernel_rfl) rfl #[.int .i64 (wrap64 (t118 + t120))] (by rfl) rfl rfl (by (try simp only [List.map_toArray, List.map_cons, List.map_nil]); first | done | rfl | (simp only [List.length_drop, List.length_take]; rfl)) ?_
                  with_reducible refine (span_Clip.calls (wrap64 (t118 + t120)) t128 _ A105.out).mono ?_
                  rintro e w145 ⟨rfl, hb⟩
                  refine ⟨_, rfl, ?_⟩
                  have n0_ := Aside0.mk (blk_below (g := gb114) (o := .cells #[.int .i64 a0_0, .int .i64 a0_1] 29 (0, 0)) (by (with_reducible repeat (first | refine blk_drewN ?_ _ | refine blk_drew ?_ | refine blk_alloc ?_ _)); exact BK114.out) hb)
                  have n1_ := Aside0.mk (blk_below (g := gb115) (o := .cells #[.int .i64 a1_0, .int .i64 a1_1] 29 (0, 0)) (by (with_reducible repeat (first | refine blk_drewN ?_ _ | refine blk_drew ?_ | refine blk_alloc ?_ _)); exact BK115.out) hb)
                  have n2_ := Aside0.mk (blk_below (g := gb116) (o := .cells #[.int .i64 0, .int .i64 0] 29 (0, 0)) (by (with_reducible repeat (first | refine blk_drewN ?_ _ | refine blk_drew ?_ | refine blk_alloc ?_ _)); exact BK116.out) hb)
                  have n3_ := Aside0.mk (blk_below (g := gb123) (o := .cells #[.int .i64 t117, .int .i64 t118] 54 (0, 0)) (by (with_reducible repeat (first | refine blk_drewN ?_ _ | refine blk_drew ?_ | refine blk_alloc ?_ _)); exact BK123.out) hb)
                  have n4_ := Aside0.mk (blk_below (g := gb124) (o := .cells #[.int .i64 t119, .int .i64 t120] 54 (0, 0)) (by (with_reducible repeat (first | refine blk_drewN ?_ _ | refine blk_drew ?_ | refine blk_alloc ?_ _)); exact BK124.out) hb)
                  have n5_ := Aside0.mk (blk_below (g := gb125) (o := .cells #[.int .i64 t121, .int .i64 t122] 54 (0, 0)) (by (with_reducible repeat (first | refine blk_drewN ?_ _ | refine blk_drew ?_ | refine blk_alloc ?_ _)); exact BK125.out) hb)
                  have n6_ := Aside0.mk (blk_below (g := gb126) (o := .cells #[.int .i64 x127000_57, .int .i64 x127001_57] 54 (0, 0)) (by (with_reducible repeat (first | refine blk_drewN ?_ _ | refine blk_drew ?_ | refine blk_alloc ?_ _)); exact BK126.out) hb)
                  have n7_ := Aside0.mk (below_step (by repeat (first | (with_reducible first | exact HB.out | apply below_alloc | apply pw_below_drewN | apply below_drew1 | refine below_set ?_ GE114.out | refine below_set ?_ GE115.out | refine below_set ?_ GE116.out | refine below_set ?_ GE123.out | refine below_set ?_ GE124.out | refine below_set ?_ GE125.out | refine below_set ?_ GE126.out) | exact HB.out)) hb)
                  clear BK114
                  clear BK115
                  clear BK116
                  clear BK123
                  clear BK124
                  clear BK125
                  clear BK126
                  clear HB
                  have BK114 := n0_
                  have BK115 := n1_
                  have BK116 := n2_
                  have BK123 := n3_
                  have BK124 := n4_
                  have BK125 := n5_
                  have BK126 := n6_
                  have HB := n7_
                  clear n0_ n1_ n2_ n3_ n4_ n5_ n6_ n7_
                  (try clear hb)
                  (try clear hb2)
                  (try clear hk)
                  (try clear hi)
                  refine hK.out _ _ ⟨(blk_cell BK123.out 0).trans rfl, (blk_cell BK123.out 1).trans rfl, (blk_cell BK124.out 0).trans rfl, (blk_cell BK124.out 1).trans rfl⟩ (fun hHeld => ?_)
                  clear hK K
                  refine norm_ (a' := ?_) ?_ ?_
                  rotate_left
                  · show Act.put _ (some 35) _ = _
                    simp only [Act.put, List.setIfInBounds_toArray, List.set_cons_zero, List.set_cons_succ, i64_w, i32_w]
                    rfl
                  refine pure_ (i := 9) (N := some 36) (v := ?_) (a' := ?_) #[true, true, true, true, true, true, true, true, true, true, false] rfl rfl (any_of HT_.out (by kernel_rfl)) (fun _ _ _ h => h) (Or.inl ⟨by rfl, ?_⟩) ?_ ?_
                  rotate_left
                  · intro w'
                    go_simp
                    with_reducible rfl
                  rotate_left
                  · simp only [Act.put, List.setIfInBounds_toArray, List.set_cons_zero, List.set_cons_succ, i64_w, i32_w]
                    rfl
                  refine one_ (i := 10) (N := none) #[true, true, true, true, true, true, true, true, true, true, true] rfl rfl (one_of HT_.out (by kernel_rfl)) (by decide) (fun K hK => ?_)
                  have hs146 : w145.cell? ⟨gb126, 1, none⟩ = some (.int .i64 x127001_57) := (blk_cell BK126.out 1).trans rfl
                  have hfs146 := blk_frozen BK126.out 1
                  have hns146_0 := NB114_126.out
                  have hns146_1 := NB115_126.out
                  have hns146_2 := NB116_126.out
                  have hns146_3 := NB123_126.out
                  have hns146_4 := NB124_126.out
                  have hns146_5 := NB125_126.out
                  have hms146_0 := NB126_114.out
                  have hms146_1 := NB126_115.out
                  have hms146_2 := NB126_116.out
                  have hms146_3 := NB126_123.out
                  have hms146_4 := NB126_124.out
                  have hms146_5 := NB126_125.out
                  refine skip_ (w1 := ?_) (by rfl) rfl ?_ ?_
                  rotate_left
                  · go_simp
                    rfl
                  refine hK.out _ _ ⟨((cell_far (p := ⟨gb126, _, none⟩) NB123_126.out _).trans (hHeld.1)), ((cell_far (p := ⟨gb126, _, none⟩) NB123_126.out _).trans (hHeld.2.1)), ((cell_far (p := ⟨gb126, _, none⟩) NB124_126.out _).trans (hHeld.2.2.1)), ((cell_far (p := ⟨gb126, _, none⟩) NB124_126.out _).trans (hHeld.2.2.2))⟩ (fun hHeld => ?_)
                  clear hK K
                  refine done_ (done_of HT_.out (by kernel_rfl)) ?_
                  try go_wp2_with (first | ((with_reducible refine wp_loop_rounds 9 ?_)) | ((with_reducible refine of_rounds ?_)))
                  have n0_ : Aside0 ((w145.setCell ⟨gb126, 1, none⟩ (.int .i64 t128)).heap[gb114]? = some (.cells #[.int .i64 a0_0, .int .i64 a0_1] 29 (0, 0))) := ⟨by (with_reducible repeat (first | refine blk_drewN ?_ _ | refine blk_drew ?_ | refine blk_alloc ?_ _)); refine blk_far ?_ NB114_126.out _; (with_reducible repeat (first | refine blk_drewN ?_ _ | refine blk_drew ?_ | refine blk_alloc ?_ _)); exact BK114.out⟩
                  have n1_ : Aside0 ((w145.setCell ⟨gb126, 1, none⟩ (.int .i64 t128)).heap[gb115]? = some (.cells #[.int .i64 a1_0, .int .i64 a1_1] 29 (0, 0))) := ⟨by (with_reducible repeat (first | refine blk_drewN ?_ _ | refine blk_drew ?_ | refine blk_alloc ?_ _)); refine blk_far ?_ NB115_126.out _; (with_reducible repeat (first | refine blk_drewN ?_ _ | refine blk_drew ?_ | refine blk_alloc ?_ _)); exact BK115.out⟩
                  have n2_ : Aside0 ((w145.setCell ⟨gb126, 1, none⟩ (.int .i64 t128)).heap[gb116]? = some (.cells #[.int .i64 0, .int .i64 0] 29 (0, 0))) := ⟨by (with_reducible repeat (first | refine blk_drewN ?_ _ | refine blk_drew ?_ | refine blk_alloc ?_ _)); refine blk_far ?_ NB116_126.out _; (with_reducible repeat (first | refine blk_drewN ?_ _ | refine blk_drew ?_ | refine blk_alloc ?_ _)); exact BK116.out⟩
                  have n3_ : Aside0 ((w145.setCell ⟨gb126, 1, none⟩ (.int .i64 t128)).heap[gb123]? = some (.cells #[.int .i64 t117, .int .i64 t118] 54 (0, 0))) := ⟨by (with_reducible repeat (first | refine blk_drewN ?_ _ | refine blk_drew ?_ | refine blk_alloc ?_ _)); refine blk_far ?_ NB123_126.out _; (with_reducible repeat (first | refine blk_drewN ?_ _ | refine blk_drew ?_ | refine blk_alloc ?_ _)); exact BK123.out⟩
                  have n4_ : Aside0 ((w145.setCell ⟨gb126, 1, none⟩ (.int .i64 t128)).heap[gb124]? = some (.cells #[.int .i64 t119, .int .i64 t120] 54 (0, 0))) := ⟨by (with_reducible repeat (first | refine blk_drewN ?_ _ | refine blk_drew ?_ | refine blk_alloc ?_ _)); refine blk_far ?_ NB124_126.out _; (with_reducible repeat (first | refine blk_drewN ?_ _ | refine blk_drew ?_ | refine blk_alloc ?_ _)); exact BK124.out⟩
                  have n5_ : Aside0 ((w145.setCell ⟨gb126, 1, none⟩ (.int .i64 t128)).heap[gb125]? = some (.cells #[.int .i64 t121, .int .i64 t122] 54 (0, 0))) := ⟨by (with_reducible repeat (first | refine blk_drewN ?_ _ | refine blk_drew ?_ | refine blk_alloc ?_ _)); refine blk_far ?_ NB125_126.out _; (with_reducible repeat (first | refine blk_drewN ?_ _ | refine blk_drew ?_ | refine blk_alloc ?_ _)); exact BK125.out⟩
                  have n6_ : Aside0 ((w145.setCell ⟨gb126, 1, none⟩ (.int .i64 t128)).heap[gb126]? = some (.cells #[.int .i64 x127000_57, .int .i64 t128] 54 (0, 0))) := ⟨by (with_reducible repeat (first | refine blk_drewN ?_ _ | refine blk_drew ?_ | refine blk_alloc ?_ _)); refine blk_put (cs := #[.int .i64 x127000_57, .int .i64 x127001_57]) ?_ 1 _ rfl; (with_reducible repeat (first | refine blk_drewN ?_ _ | refine blk_drew ?_ | refine blk_alloc ?_ _)); exact BK126.out⟩
                  have n7_ : Aside0 (Below w.heap.size w (w145.setCell ⟨gb126, 1, none⟩ (.int .i64 t128))) := ⟨by repeat (first | (with_reducible first | exact HB.out | apply below_alloc | apply pw_below_drewN | apply below_drew1 | refine below_set ?_ GE114.out | refine below_set ?_ GE115.out | refine below_set ?_ GE116.out | refine below_set ?_ GE123.out | refine below_set ?_ GE124.out | refine below_set ?_ GE125.out | refine below_set ?_ GE126.out) | exact HB.out)⟩
                  (try clear BK114)
                  (try clear BK115)
                  (try clear BK116)
                  (try clear BK123)
                  (try clear BK124)
                  (try clear BK125)
                  (try clear BK126)
                  (try clear HB)
                  generalize (w145.setCell ⟨gb126, 1, none⟩ (.int .i64 t128)) = w147 at n0_ n1_ n2_ n3_ n4_ n5_ n6_ n7_ ⊢
                  have BK114 := n0_
                  have BK115 := n1_
                  have BK116 := n2_
                  have BK123 := n3_
                  have BK124 := n4_
                  have BK125 := n5_
                  have BK126 := n6_
                  have HB := n7_
                  clear n0_ n1_ n2_ n3_ n4_ n5_ n6_ n7_
                  have n0_ := Aside0.mk (blk_drew BK114.out)
                  have n1_ := Aside0.mk (blk_drew BK115.out)
                  have n2_ := Aside0.mk (blk_drew BK116.out)
                  have n3_ := Aside0.mk (blk_drew BK123.out)
                  have n4_ := Aside0.mk (blk_drew BK124.out)
                  have n5_ := Aside0.mk (blk_drew BK125.out)
                  have n6_ := Aside0.mk (blk_drew BK126.out)
                  have n7_ := Aside0.mk (below_drew1 HB.out)
                  clear BK114
                  clear BK115
                  clear BK116
                  clear BK123
                  clear BK124
                  clear BK125
                  clear BK126
                  clear HB
                  have BK114 := n0_
                  have BK115 := n1_
                  have BK116 := n2_
                  have BK123 := n3_
                  have BK124 := n4_
                  have BK125 := n5_
                  have BK126 := n6_
                  have HB := n7_
                  clear n0_ n1_ n2_ n3_ n4_ n5_ n6_ n7_
                  refine start_ (n := 16) (S := fun w' => w'.cell? ⟨gb123, 0, none⟩ = some (.int .i64 t117) ∧ w'.cell? ⟨gb123, 1, none⟩ = some (.int .i64 t118) ∧ w'.cell? ⟨gb125, 0, none⟩ = some (.int .i64 t121) ∧ w'.cell? ⟨gb125, 1, none⟩ = some (.int .i64 t122) ∧ w'.cell? ⟨gb124, 0, none⟩ = some (.int .i64 t119) ∧ w'.cell? ⟨gb124, 1, none⟩ = some (.int .i64 t120)) (ds := []) #[false, false, false, false, false, false, false, false, false, false, false, false, false, false, false, false] (by kernel_rfl) rfl rfl ⟨(blk_cell BK123.out 0).trans rfl, (blk_cell BK123.out 1).trans rfl, (blk_cell BK125.out 0).trans rfl, (blk_cell BK125.out 1).trans rfl, (blk_cell BK124.out 0).trans rfl, (blk_cell BK124.out 1).trans rfl⟩ (fun hHeld => ?_); refine with_tabW span_Plus.tab9 span_Plus.bits9 (fun HT_ HW_ => ?_)
                  generalize w147.drew = w148 at BK114 BK115 BK116 BK123 BK124 BK125 BK126 HB hHeld ⊢
                  refine pure_ (i := 0) (N := some 37) (v := ?_) (a' := ?_) #[true, false, false, false, false, false, false, false, false, false, false, false, false, false, false, false] rfl rfl (any_of HT_.out (by kernel_rfl)) (fun _ _ _ h => h) (Or.inl ⟨by rfl, ?_⟩) ?_ ?_
                  rotate_left
                  · intro w'
                    go_simp
                    with_reducible rfl
                  rotate_left
                  · simp only [Act.put, List.setIfInBounds_toArray, List.set_cons_zero, List.set_cons_succ, i64_w, i32_w]
                    rfl
                  refine pure_ (i := 1) (N := some 38) (v := ?_) (a' := ?_) #[true, true, false, false, false, false, false, false, false, false, false, false, false, false, false, false] rfl rfl (any_of HT_.out (by kernel_rfl)) (fun _ _ _ h => h) (Or.inl ⟨by rfl, ?_⟩) ?_ ?_
                  rotate_left
                  · intro w'
                    go_simp
                    with_reducible rfl
                  rotate_left
                  · simp only [Act.put, List.setIfInBounds_toArray, List.set_cons_zero, List.set_cons_succ, i64_w, i32_w]
                    rfl
                  refine pure_ (i := 3) (N := some 40) (v := ?_) (a' := ?_) #[true, true, false, true, false, false, false, false, false, false, false, false, false, false, false, false] rfl rfl (any_of HT_.out (by kernel_rfl)) (fun _ _ _ h => h) (Or.inl ⟨by rfl, ?_⟩) ?_ ?_
                  rotate_left
                  · intro w'
                    go_simp
                    with_reducible rfl
                  rotate_left
                  · simp only [Act.put, List.setIfInBounds_toArray, List.set_cons_zero, List.set_cons_succ, i64_w, i32_w]
                    rfl
                  refine pure_ (i := 4) (N := some 41) (v := ?_) (a' := ?_) #[true, true, false, true, true, false, false, false, false, false, false, false, false, false, false, false] rfl rfl (any_of HT_.out (by kernel_rfl)) (fun _ _ _ h => h) (Or.inl ⟨by rfl, ?_⟩) ?_ ?_
                  rotate_left
                  · intro w'
                    go_simp
                    with_reducible rfl
                  rotate_left
                  · simp only [Act.put, List.setIfInBounds_toArray, List.set_cons_zero, List.set_cons_succ, i64_w, i32_w]
                    rfl
                  refine take_ (i := 2) (N := some 39) (v := ?_) (a' := ?_) #[true, true, true, true, true, false, false, false, false, false, false, false, false, false, false, false] rfl rfl (take_ofW HT_.out HW_.out (by kernel_rfl)) (fun _ _ _ h => h) (Or.inl ⟨by rfl, ?_⟩) hHeld ?_ ?_
                  rotate_left
                  · rintro w' ⟨s0, s1, s2, s3, s4, s5⟩
                    go_simp
                    with_reducible rfl
                  rotate_left
                  · simp only [Act.put, List.setIfInBounds_toArray, List.set_cons_zero, List.set_cons_succ, i64_w, i32_w]
                    rfl
                  refine take_ (i := 5) (N := some 42) (v := ?_) (a' := ?_) #[true, true, true, true, true, true, false, false, false, false, false, false, false, false, false, false] rfl rfl (take_ofW HT_.out HW_.out (by kernel_rfl)) (fun _ _ _ h => h) (Or.inl ⟨by rfl, ?_⟩) hHeld ?_ ?_
                  rotate_left
                  · rintro w' ⟨s0, s1, s2, s3, s4, s5⟩
                    go_simp
                    with_reducible rfl
                  rotate_left
                  · simp only [Act.put, List.setIfInBounds_toArray, List.set_cons_zero, List.set_cons_succ, i64_w, i32_w]
                    rfl
                  refine pure_ (i := 6) (N := some 43) (v := ?_) (a' := ?_) #[true, true, true, true, true, true, true, false, false, false, false, false, false, false, false, false] rfl rfl (any_of HT_.out (by kernel_rfl)) (fun _ _ _ h => h) (Or.inl ⟨by rfl, ?_⟩) ?_ ?_
                  rotate_left
                  · intro w'
                    go_simp
                    with_reducible rfl
                  rotate_left
                  · simp only [Act.put, List.setIfInBounds_toArray, List.set_cons_zero, List.set_cons_succ, i64_w, i32_w]
                    rfl
                  refine pure_ (i := 7) (N := some 44) (v := ?_) (a' := ?_) #[true, true, true, true, true, true, true, true, false, false, false, false, false, false, false, false] rfl rfl (any_of HT_.out (by kernel_rfl)) (fun _ _ _ h => h) (Or.inl ⟨by rfl, ?_⟩) ?_ ?_
                  rotate_left
                  · intro w'
                    go_simp
                    with_reducible rfl
                  rotate_left
                  · simp only [Act.put, List.setIfInBounds_toArray, List.set_cons_zero, List.set_cons_succ, i64_w, i32_w]
                    rfl
                  refine pure_ (i := 8) (N := some 45) (v := ?_) (a' := ?_) #[true, true, true, true, true, true, true, true, true, false, false, false, false, false, false, false] rfl rfl (any_of HT_.out (by kernel_rfl)) (fun _ _ _ h => h) (Or.inl ⟨by rfl, ?_⟩) ?_ ?_
                  rotate_left
                  · intro w'
                    go_simp
                    with_reducible rfl
                  rotate_left
                  · simp only [Act.put, List.setIfInBounds_toArray, List.set_cons_zero, List.set_cons_succ, i64_w, i32_w]
                    rfl
                  refine pure_ (i := 9) (N := some 46) (v := ?_) (a' := ?_) #[true, true, true, true, true, true, true, true, true, true, false, false, false, false, false, false] rfl rfl (any_of HT_.out (by kernel_rfl)) (fun _ _ _ h => h) (Or.inl ⟨by rfl, ?_⟩) ?_ ?_
                  rotate_left
                  · intro w'
                    go_simp
                    with_reducible rfl
                  rotate_left
                  · simp only [Act.put, List.setIfInBounds_toArray, List.set_cons_zero, List.set_cons_succ, i64_w, i32_w]
                    rfl
                  refine pure_ (i := 11) (N := some 48) (v := ?_) (a' := ?_) #[true, true, true, true, true, true, true, true, true, true, false, true, false, false, false, false] rfl rfl (any_of HT_.out (by kernel_rfl)) (fun _ _ _ h => h) (Or.inl ⟨by rfl, ?_⟩) ?_ ?_
                  rotate_left
                  · intro w'
                    go_simp
                    with_reducible rfl
                  rotate_left
                  · simp only [Act.put, List.setIfInBounds_toArray, List.set_cons_zero, List.set_cons_succ, i64_w, i32_w]
                    rfl
                  refine pure_ (i := 12) (N := some 49) (v := ?_) (a' := ?_) #[true, true, true, true, true, true, true, true, true, true, false, true, true, false, false, false] rfl rfl (any_of HT_.out (by kernel_rfl)) (fun _ _ _ h => h) (Or.inl ⟨by rfl, ?_⟩) ?_ ?_
                  rotate_left
                  · intro w'
                    go_simp
                    with_reducible rfl
                  rotate_left
                  · simp only [Act.put, List.setIfInBounds_toArray, List.set_cons_zero, List.set_cons_succ, i64_w, i32_w]
                    rfl
                  refine take_ (i := 10) (N := some 47) (v := ?_) (a' := ?_) #[true, true, true, true, true, true, true, true, true, true, true, true, true, false, false, false] rfl rfl (take_ofW HT_.out HW_.out (by kernel_rfl)) (fun _ _ _ h => h) (Or.inl ⟨by rfl, ?_⟩) hHeld ?_ ?_
                  rotate_left
                  · rintro w' ⟨s0, s1, s2, s3, s4, s5⟩
                    go_simp
                    with_reducible rfl
                  rotate_left
                  · simp only [Act.put, List.setIfInBounds_toArray, List.set_cons_zero, List.set_cons_succ, i64_w, i32_w]
                    rfl
                  refine take_ (i := 13) (N := some 50) (v := ?_) (a' := ?_) #[true, true, true, true, true, true, true, true, true, true, true, true, true, true, false, false] rfl rfl (take_ofW HT_.out HW_.out (by kernel_rfl)) (fun _ _ _ h => h) (Or.inl ⟨by rfl, ?_⟩) hHeld ?_ ?_
                  rotate_left
                  · rintro w' ⟨s0, s1, s2, s3, s4, s5⟩
                    go_simp
                    with_reducible rfl
                  rotate_left
                  · simp only [Act.put, List.setIfInBounds_toArray, List.set_cons_zero, List.set_cons_succ, i64_w, i32_w]
                    rfl
                  refine pure_ (i := 14) (N := some 51) (v := ?_) (a' := ?_) #[true, true, true, true, true, true, true, true, true, true, true, true, true, true, true, false] rfl rfl (any_of HT_.out (by kernel_rfl)) (fun _ _ _ h => h) (Or.inl ⟨by rfl, ?_⟩) ?_ ?_
                  rotate_left
                  · intro w'
                    go_simp
                    with_reducible rfl
                  rotate_left
                  · simp only [Act.put, List.setIfInBounds_toArray, List.set_cons_zero, List.set_cons_succ, i64_w, i32_w]
                    rfl
                  refine pure_ (i := 15) (N := some 52) (v := ?_) (a' := ?_) #[true, true, true, true, true, true, true, true, true, true, true, true, true, true, true, true] rfl rfl (any_of HT_.out (by kernel_rfl)) (fun _ _ _ h => h) (Or.inl ⟨by rfl, ?_⟩) ?_ ?_
                  rotate_left
                  · intro w'
                    go_simp
                    with_reducible rfl
                  rotate_left
                  · simp only [Act.put, List.setIfInBounds_toArray, List.set_cons_zero, List.set_cons_succ, i64_w, i32_w]
                    rfl
                  refine done_ (done_of HT_.out (by kernel_rfl)) ?_
                  try go_wp2_with (first | ((with_reducible refine wp_loop_rounds 9 ?_)) | ((with_reducible refine of_rounds ?_)))
                  go_meet
                  case rel => exact ⟨_, (x127000_57), (t128), H', ⟨by have := HJ5.out; have := HJ57.out; first | omega | exact Nat.le_refl _⟩, ⟨by (with_reducible repeat (first | refine blk_drewN ?_ _ | refine blk_drew ?_ | refine blk_alloc ?_ _)); exact BK114.out⟩, ⟨by (with_reducible repeat (first | refine blk_drewN ?_ _ | refine blk_drew ?_ | refine blk_alloc ?_ _)); exact BK115.out⟩, ⟨by (with_reducible repeat (first | refine blk_drewN ?_ _ | refine blk_drew ?_ | refine blk_alloc ?_ _)); exact BK116.out⟩, ⟨by (with_reducible repeat (first | refine blk_drewN ?_ _ | refine blk_drew ?_ | refine blk_alloc ?_ _)); exact BK123.out⟩, ⟨by (with_reducible repeat (first | refine blk_drewN ?_ _ | refine blk_drew ?_ | refine blk_alloc ?_ _)); exact BK124.out⟩, ⟨by (with_reducible repeat (first | refine blk_drewN ?_ _ | refine blk_drew ?_ | refine blk_alloc ?_ _)); exact BK125.out⟩, ⟨by (with_reducible repeat (first | refine blk_drewN ?_ _ | refine blk_drew ?_ | refine blk_alloc ?_ _)); exact BK126.out⟩, ⟨by repeat (first | (with_reducible first | exact HB.out | apply below_alloc | apply pw_below_drewN | apply below_drew1 | refine below_set ?_ GE114.out | refine below_set ?_ GE115.out | refine below_set ?_ GE116.out | refine below_set ?_ GE123.out | refine below_set ?_ GE124.out | refine below_set ?_ GE125.out | refine below_set ?_ GE126.out) | exact HB.out)⟩⟩
            case rest =>
              clear HC104
              try clear c1
              try clear c2
              try clear p2
              try clear p6
              try clear c12
              try clear c13
              try clear c14
              try clear c27
              try clear p64
              try clear c125
              try clear c125b0
              try clear c125b1
              try clear c131
              try clear c132
              try clear c133
              try clear c134
              try clear c135
              try clear c136
              try clear c138
              try clear c139
              try clear c140
              try clear c141
              try clear c142
              try clear hcz137_0
              try clear hcz137_1
              try clear hcz143_0
              try clear hcz143_1
              try clear hfz137_0
              try clear hfz137_1
              try clear hfz143_0
              try clear hfz143_1
              obtain ⟨kq, x127000_103, x127001_103, HA, HJ103, BK114, BK115, BK116, BK123, BK124, BK125, BK126, HB⟩ := hcut
              cases kq with
              | zero => exact absurd HA.out (by simp [span_Plus.j2])
              | succ kj103 =>
                have H := HA.out
                clear HA
                simp only [span_Plus.j2] at H
                simp only [Option.some.injEq, Prod.mk.injEq] at H
                obtain ⟨rfl, rfl⟩ := H
                have hnb149 := NB126_114.out
                have hnc149 := NB114_126.out
                have hnb150 := NB126_115.out
                have hnc150 := NB115_126.out
                have hnb151 := NB126_116.out
                have hnc151 := NB116_126.out
                have hnb152 := NB126_123.out
                have hnc152 := NB123_126.out
                have hnb153 := NB126_124.out
                have hnc153 := NB124_126.out
                have hnb154 := NB126_125.out
                have hnc154 := NB125_126.out
                have hcz155_0 : wc.cell? ⟨gb126, 0, none⟩ = some (.int .i64 x127000_103) := (blk_cell BK126.out 0).trans rfl
                have hcz155_1 : wc.cell? ⟨gb126, 1, none⟩ = some (.int .i64 x127001_103) := (blk_cell BK126.out 1).trans rfl
                have hfz155_0 := blk_frozen BK126.out 0
                have hfz155_1 := blk_frozen BK126.out 1
                have hnb156 := NB116_114.out
                have hnc156 := NB114_116.out
                have hnb157 := NB116_115.out
                have hnc157 := NB115_116.out
                have hnb158 := NB116_123.out
                have hnc158 := NB123_116.out
                have hnb159 := NB116_124.out
                have hnc159 := NB124_116.out
                have hnb160 := NB116_125.out
                have hnc160 := NB125_116.out
                have hcz161_0 : wc.cell? ⟨gb116, 0, none⟩ = some (.int .i64 0) := (blk_cell BK116.out 0).trans rfl
                have hcz161_1 : wc.cell? ⟨gb116, 1, none⟩ = some (.int .i64 0) := (blk_cell BK116.out 1).trans rfl
                have hfz161_0 := blk_frozen BK116.out 0
                have hfz161_1 := blk_frozen BK116.out 1
                go_wp2_with (first | ((with_reducible refine wp_loop_rounds 9 ?_)) | ((with_reducible refine of_rounds ?_)))
                refine bodyPost_ret (results_cell_row rfl _ _ gb116 29 #[.int .i64 x127000_103, .int .i64 x127001_103] (0, 0) _ rfl (by (with_reducible repeat (first | refine blk_drewN ?_ _ | refine blk_drew ?_ | refine blk_alloc ?_ _)); refine blk_put (cs := #[.int .i64 x127000_103, .int .i64 0]) ?_ 1 _ rfl; (with_reducible repeat (first | refine blk_drewN ?_ _ | refine blk_drew ?_ | refine blk_alloc ?_ _)); refine blk_put (cs := #[.int .i64 0, .int .i64 0]) ?_ 0 _ rfl; (with_reducible repeat (first | refine blk_drewN ?_ _ | refine blk_drew ?_ | refine blk_alloc ?_ _)); exact BK116.out) Try.underlying29 rfl (by kernel_rfl)) rfl ?_
                exact ⟨by first | rfl | (simp [errW_none, errW_some] <;> rfl) | (simp [*, errW_none, errW_some] <;> rfl), by repeat (first | (with_reducible first | exact HB.out | apply below_alloc | apply pw_below_drewN | apply below_drew1 | refine below_set ?_ GE114.out | refine below_set ?_ GE115.out | refine below_set ?_ GE116.out | refine below_set ?_ GE123.out | refine below_set ?_ GE124.out | refine below_set ?_ GE125.out | refine below_set ?_ GE126.out) | exact HB.out)⟩


end Go.Proofs.Ytfbcilmiagmijaa.PSpanL
