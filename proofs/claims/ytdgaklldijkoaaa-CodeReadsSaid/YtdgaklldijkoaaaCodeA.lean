import Derived.Test.YtdgaklldijkoaaaPCodex0
import Derived.BigQuiet
import Derived.IntWalk
import Derived.WalkMore
import Derived.Laws.EntriesVeiled
import Derived.StillTailTactics
namespace Go.Proofs.Ytdgaklldijkoaaa.PCode
open Go.RowKit Go.Proofs.YtdgaklldijkoaaaW.PrintWords Go.Proofs.YtdgaklldijkoaaaW.PrintLast Go.Proofs.YtdgaklldijkoaaaW.PrintMore
attribute [local go_sem] max2_int min2_int max_two min_two max_three min_three max_four min_four
set_option linter.unusedVariables false
set_option linter.unusedSimpArgs false
/-! Bytes of a number, the lowest first; the writer. -/
def le : Nat → Int → List Int
  | 0, _ => []
  | k + 1, u => u % 256 :: le k (u / 256)
theorem le_len : ∀ (k : Nat) (u : Int), (le k u).length = k
  | 0, _ => rfl
  | k + 1, u => by rw [le, List.length_cons, le_len k]
/-- Blocks of other types are as they were. -/
def Fr (S : List Nat) (w w' : World) : Prop := w.heap.size ≤ w'.heap.size ∧ ∀ i, i < w.heap.size → (∀ cs t z, w.heap[i]? = some (.cells cs t z) → t ∉ S) → w'.heap[i]? = w.heap[i]?
section
variable {S : List Nat} {w w1 w2 : World}
theorem Fr.of_below (h : Below w.heap.size w w1) (S : List Nat) : Fr S w w1 := ⟨h.size, fun i hi _ => h.block i hi⟩
theorem Fr.then_ (h : Fr S w w1) (k : Fr S w1 w2) : Fr S w w2 := ⟨Nat.le_trans h.1 k.1, fun i hi ht => (k.2 i (Nat.lt_of_lt_of_le hi h.1) (fun cs t z hc => ht cs t z ((h.2 i hi ht).symm.trans hc))).trans (h.2 i hi ht)⟩
theorem Fr.cells {g t : Nat} {cs : Array Value} {z : Nat × Nat} (h : Fr S w w1) (hb : w.heap[g]? = some (.cells cs t z)) (ht : t ∉ S) : w1.heap[g]? = some (.cells cs t z) :=
  (h.2 g (blk_lt hb) (fun cs' t' z' hc => by rw [hb] at hc; injection hc with hc; injection hc with _ h2 _; rw [← h2]; exact ht)).trans hb
theorem R_fr {α : Type} {d : Kd α} {e base : Nat} {ok : Nat → Prop} {v : Value} {xs : List α} (h : d.R e w base ok v xs) (hf : Fr S w w1) (ht : ∀ q, q ∈ e :: d.E → q ∉ S) : d.R e w1 base ok v xs :=
  Kd.R_mono (Kd.R_step (Kd.R_bound h) (fun k hk hlt => by
    obtain ⟨_, _, _, q, hq, cells, hc⟩ := hk
    rw [hc]
    exact hf.cells hc (ht q hq))) (fun _ hk => hk.1)
end
theorem Fr.of_grown {S : List Nat} {W W1 : World} {row : Option Nat} (hg : W.grownBy W1 row) (h : ∀ k, row = some k → ∃ cs t z, W.heap[k]? = some (.cells cs t z) ∧ t ∈ S) : Fr S W W1 :=
  ⟨hg.size, fun i hi ht => hg.block i hi (fun e => by
    obtain ⟨cs, t, z, hc, hm⟩ := h i e.symm
    exact ht cs t z hc hm)⟩
theorem Fr.set {S : List Nat} {W : World} {g j t : Nat} {cs : Array Value} {z : Nat × Nat} {v : Value} (hb : W.heap[g]? = some (.cells cs t z)) (ht : t ∈ S) : Fr S W (W.setCell ⟨g, j, none⟩ v) :=
  ⟨by simp [World.setCell], fun i hi hn => Below.heap_setCell W ⟨g, j, none⟩ v i (fun e => by
    have e' : i = g := e
    subst e'
    exact hn cs t z hb ht)⟩
/-- The writer's box: what is written. -/
def WB (w0 w : World) (g : Nat) (bs : List Int) : Prop := ∃ v : Value, w.heap[g]? = some (.cells #[v] 49 (0, 0)) ∧ Kd.R (Kd.int .u8) 5 w w0.heap.size (fun _ => True) v bs ∧ w0.heap.size ≤ g ∧ Below w0.heap.size w0 w
theorem WB.below {w0 w w' : World} {g : Nat} {bs : List Int} (h : WB w0 w g bs) (hb : Below w.heap.size w w') : WB w0 w' g bs := by
  obtain ⟨v, a, r, b, c⟩ := h
  exact ⟨v, blk_below a hb, Kd.R_below r hb, b, below_step c hb⟩
theorem WB.at {w0 w : World} {g : Nat} {bs : List Int} (h : WB w0 w g bs) : Below w0.heap.size w0 w := h.choose_spec.2.2.2
set_option maxHeartbeats 4000000 in
set_option maxRecDepth 100000 in
theorem low_any {w0 w : World} {g : Nat} {bs : List Int} (u : Int) (k : Nat) (h : WB w0 w g bs) (hu : 0 ≤ u ∧ u < 18446744073709551616) (hk : k ≤ 8) (hl : bs.length ≤ 1000000000) :
    Calls Try.prog 59 #[.pointer (some ⟨g, 0, none⟩), .int .u64 u, .int .i64 (k : Int)] w fun e w' => e = .returned (.tuple #[]) ∧ WB w0 w' g (bs ++ le k u) ∧ Fr [49, 5] w w' := by
  have HW := Aside0.mk h
  have HF := Aside0.mk (Fr.of_below (Below.refl w.heap.size w) [49, 5])
  have HL := Aside0.mk hl
  have hk8 : (k : Int) ≤ 8 := by omega
  obtain ⟨hu0, hu1⟩ := hu
  clear h hl hk
  go_enter Try.func59, Try.ntmps59
  go_wp2_with (fail)
  go_loopw [1, 7] (fun v1 v7 wx => ∃ (i : Nat) (x : Int) (cs : List Int), v1 = .int .u64 x ∧ v7 = .int .i64 (i : Int) ∧ i ≤ k ∧ 0 ≤ x ∧ x < 18446744073709551616 ∧ Aside0 (cs.length ≤ bs.length + i) ∧ Aside0 (cs ++ le (k - i) x = bs ++ le k u) ∧ Aside0 (WB w0 wx g cs) ∧ Aside0 (Fr [49, 5] w wx)) (fun _ v7 _ => k - (intOf v7).toNat)
  case atStart => exact ⟨0, u, bs, rfl, rfl, Nat.zero_le _, hu0, hu1, ⟨Nat.le_refl _⟩, ⟨rfl⟩, HW, HF⟩
  case round =>
    clear HW HF
    obtain ⟨i, x, cs, rfl, rfl, hik, h0, h1, HCL, HE, HW, HF⟩ := hrel
    by_cases hlt : i < k
    · have hltb : decide (i < k) = true := decide_eq_true hlt
      have HI := Aside0.mk hlt
      have hi8 : (i : Int) ≤ 8 := by omega
      obtain ⟨v, hb, ho, hge, hbel⟩ := HW.out
      obtain ⟨A, c, rfl⟩ := Kd.R_slice ho
      have BK := Aside0.mk hb
      have HO := Aside0.mk ho
      have GE := Aside0.mk hge
      have HB := Aside0.mk hbel
      have hc0 : wr.cell? ⟨g, 0, none⟩ = some (.slice A cs.length c) := (blk_cell hb 0).trans rfl
      clear hb ho hge hbel HW hik
      go_upto_region 3 with (first
        | ((with_reducible refine gate_builtin (b := .append) (xs := #[.tmp 13, .tmp 16]) rfl ?_); at_builtin; refine Kd.R_append (Kd.int .u8) (w0 := w0) w0.heap.size rfl (.tmp 13) (.tmp 16) 32 5 (.int .u8 0) 1 rfl Try.underlying32 info5 rfl (by decide) (by omega) (.slice A cs.length c) cs (x % 256) [.int .u8 (x % 256)] (fun _ => True) (fun _ => False) rfl rfl ?aP (fun _ hk => hk.elim) ?aF ?aO ?aB ?aS ?aL ?_; (case aP => exact rfl); (case aB => exact HB.out); (case aF => exact (fun _ _ => trivial)); (case aO => exact HO.out); (case aS => exact (below_size HB.out)); (case aL => have := HCL.out; have := HL.out; omega); intro v17 w17 ho hb hg hat; obtain ⟨A4, c4, rfl⟩ := Kd.R_slice ho; have n0_ := Aside0.mk ((hg.block g (blk_lt BK.out) (Kd.R_ne HO.out BK.out (by decide))).trans BK.out); have n1_ := Aside0.mk ho; have n2_ := Aside0.mk hb; have n3_ := Aside0.mk (HF.out.then_ (Fr.of_grown (S := [49, 5]) hg (fun k hk => by obtain ⟨cells, hc⟩ := own_typed HO.out.2.choose_spec.1 k hk; exact ⟨cells, 5, (0, 0), hc, by simp⟩))); clear BK HO HB HF ho hb hg hat hc0; have BK := n0_; have HO := n1_; have HB := n2_; have HF := n3_; clear n0_ n1_ n2_ n3_; have hc1 : w17.cell? ⟨g, 0, none⟩ = some (.slice A cs.length c) := (blk_cell BK.out 0).trans rfl; have hf1 : w17.frozen? ⟨g, 0, none⟩ = false := blk_frozen BK.out 0))
      have el : (cs ++ [x % 256]).length = cs.length + 1 := by simp
      rw [el] at HO
      have n0_ : Aside0 (WB w0 (w17.setCell ⟨g, 0, none⟩ (.slice A4 (cs.length + 1) c4)) g (cs ++ [x % 256])) := Aside0.mk ⟨_, blk_put (cs' := #[(.slice A4 (cs.length + 1) c4)]) BK.out 0 (.slice A4 (cs.length + 1) c4) rfl, Kd.R_mono (Kd.R_far (Kd.R_types HO.out BK.out (by intro q hq; rcases List.mem_cons.1 hq with rfl | hq; exact (by decide); cases hq)) (p := ⟨g, 0, none⟩) (fun k hk => hk.2) (.slice A4 (cs.length + 1) c4)) (fun _ _ => trivial), GE.out, below_set HB.out GE.out⟩
      have n1_ := Aside0.mk (HF.out.then_ (Fr.set (j := 0) (v := (.slice A4 (cs.length + 1) c4)) BK.out (by simp)))
      clear BK HO HB GE HF hc1 hf1 el
      generalize (w17.setCell { block := g, off := 0 } (.slice A4 (cs.length + 1) c4)) = W1 at n0_ n1_ ⊢
      have HW := n0_
      have HF := n1_
      clear n0_ n1_
      go_wp2_with (fail)
      go_roundw
      case rel => exact ⟨i + 1, x / 256, cs ++ [x % 256], by go_num, by go_num, HI.out, by omega, by omega, ⟨by have := HCL.out; rw [List.length_append]; simp; omega⟩, ⟨by rw [← HE.out, List.append_assoc, show k - i = (k - (i + 1)) + 1 by have := HI.out; omega]; rfl⟩, HW, HF⟩
      case measure => have := HI.out; simp [intOf]; omega
    · have hltb : decide (i < k) = false := decide_eq_false hlt
      obtain rfl : i = k := by omega
      go_wp2_with (fail)
      go_end0
      refine ⟨rfl, ?_, HF.out⟩
      have e := HE.out
      rw [Nat.sub_self, le, List.append_nil] at e
      rw [← e]
      exact HW.out
/-! Numbers written. -/
def num8 (x : Int) : List Int := le 8 (IntKind.u64.wrap x)
def nums8 (l : List Int) : List Int := l.flatMap num8
theorem num8_len (x : Int) : (num8 x).length = 8 := le_len 8 _
theorem nums8_len : ∀ l : List Int, (nums8 l).length = 8 * l.length
  | [] => rfl
  | x :: l => by
    have h : nums8 (x :: l) = num8 x ++ nums8 l := rfl
    rw [h, List.length_append, num8_len, nums8_len l, List.length_cons]; omega
theorem nums8_append (a b : List Int) : nums8 (a ++ b) = nums8 a ++ nums8 b := List.flatMap_append
theorem u64_bd (x : Int) : 0 ≤ IntKind.u64.wrap x ∧ IntKind.u64.wrap x < 18446744073709551616 := by
  have e : IntKind.u64.wrap x = x % 18446744073709551616 := rfl
  rw [e]; omega
theorem take_snoc (l : List Int) {i : Nat} (h : i < l.length) : l.take (i + 1) = l.take i ++ [rd l (i : Int)] := by
  rw [List.take_add_one, List.getElem?_eq_getElem h]
  show _ ++ [l[i]] = _ ++ [l.getD (i : Int).toNat 0]
  rw [Int.toNat_natCast, List.getD_eq_getElem?_getD, List.getElem?_eq_getElem h]; rfl
/-- Numbers in a slice: they came in, or are the call's own. -/
def IL (w0 w : World) (A : Option Addr) (n c : Nat) (l : List Int) : Prop := n = l.length ∧ (Kd.C (Kd.int .i64) w0 A l.length l ∨ Kd.R (Kd.int .i64) 3 w w0.heap.size (fun _ => True) (.slice A n c) l)
theorem IL.at {w0 w : World} {A : Option Addr} {n c : Nat} {l : List Int} (h : IL w0 w A n c l) (hB : Below w0.heap.size w0 w) {i : Nat} (hi : i < n) : ∃ ad, A = some ad ∧ w.cell? (ad.add i) = some (.int .i64 (rd l (i : Int))) := by
  obtain ⟨rfl, h | h⟩ := h
  · exact Kd.at_int (Kd.C_below h hB) (i : Int) (by omega) (by omega)
  · exact Kd.at_int (Kd.R_reads' h).2.2 (i : Int) (by omega) (by omega)
theorem IL.fr {w0 w w' : World} {A : Option Addr} {n c : Nat} {l : List Int} (h : IL w0 w A n c l) (hf : Fr [49, 5] w w') : IL w0 w' A n c l :=
  ⟨h.1, h.2.imp id (fun r => R_fr r hf (by intro q hq; rcases List.mem_cons.1 hq with rfl | hq; exact (by decide); cases hq))⟩
theorem low8 {w0 w : World} {g : Nat} {bs : List Int} (u : Int) (h : WB w0 w g bs) (hu : 0 ≤ u ∧ u < 18446744073709551616) (hl : bs.length ≤ 1000000000) :
    Calls Try.prog 59 #[.pointer (some ⟨g, 0, none⟩), .int .u64 u, .int .i64 8] w fun e w' => e = .returned (.tuple #[]) ∧ WB w0 w' g (bs ++ le 8 u) ∧ Fr [49, 5] w w' := low_any u 8 h hu (by decide) hl
theorem low2 {w0 w : World} {g : Nat} {bs : List Int} (u : Int) (h : WB w0 w g bs) (hu : 0 ≤ u ∧ u < 18446744073709551616) (hl : bs.length ≤ 1000000000) :
    Calls Try.prog 59 #[.pointer (some ⟨g, 0, none⟩), .int .u64 u, .int .i64 2] w fun e w' => e = .returned (.tuple #[]) ∧ WB w0 w' g (bs ++ le 2 u) ∧ Fr [49, 5] w w' := low_any u 2 h hu (by decide) hl
set_option maxHeartbeats 4000000 in
set_option maxRecDepth 100000 in
theorem nums_any {w0 w : World} {g : Nat} {bs : List Int} {A : Option Addr} {n c : Nat} {l : List Int} (h : WB w0 w g bs) (hl : IL w0 w A n c l) (hb : bs.length + 8 * l.length ≤ 1000000000) :
    Calls Try.prog 25 #[.pointer (some ⟨g, 0, none⟩), .slice A n c] w fun e w' => e = .returned (.tuple #[]) ∧ WB w0 w' g (bs ++ nums8 l) ∧ Fr [49, 5] w w' := by
  obtain rfl : n = l.length := hl.1
  have HW := Aside0.mk h
  have HI := Aside0.mk hl
  have HF := Aside0.mk (Fr.of_below (Below.refl w.heap.size w) [49, 5])
  have HL := Aside0.mk hb
  have hn9 : (l.length : Int) ≤ 1000000000 := by omega
  clear h hl hb
  go_enter Try.func25, Try.ntmps25
  go_wp2_with (fail)
  go_loopw [5, 8] (fun v5 v8 wx => ∃ i : Nat, v8 = .int .i64 (i : Int) ∧ i ≤ l.length ∧ Aside0 (WB w0 wx g (bs ++ nums8 (l.take i))) ∧ Aside0 (IL w0 wx A l.length c l) ∧ Aside0 (Fr [49, 5] w wx)) (fun _ v8 _ => l.length - (intOf v8).toNat)
  case atStart => exact ⟨0, rfl, Nat.zero_le _, ⟨by rw [List.take_zero]; show WB _ _ _ (bs ++ []); rw [List.append_nil]; exact HW.out⟩, HI, HF⟩
  case round =>
    clear HW HI HF
    obtain ⟨i, rfl, hin, HW, HI, HF⟩ := hrel
    by_cases hlt : i < l.length
    · have hltb : decide (i < l.length) = true := decide_eq_true hlt
      have HI9 := Aside0.mk hlt
      have hi0 : (0 : Int) ≤ (i : Int) := by omega
      have hi1 : (i : Int) < (l.length : Int) := by omega
      obtain ⟨ad, e, hx⟩ := HI.out.at HW.out.at hlt
      subst e
      have HT : Aside0 (bs ++ nums8 (l.take (i + 1)) = bs ++ nums8 (l.take i) ++ le 8 (IntKind.u64.wrap (rd l (i : Int)))) := ⟨by rw [take_snoc l (by omega), nums8_append, List.append_assoc]; simp [nums8, num8]⟩
      have HLE : Aside0 ((bs ++ nums8 (l.take i)).length ≤ 1000000000) := ⟨by have := HL.out; rw [List.length_append, nums8_len, List.length_take]; omega⟩
      generalize rd l (i : Int) = x at hx HT
      have HU := Aside0.mk (u64_bd x)
      clear hin hlt
      go_wp2_with (first
        | (go_at_call 59; (with_reducible refine (low8 (IntKind.u64.wrap x) HW.out HU.out HLE.out).mono ?_); rintro e w59 ⟨rfl, hh, hf⟩; have n0_ := Aside0.mk hh; have n1_ := Aside0.mk (HI.out.fr hf); have n2_ := Aside0.mk (HF.out.then_ hf); clear HW HI HF hh hf; have HW := n0_; have HI := n1_; have HF := n2_; clear n0_ n1_ n2_))
      go_roundw
      case rel => exact ⟨i + 1, by go_num, HI9.out, ⟨by rw [HT.out]; exact HW.out⟩, HI, HF⟩
      case measure => have := HI9.out; simp [intOf]; omega
    · have hltb : decide (i < l.length) = false := decide_eq_false hlt
      obtain rfl : i = l.length := by omega
      go_wp2_with (fail)
      go_end0
      refine ⟨rfl, ?_, HF.out⟩
      have e := HW.out
      rw [List.take_of_length_le (by omega)] at e
      exact e

end Go.Proofs.Ytdgaklldijkoaaa.PCode
