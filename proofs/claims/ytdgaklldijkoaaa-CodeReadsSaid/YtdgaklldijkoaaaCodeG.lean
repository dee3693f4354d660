import Derived.Test.YtdgaklldijkoaaaPCodex0
import Derived.Test.YtdgaklldijkoaaaCodeF
import Derived.BigQuiet
import Derived.IntWalk
import Derived.WalkMore
import Derived.Laws.EntriesVeiled
import Derived.StillTailTactics
import Derived.Laws.BitsAllLaws
import Derived.Laws.BitsLemmas
namespace Go.Proofs.Ytdgaklldijkoaaa.PCode
open Go.RowKit Go.Proofs.YtdgaklldijkoaaaW.PrintWords Go.Proofs.YtdgaklldijkoaaaW.PrintLast Go.Proofs.YtdgaklldijkoaaaW.PrintMore
attribute [local go_sem] max2_int min2_int max_two min_two max_three min_three max_four min_four
set_option linter.unusedVariables false
set_option linter.unusedSimpArgs false
def uOf : Value → Int
  | .int _ n => n
  | _ => 0
theorem Byt.num {s : RS} (h : Byt s.1) : Byt (rnumS s).1 := h.get 8
theorem Fr.set_new {S : List Nat} {w w1 : World} {g j : Nat} {v : Value} (h : Fr S w w1) (hg : w.heap.size ≤ g) : Fr S w (w1.setCell ⟨g, j, none⟩ v) :=
  ⟨by rw [show (w1.setCell ⟨g, j, none⟩ v).heap.size = w1.heap.size by simp [World.setCell]]; exact h.1, fun i hi ht => (Below.heap_setCell w1 ⟨g, j, none⟩ v i (by show i ≠ g; omega)).trans (h.2 i hi ht)⟩
theorem Fr.grow_new {S : List Nat} {w w1 w2 : World} {row : Option Nat} (h : Fr S w w1) (hg : w1.grownBy w2 row) (hr : ∀ k, row = some k → w.heap.size ≤ k) : Fr S w w2 :=
  ⟨Nat.le_trans h.1 hg.size, fun i hi ht => (hg.block i (Nat.lt_of_lt_of_le hi h.1) (fun e => by have := hr i e.symm; omega)).trans (h.2 i hi ht)⟩
theorem RDB.set_new {w0 w : World} {g g2 j : Nat} {l : List Int} {cl : Int} {bad : Bool} {v : Value} (h : RDB w0 w g l cl bad) (hne : g ≠ g2) (h2 : w0.heap.size ≤ g2) : RDB w0 (w.setCell ⟨g2, j, none⟩ v) g l cl bad := by
  obtain ⟨A, c, a, b, d, e, f⟩ := h
  exact ⟨A, c, blk_far a (p := ⟨g2, j, none⟩) hne _, b, d, e, below_set f h2⟩
theorem RDB.ne {w0 w : World} {g g2 t : Nat} {cs : Array Value} {l : List Int} {cl : Int} {bad : Bool} (h : RDB w0 w g l cl bad) (k : w.heap[g2]? = some (.cells cs t (0, 0))) (ht : 73 ≠ t) : g ≠ g2 := by
  obtain ⟨A, c, a, _⟩ := h
  exact blk_ne a k ht
theorem RDB.grown {w0 w w' : World} {g : Nat} {l : List Int} {cl : Int} {bad : Bool} {row : Option Nat} (h : RDB w0 w g l cl bad) (hg : w.grownBy w' row) (hr : ∀ k, row = some k → ∃ cs t, w.heap[k]? = some (.cells cs t (0, 0)) ∧ t ≠ 73) (hb : Below w0.heap.size w0 w') : RDB w0 w' g l cl bad := by
  obtain ⟨A, c, a, b, d, e, f⟩ := h
  refine ⟨A, c, (hg.block g (blk_lt a) (fun q => ?_)).trans a, b, d, e, hb⟩
  obtain ⟨cs, t, hk, ht⟩ := hr g q.symm
  rw [a] at hk
  injection hk with hk
  injection hk with _ hk
  exact ht hk.symm
theorem info44 : (Try.prog.info? 44).map (fun i => (i.zero, i.size, i.bytes)) = some (some (.agg #[.int .i64 0, .int .i64 0, .int .i64 0]), 3, 24) := by kernel_rfl
theorem info46 : (Try.prog.info? 46).map (fun i => (i.zero, i.size, i.bytes)) = some (some (.agg #[.int .i64 0, .int .i64 0, .int .i64 0]), 3, 24) := by kernel_rfl
theorem info56 : (Try.prog.info? 56).map (fun i => (i.zero, i.size, i.bytes)) = some (some (.agg #[.int .i64 0, .int .i64 0]), 2, 16) := by kernel_rfl
theorem info65 : (Try.prog.info? 65).map (fun i => (i.zero, i.size, i.bytes)) = some (some (.agg #[.int .i64 0, .int .i64 0]), 2, 16) := by kernel_rfl
theorem info25 : (Try.prog.info? 25).map (fun i => (i.zero, i.size, i.bytes)) = some (some (.slice none 0 0), 1, 24) := by kernel_rfl

def of44 (l : List Int) : S44 := ⟨l.getD 0 0, l.getD 1 0, l.getD 2 0⟩

set_option maxHeartbeats 4000000 in
set_option maxRecDepth 100000 in
theorem row37 {w0 w : World} {g : Nat} {s : RS} {cl : Int} (h : RDS w0 w g s cl) (hB : Byt s.1) : Calls Try.prog 37 #[.pointer (some ⟨g, 0, none⟩)] w fun e w' => e = .returned (.agg #[.int .i64 (rnumV s), .int .i64 (rnumV (rnumS s)), .int .i64 (rnumV (rnumS (rnumS s)))]) ∧ RDS w0 w' g (rrowS 3 s) cl ∧ Fr [73] w w' := by
  have HR := Aside0.mk h
  have HY := Aside0.mk hB
  have HF := Aside0.mk (Fr.of_below (Below.refl w.heap.size w) [73])
  clear h hB
  go_enter Try.func37, Try.ntmps37
  go_wp2_with (first | ((with_reducible refine gate_dst (N := 2) rfl ?_); refine box_event ?hg (N := 2) ?hd (cs := #[.int .i64 0, .int .i64 0, .int .i64 0]) (t := 44) ?hr ?_; (case hd => rfl); (case hg => rfl); (case hr => first | (go_simp; done) | (go_simp; rfl)); intro g2 hg w2 hbox hb; have n0_ := Aside0.mk (HR.out.below hb); have n1_ := Aside0.mk (HF.out.then_ (Fr.of_below hb _)); have n2_ := Aside0.mk (hbox); have n3_ := Aside0.mk ((by rw [hg]; exact HF.out.1 : w.heap.size ≤ g2)); have n4_ := Aside0.mk ((by rw [hg]; exact below_size HR.out.at : w0.heap.size ≤ g2)); clear HR HF; have HR := n0_; have HF := n1_; have BK := n2_; have GW := n3_; have GE := n4_; clear n0_ n1_ n2_ n3_ n4_; clear hg hbox hb) | (go_at_call 42; (with_reducible refine (rnum_any HR.out HY.out).mono ?_); rintro e w42 ⟨rfl, hh, hf⟩; have n0_ := Aside0.mk hh; have n1_ := Aside0.mk (HF.out.then_ hf); have n2_ := Aside0.mk (hf.cells BK.out (by decide)); have n3_ := Aside0.mk (Byt.num HY.out); clear HR HF BK HY hh hf; have HR := n0_; have HF := n1_; have BK := n2_; have HY := n3_; clear n0_ n1_ n2_ n3_; have hcz0 : w42.cell? ⟨g2, 0, none⟩ = some (.int .i64 0) := (blk_cell BK.out 0).trans rfl; have hfz0 : w42.frozen? ⟨g2, 0, none⟩ = false := blk_frozen BK.out 0; have hcz1 : w42.cell? ⟨g2, 1, none⟩ = some (.int .i64 0) := (blk_cell BK.out 1).trans rfl; have hfz1 : w42.frozen? ⟨g2, 1, none⟩ = false := blk_frozen BK.out 1; have hcz2 : w42.cell? ⟨g2, 2, none⟩ = some (.int .i64 0) := (blk_cell BK.out 2).trans rfl; have hfz2 : w42.frozen? ⟨g2, 2, none⟩ = false := blk_frozen BK.out 2))
  have NE := Aside0.mk (RDB.ne HR.out BK.out (by decide))
  refine bodyPost_ret (results_cell_row rfl _ _ g2 44 #[.int .i64 (rnumV s), .int .i64 (rnumV (rnumS s)), .int .i64 (rnumV (rnumS (rnumS s)))] (0, 0) _ rfl (blk_put (blk_put (blk_put BK.out 0 (.int .i64 (rnumV s)) rfl) 1 (.int .i64 (rnumV (rnumS s))) rfl) 2 (.int .i64 (rnumV (rnumS (rnumS s)))) rfl) Try.underlying44 rfl (by kernel_rfl)) rfl ?_
  exact ⟨rfl, (RDB.set_new (j := 2) (v := .int .i64 (rnumV (rnumS (rnumS s)))) (RDB.set_new (j := 1) (v := .int .i64 (rnumV (rnumS s))) (RDB.set_new (j := 0) (v := .int .i64 (rnumV s)) HR.out NE.out GE.out) NE.out GE.out) NE.out GE.out), (Fr.set_new (j := 2) (v := .int .i64 (rnumV (rnumS (rnumS s)))) (Fr.set_new (j := 1) (v := .int .i64 (rnumV (rnumS s))) (Fr.set_new (j := 0) (v := .int .i64 (rnumV s)) HF.out GW.out) GW.out) GW.out)⟩

def of46 (l : List Int) : S46 := ⟨l.getD 0 0, l.getD 1 0, l.getD 2 0⟩

set_option maxHeartbeats 4000000 in
set_option maxRecDepth 100000 in
theorem row39 {w0 w : World} {g : Nat} {s : RS} {cl : Int} (h : RDS w0 w g s cl) (hB : Byt s.1) : Calls Try.prog 39 #[.pointer (some ⟨g, 0, none⟩)] w fun e w' => e = .returned (.agg #[.int .i64 (rnumV s), .int .i64 (rnumV (rnumS s)), .int .i64 (rnumV (rnumS (rnumS s)))]) ∧ RDS w0 w' g (rrowS 3 s) cl ∧ Fr [73] w w' := by
  have HR := Aside0.mk h
  have HY := Aside0.mk hB
  have HF := Aside0.mk (Fr.of_below (Below.refl w.heap.size w) [73])
  clear h hB
  go_enter Try.func39, Try.ntmps39
  go_wp2_with (first | ((with_reducible refine gate_dst (N := 2) rfl ?_); refine box_event ?hg (N := 2) ?hd (cs := #[.int .i64 0, .int .i64 0, .int .i64 0]) (t := 46) ?hr ?_; (case hd => rfl); (case hg => rfl); (case hr => first | (go_simp; done) | (go_simp; rfl)); intro g2 hg w2 hbox hb; have n0_ := Aside0.mk (HR.out.below hb); have n1_ := Aside0.mk (HF.out.then_ (Fr.of_below hb _)); have n2_ := Aside0.mk (hbox); have n3_ := Aside0.mk ((by rw [hg]; exact HF.out.1 : w.heap.size ≤ g2)); have n4_ := Aside0.mk ((by rw [hg]; exact below_size HR.out.at : w0.heap.size ≤ g2)); clear HR HF; have HR := n0_; have HF := n1_; have BK := n2_; have GW := n3_; have GE := n4_; clear n0_ n1_ n2_ n3_ n4_; clear hg hbox hb) | (go_at_call 42; (with_reducible refine (rnum_any HR.out HY.out).mono ?_); rintro e w42 ⟨rfl, hh, hf⟩; have n0_ := Aside0.mk hh; have n1_ := Aside0.mk (HF.out.then_ hf); have n2_ := Aside0.mk (hf.cells BK.out (by decide)); have n3_ := Aside0.mk (Byt.num HY.out); clear HR HF BK HY hh hf; have HR := n0_; have HF := n1_; have BK := n2_; have HY := n3_; clear n0_ n1_ n2_ n3_; have hcz0 : w42.cell? ⟨g2, 0, none⟩ = some (.int .i64 0) := (blk_cell BK.out 0).trans rfl; have hfz0 : w42.frozen? ⟨g2, 0, none⟩ = false := blk_frozen BK.out 0; have hcz1 : w42.cell? ⟨g2, 1, none⟩ = some (.int .i64 0) := (blk_cell BK.out 1).trans rfl; have hfz1 : w42.frozen? ⟨g2, 1, none⟩ = false := blk_frozen BK.out 1; have hcz2 : w42.cell? ⟨g2, 2, none⟩ = some (.int .i64 0) := (blk_cell BK.out 2).trans rfl; have hfz2 : w42.frozen? ⟨g2, 2, none⟩ = false := blk_frozen BK.out 2))
  have NE := Aside0.mk (RDB.ne HR.out BK.out (by decide))
  refine bodyPost_ret (results_cell_row rfl _ _ g2 46 #[.int .i64 (rnumV s), .int .i64 (rnumV (rnumS s)), .int .i64 (rnumV (rnumS (rnumS s)))] (0, 0) _ rfl (blk_put (blk_put (blk_put BK.out 0 (.int .i64 (rnumV s)) rfl) 1 (.int .i64 (rnumV (rnumS s))) rfl) 2 (.int .i64 (rnumV (rnumS (rnumS s)))) rfl) Try.underlying46 rfl (by kernel_rfl)) rfl ?_
  exact ⟨rfl, (RDB.set_new (j := 2) (v := .int .i64 (rnumV (rnumS (rnumS s)))) (RDB.set_new (j := 1) (v := .int .i64 (rnumV (rnumS s))) (RDB.set_new (j := 0) (v := .int .i64 (rnumV s)) HR.out NE.out GE.out) NE.out GE.out) NE.out GE.out), (Fr.set_new (j := 2) (v := .int .i64 (rnumV (rnumS (rnumS s)))) (Fr.set_new (j := 1) (v := .int .i64 (rnumV (rnumS s))) (Fr.set_new (j := 0) (v := .int .i64 (rnumV s)) HF.out GW.out) GW.out) GW.out)⟩

def of56 (l : List Int) : S56 := ⟨l.getD 0 0, l.getD 1 0⟩

set_option maxHeartbeats 4000000 in
set_option maxRecDepth 100000 in
theorem row41 {w0 w : World} {g : Nat} {s : RS} {cl : Int} (h : RDS w0 w g s cl) (hB : Byt s.1) : Calls Try.prog 41 #[.pointer (some ⟨g, 0, none⟩)] w fun e w' => e = .returned (.agg #[.int .i64 (rnumV s), .int .i64 (rnumV (rnumS s))]) ∧ RDS w0 w' g (rrowS 2 s) cl ∧ Fr [73] w w' := by
  have HR := Aside0.mk h
  have HY := Aside0.mk hB
  have HF := Aside0.mk (Fr.of_below (Below.refl w.heap.size w) [73])
  clear h hB
  go_enter Try.func41, Try.ntmps41
  go_wp2_with (first | ((with_reducible refine gate_dst (N := 2) rfl ?_); refine box_event ?hg (N := 2) ?hd (cs := #[.int .i64 0, .int .i64 0]) (t := 56) ?hr ?_; (case hd => rfl); (case hg => rfl); (case hr => first | (go_simp; done) | (go_simp; rfl)); intro g2 hg w2 hbox hb; have n0_ := Aside0.mk (HR.out.below hb); have n1_ := Aside0.mk (HF.out.then_ (Fr.of_below hb _)); have n2_ := Aside0.mk (hbox); have n3_ := Aside0.mk ((by rw [hg]; exact HF.out.1 : w.heap.size ≤ g2)); have n4_ := Aside0.mk ((by rw [hg]; exact below_size HR.out.at : w0.heap.size ≤ g2)); clear HR HF; have HR := n0_; have HF := n1_; have BK := n2_; have GW := n3_; have GE := n4_; clear n0_ n1_ n2_ n3_ n4_; clear hg hbox hb) | (go_at_call 42; (with_reducible refine (rnum_any HR.out HY.out).mono ?_); rintro e w42 ⟨rfl, hh, hf⟩; have n0_ := Aside0.mk hh; have n1_ := Aside0.mk (HF.out.then_ hf); have n2_ := Aside0.mk (hf.cells BK.out (by decide)); have n3_ := Aside0.mk (Byt.num HY.out); clear HR HF BK HY hh hf; have HR := n0_; have HF := n1_; have BK := n2_; have HY := n3_; clear n0_ n1_ n2_ n3_; have hcz0 : w42.cell? ⟨g2, 0, none⟩ = some (.int .i64 0) := (blk_cell BK.out 0).trans rfl; have hfz0 : w42.frozen? ⟨g2, 0, none⟩ = false := blk_frozen BK.out 0; have hcz1 : w42.cell? ⟨g2, 1, none⟩ = some (.int .i64 0) := (blk_cell BK.out 1).trans rfl; have hfz1 : w42.frozen? ⟨g2, 1, none⟩ = false := blk_frozen BK.out 1))
  have NE := Aside0.mk (RDB.ne HR.out BK.out (by decide))
  refine bodyPost_ret (results_cell_row rfl _ _ g2 56 #[.int .i64 (rnumV s), .int .i64 (rnumV (rnumS s))] (0, 0) _ rfl (blk_put (blk_put BK.out 0 (.int .i64 (rnumV s)) rfl) 1 (.int .i64 (rnumV (rnumS s))) rfl) Try.underlying56 rfl (by kernel_rfl)) rfl ?_
  exact ⟨rfl, (RDB.set_new (j := 1) (v := .int .i64 (rnumV (rnumS s))) (RDB.set_new (j := 0) (v := .int .i64 (rnumV s)) HR.out NE.out GE.out) NE.out GE.out), (Fr.set_new (j := 1) (v := .int .i64 (rnumV (rnumS s))) (Fr.set_new (j := 0) (v := .int .i64 (rnumV s)) HF.out GW.out) GW.out)⟩

def of65 (l : List Int) : S65 := ⟨l.getD 0 0, l.getD 1 0⟩

set_option maxHeartbeats 4000000 in
set_option maxRecDepth 100000 in
theorem row47 {w0 w : World} {g : Nat} {s : RS} {cl : Int} (h : RDS w0 w g s cl) (hB : Byt s.1) : Calls Try.prog 47 #[.pointer (some ⟨g, 0, none⟩)] w fun e w' => e = .returned (.agg #[.int .i64 (rnumV s), .int .i64 (rnumV (rnumS s))]) ∧ RDS w0 w' g (rrowS 2 s) cl ∧ Fr [73] w w' := by
  have HR := Aside0.mk h
  have HY := Aside0.mk hB
  have HF := Aside0.mk (Fr.of_below (Below.refl w.heap.size w) [73])
  clear h hB
  go_enter Try.func47, Try.ntmps47
  go_wp2_with (first | ((with_reducible refine gate_dst (N := 2) rfl ?_); refine box_event ?hg (N := 2) ?hd (cs := #[.int .i64 0, .int .i64 0]) (t := 65) ?hr ?_; (case hd => rfl); (case hg => rfl); (case hr => first | (go_simp; done) | (go_simp; rfl)); intro g2 hg w2 hbox hb; have n0_ := Aside0.mk (HR.out.below hb); have n1_ := Aside0.mk (HF.out.then_ (Fr.of_below hb _)); have n2_ := Aside0.mk (hbox); have n3_ := Aside0.mk ((by rw [hg]; exact HF.out.1 : w.heap.size ≤ g2)); have n4_ := Aside0.mk ((by rw [hg]; exact below_size HR.out.at : w0.heap.size ≤ g2)); clear HR HF; have HR := n0_; have HF := n1_; have BK := n2_; have GW := n3_; have GE := n4_; clear n0_ n1_ n2_ n3_ n4_; clear hg hbox hb) | (go_at_call 42; (with_reducible refine (rnum_any HR.out HY.out).mono ?_); rintro e w42 ⟨rfl, hh, hf⟩; have n0_ := Aside0.mk hh; have n1_ := Aside0.mk (HF.out.then_ hf); have n2_ := Aside0.mk (hf.cells BK.out (by decide)); have n3_ := Aside0.mk (Byt.num HY.out); clear HR HF BK HY hh hf; have HR := n0_; have HF := n1_; have BK := n2_; have HY := n3_; clear n0_ n1_ n2_ n3_; have hcz0 : w42.cell? ⟨g2, 0, none⟩ = some (.int .i64 0) := (blk_cell BK.out 0).trans rfl; have hfz0 : w42.frozen? ⟨g2, 0, none⟩ = false := blk_frozen BK.out 0; have hcz1 : w42.cell? ⟨g2, 1, none⟩ = some (.int .i64 0) := (blk_cell BK.out 1).trans rfl; have hfz1 : w42.frozen? ⟨g2, 1, none⟩ = false := blk_frozen BK.out 1))
  have NE := Aside0.mk (RDB.ne HR.out BK.out (by decide))
  refine bodyPost_ret (results_cell_row rfl _ _ g2 65 #[.int .i64 (rnumV s), .int .i64 (rnumV (rnumS s))] (0, 0) _ rfl (blk_put (blk_put BK.out 0 (.int .i64 (rnumV s)) rfl) 1 (.int .i64 (rnumV (rnumS s))) rfl) Try.underlying65 rfl (by kernel_rfl)) rfl ?_
  exact ⟨rfl, (RDB.set_new (j := 1) (v := .int .i64 (rnumV (rnumS s))) (RDB.set_new (j := 0) (v := .int .i64 (rnumV s)) HR.out NE.out GE.out) NE.out GE.out), (Fr.set_new (j := 1) (v := .int .i64 (rnumV (rnumS s))) (Fr.set_new (j := 0) (v := .int .i64 (rnumV s)) HF.out GW.out) GW.out)⟩

set_option maxHeartbeats 4000000 in
set_option maxRecDepth 100000 in
theorem row45 {w0 w : World} {g n : Nat} {s : RS} (h : RDS w0 w g s (n : Int)) (hB : Byt s.1) (hn : n ≤ 65535) : Calls Try.prog 45 #[.pointer (some ⟨g, 0, none⟩)] w fun e w' => (∃ A c, e = .returned (.slice A n c) ∧ Kd.R (Kd.int .i64) 3 w' w0.heap.size (fun k => w.heap.size ≤ k) (.slice A n c) (rrowV n s)) ∧ RDS w0 w' g (rrowS n s) (n : Int) ∧ Fr [73] w w' := by
  have HR := Aside0.mk h
  have HY := Aside0.mk hB
  have HN := Aside0.mk hn
  have hn9 : (n : Int) ≤ 65535 := by omega
  have HF := Aside0.mk (Fr.of_below (Below.refl w.heap.size w) [73])
  have hcl := HR.out.cls
  clear h hB hn
  go_enter Try.func45, Try.ntmps45
  go_wp2_with (fail)
  clear hcl
  go_loopw [2, 7] (fun v2 v7 wx => ∃ (i : Nat) (xs : List Int) (t : RS), v7 = .int .i64 (i : Int) ∧ i ≤ n ∧ Aside0 (xs.length = i) ∧ Aside0 (xs ++ rrowV (n - i) t = rrowV n s ∧ rrowS (n - i) t = rrowS n s) ∧ Aside0 (Byt t.1) ∧ Aside0 (Kd.R (Kd.int .i64) 3 wx w0.heap.size (fun k => w.heap.size ≤ k) v2 xs) ∧ Aside0 (RDS w0 wx g t (n : Int)) ∧ Aside0 (Fr [73] w wx)) (fun _ v7 _ => n - (intOf v7).toNat)
  case atStart => exact ⟨0, [], s, rfl, Nat.zero_le _, ⟨rfl⟩, ⟨rfl, rfl⟩, HY, ⟨Kd.R_nil _ _ _ _ _⟩, HR, HF⟩
  case round =>
    clear HR HF HY
    obtain ⟨i, xs, t, rfl, hin, HXL, HE, HY, HO, HR, HF⟩ := hrel
    obtain ⟨A2, c2, rfl⟩ := Kd.R_slice HO.out
    by_cases hlt : i < n
    · have hltb : decide (i < n) = true := decide_eq_true hlt
      have hi9 : (i : Int) ≤ 65535 := by omega
      have HI9 := Aside0.mk hlt
      have HE2 : Aside0 ((xs ++ [rnumV t]) ++ rrowV (n - (i + 1)) (rnumS t) = rrowV n s ∧ rrowS (n - (i + 1)) (rnumS t) = rrowS n s) := ⟨by
        have h := HE.out
        rw [show n - i = (n - (i + 1)) + 1 by omega] at h
        exact ⟨by rw [← h.1, List.append_assoc]; rfl, h.2⟩⟩
      clear hin hlt
      go_wp2_with (first | (go_at_call 42; (with_reducible refine (rnum_any HR.out HY.out).mono ?_); rintro e w42 ⟨rfl, hh, hf⟩; have n0_ := Aside0.mk hh; have n1_ := Aside0.mk (HF.out.then_ hf); have n2_ := Aside0.mk (R_fr HO.out hf (by intro q hq; rcases List.mem_cons.1 hq with rfl | hq; exact (by decide); cases hq)); have n3_ := Aside0.mk (Byt.num HY.out); clear HR HF HO HY hh hf; have HR := n0_; have HF := n1_; have HO := n2_; have HY := n3_; clear n0_ n1_ n2_ n3_) | ((with_reducible refine gate_builtin (b := .append) (xs := #[.tmp 9, .tmp 12]) rfl ?_); at_builtin; refine Kd.R_append (Kd.int .i64) (w0 := w0) w0.heap.size rfl (.tmp 9) (.tmp 12) 25 3 (.int .i64 0) 8 rfl Try.underlying25 info3 rfl (by decide) (by omega) _ xs (rnumV t) [.int .i64 (rnumV t)] (fun k => w.heap.size ≤ k) (fun _ => False) rfl rfl ?aP (fun _ hk => hk.elim) ?aF ?aO ?aB ?aS ?aL ?_; (case aP => exact rfl); (case aB => exact HR.out.at); (case aF => exact (fun k hk => Nat.le_trans HF.out.1 hk)); (case aO => exact HO.out); (case aS => exact (below_size HR.out.at)); (case aL => have := HXL.out; have := HI9.out; have := HN.out; omega); intro v31 w31 ho hb hg hat; have n0_ := Aside0.mk (HR.out.grown hg (fun k hk => by obtain ⟨cells, hc⟩ := own_typed HO.out.2.choose_spec.1 k hk; exact ⟨cells, 3, hc, by decide⟩) hb); have n1_ := Aside0.mk (HF.out.grow_new hg (fun k hk => HO.out.1 k hk)); have n2_ := Aside0.mk ho; clear HR HF HO ho hb hg hat; have HR := n0_; have HF := n1_; have HO := n2_; clear n0_ n1_ n2_))
      go_roundw
      case rel => exact ⟨i + 1, _, _, by go_num, HI9.out, ⟨by rw [List.length_append, HXL.out]; rfl⟩, HE2, HY, HO, HR, HF⟩
      case measure => have := HI9.out; simp [intOf]; omega
    · have hltb : decide (i < n) = false := decide_eq_false hlt
      obtain rfl : i = n := by omega
      have h := HE.out
      rw [Nat.sub_self, rrowV, rrowS, List.append_nil] at h
      obtain ⟨rfl, h2⟩ := h
      have H2 := Aside0.mk h2
      have hl := HXL.out
      have n0_ : Aside0 (Kd.R (Kd.int .i64) 3 wr w0.heap.size (fun k => w.heap.size ≤ k) (.slice A2 i c2) (rrowV i s)) := ⟨by have h := HO.out; rw [hl] at h; exact h⟩
      clear HO h2 HE
      go_wp2_with (fail)
      go_ret
      refine ⟨⟨A2, c2, ?_, n0_.out⟩, by rw [← H2.out]; exact HR.out, HF.out⟩
      first | rfl | (simp [hl]; done) | (rw [hl]; rfl)

set_option maxHeartbeats 8000000 in
set_option maxRecDepth 100000 in
theorem take36 {w0 w : World} {g : Nat} {s : RS} {cl : Int} (h : RDS w0 w g s cl) (hB : Byt s.1) : Calls Try.prog 36 #[.pointer (some ⟨g, 0, none⟩), .func (.func 37) #[] #[]] w fun e w' => (∃ A c, e = .returned (.slice A (rlistV 3 s).length c) ∧ Kd.R (k44) 44 w' w0.heap.size (fun k => w.heap.size ≤ k) (.slice A (rlistV 3 s).length c) ((rlistV 3 s).map of44)) ∧ RDS w0 w' g (rlistS 3 s) cl ∧ Fr [73] w w' := by
  have HR := Aside0.mk h
  have HY := Aside0.mk hB
  have HF := Aside0.mk (Fr.of_below (Below.refl w.heap.size w) [73])
  have HN2 := Aside0.mk (rget2_bd hB)
  clear h hB
  go_enter Try.func36, Try.ntmps36
  go_wp2_with (first | (go_at_call 61; (with_reducible refine (rlow2 HR.out HY.out).mono ?_); rintro e w61 ⟨rfl, hh, hf⟩; have n0_ := Aside0.mk hh; have n1_ := Aside0.mk (HF.out.then_ hf); have n3_ := Aside0.mk (Byt.get HY.out 2); clear HR HF HY hh hf; have HR := n0_; have HF := n1_; have HY := n3_; clear n0_ n1_ n3_))
  obtain ⟨N, eN⟩ : ∃ N : Nat, rgetV 2 s = (N : Int) := ⟨(rgetV 2 s).toNat, by have := HN2.out.1; omega⟩
  have EL1 : Aside0 (rlistV 3 s = rtakeV 3 N (rgetS 2 s)) := ⟨by unfold rlistV; rw [eN, Int.toNat_natCast]⟩
  have EL2 : Aside0 (rlistS 3 s = rtakeS 3 N (rgetS 2 s)) := ⟨by unfold rlistS; rw [eN, Int.toNat_natCast]⟩
  have HNN : Aside0 (N ≤ 65535) := ⟨by have := HN2.out; omega⟩
  rw [eN]
  clear eN HN2
  generalize rgetS 2 s = s0 at HR HY EL1 EL2
  go_loopw [4, 5] (fun v4 v5 wx => ∃ (n : Nat) (xs : List (List Int)) (t : RS), v5 = .int .u64 (n : Int) ∧ Aside0 (xs.length + n ≤ 65535) ∧ Aside0 (xs ++ rtakeV 3 n t = rtakeV 3 N s0 ∧ rtakeS 3 n t = rtakeS 3 N s0) ∧ Aside0 (Byt t.1) ∧ Aside0 (Kd.R (k44) 44 wx w0.heap.size (fun k => w.heap.size ≤ k) v4 ((xs).map of44)) ∧ Aside0 (RDS w0 wx g t cl) ∧ Aside0 (Fr [73] w wx)) (fun _ v5 _ => (uOf v5).toNat)
  case atStart => exact ⟨N, [], s0, rfl, ⟨by simpa using HNN.out⟩, ⟨rfl, rfl⟩, HY, ⟨Kd.R_nil _ _ _ _ _⟩, HR, HF⟩
  case round =>
    clear HR HF HY HNN
    obtain ⟨n, xs, t, rfl, HXL, HE, HY, HO, HR, HF⟩ := hrel
    have hE := HE.out
    have hn9 : (n : Int) ≤ 65535 := by have := HXL.out; omega
    have hcb := HR.out.bad
    obtain ⟨A4, c4, e4⟩ : ∃ A c, u4 = .slice A xs.length c := by
      obtain ⟨A, c, e⟩ := Kd.R_slice HO.out
      exact ⟨A, c, by rw [e]; try simp⟩
    subst e4
    by_cases hn : n = 0
    · subst hn
      rw [rtakeV, rtakeS, List.append_nil, ← EL1.out, ← EL2.out] at hE
      obtain ⟨rfl, h2⟩ := hE
      have H2 := Aside0.mk h2
      clear h2 HE
      go_wp2_with (fail)
      go_ret
      exact ⟨⟨A4, c4, rfl, HO.out⟩, by rw [← H2.out]; exact HR.out, HF.out⟩
    · have hn1 : decide (0 < n) = true := decide_eq_true (by omega)
      have hn2 : decide ((n : Int) > 0) = true := decide_eq_true (by omega)
      obtain ⟨n1, e1⟩ : ∃ n1, n = n1 + 1 := ⟨n - 1, by omega⟩
      rw [e1] at hE
      cases hbd : t.2 with
      | true =>
        rw [hbd] at hcb
        rw [rtakeV, rtakeS, if_pos hbd, if_pos hbd, List.append_nil, ← EL1.out, ← EL2.out] at hE
        obtain ⟨rfl, h2⟩ := hE
        have H2 := Aside0.mk h2
        clear h2 HE hn hbd e1
        go_wp2_with (fail)
        go_ret
        exact ⟨⟨A4, c4, rfl, HO.out⟩, by rw [← H2.out]; exact HR.out, HF.out⟩
      | false =>
        rw [hbd] at hcb
        rw [rtakeV, rtakeS, if_neg (by rw [hbd]; decide), if_neg (by rw [hbd]; decide)] at hE
        have HE2 : Aside0 ((xs ++ [rrowV 3 t]) ++ rtakeV 3 n1 (rrowS 3 t) = rtakeV 3 N s0 ∧ rtakeS 3 n1 (rrowS 3 t) = rtakeS 3 N s0) := ⟨by rw [← hE.1, List.append_assoc]; rfl, hE.2⟩
        have hw : IntKind.u64.wrap ((n : Int) - 1) = (n1 : Int) := by
          have e : IntKind.u64.wrap ((n : Int) - 1) = ((n : Int) - 1) % 18446744073709551616 := rfl
          rw [e]; omega
        have HX2 : Aside0 ((xs ++ [rrowV 3 t]).length + n1 ≤ 65535) := ⟨by have := HXL.out; rw [List.length_append]; simp; omega⟩
        have HX3 : Aside0 (xs.length ≤ 65535) := ⟨by have := HXL.out; omega⟩
        have HNn : Aside0 (n = n1 + 1) := ⟨e1⟩
        clear hE HE hn hbd e1
        go_wp2_with (first | (go_at_call 37; (with_reducible refine (row37 HR.out HY.out).mono ?_); rintro e w22 ⟨rfl, hh, hf⟩; have n0_ := Aside0.mk hh; have n1_ := Aside0.mk (HF.out.then_ hf); have n2_ := Aside0.mk (R_fr HO.out hf (by intro q hq; rcases List.mem_cons.1 hq with rfl | hq; exact (by decide); cases hq)); have n3_ := Aside0.mk (Byt.row HY.out 3); clear HR HF HO HY hcb hh hf; have HR := n0_; have HF := n1_; have HO := n2_; have HY := n3_; clear n0_ n1_ n2_ n3_) | ((with_reducible refine gate_builtin (b := .append) (xs := #[.tmp 19, .tmp 23]) rfl ?_); at_builtin; refine Kd.R_append (k44) (w0 := w0) w0.heap.size rfl (.tmp 19) (.tmp 23) 22 44 (.agg #[.int .i64 0, .int .i64 0, .int .i64 0]) 24 rfl Try.underlying22 info44 rfl (by decide) (by omega) _ ((xs).map of44) (of44 (rrowV 3 t)) [.int .i64 (rnumV t), .int .i64 (rnumV (rnumS t)), .int .i64 (rnumV (rnumS (rnumS t)))] (fun k => w.heap.size ≤ k) (fun _ => False) rfl rfl ?aP (fun _ hk => hk.elim) ?aF ?aO ?aB ?aS ?aL ?_; (case aP => exact ⟨[.int .i64 (rnumV t)], [.int .i64 (rnumV (rnumS t)), .int .i64 (rnumV (rnumS (rnumS t)))], rfl, rfl, [.int .i64 (rnumV (rnumS t))], [.int .i64 (rnumV (rnumS (rnumS t)))], rfl, rfl, rfl⟩); (case aB => exact HR.out.at); (case aF => exact (fun k hk => Nat.le_trans HF.out.1 hk)); (case aO => exact HO.out); (case aS => exact (below_size HR.out.at)); (case aL => have := HX3.out; (try rw [List.length_map]); omega); intro v31 w31 ho hb hg hat; have n0_ := Aside0.mk (HR.out.grown hg (fun k hk => by obtain ⟨cells, hc⟩ := own_typed HO.out.2.choose_spec.1 k hk; exact ⟨cells, 44, hc, by decide⟩) hb); have n1_ := Aside0.mk (HF.out.grow_new hg (fun k hk => HO.out.1 k hk)); have n2_ : Aside0 (Kd.R (k44) 44 w31 w0.heap.size (fun k => w.heap.size ≤ k) v31 ((xs ++ [rrowV 3 t]).map of44)) := ⟨by rw [List.map_append]; exact ho⟩; clear HR HF HO ho hb hg hat; have HR := n0_; have HF := n1_; have HO := n2_; clear n0_ n1_ n2_))
        go_roundw
        case rel => exact ⟨n1, _, _, by first | rfl | (rw [hw]; done) | (simp [hw]; done), HX2, HE2, HY, HO, HR, HF⟩
        case measure => have := HNn.out; first | (rw [hw]; simp [uOf]; omega) | (simp [uOf, hw]; omega)

set_option maxHeartbeats 8000000 in
set_option maxRecDepth 100000 in
theorem take38 {w0 w : World} {g : Nat} {s : RS} {cl : Int} (h : RDS w0 w g s cl) (hB : Byt s.1) : Calls Try.prog 38 #[.pointer (some ⟨g, 0, none⟩), .func (.func 39) #[] #[]] w fun e w' => (∃ A c, e = .returned (.slice A (rlistV 3 s).length c) ∧ Kd.R (k46) 46 w' w0.heap.size (fun k => w.heap.size ≤ k) (.slice A (rlistV 3 s).length c) ((rlistV 3 s).map of46)) ∧ RDS w0 w' g (rlistS 3 s) cl ∧ Fr [73] w w' := by
  have HR := Aside0.mk h
  have HY := Aside0.mk hB
  have HF := Aside0.mk (Fr.of_below (Below.refl w.heap.size w) [73])
  have HN2 := Aside0.mk (rget2_bd hB)
  clear h hB
  go_enter Try.func38, Try.ntmps38
  go_wp2_with (first | (go_at_call 61; (with_reducible refine (rlow2 HR.out HY.out).mono ?_); rintro e w61 ⟨rfl, hh, hf⟩; have n0_ := Aside0.mk hh; have n1_ := Aside0.mk (HF.out.then_ hf); have n3_ := Aside0.mk (Byt.get HY.out 2); clear HR HF HY hh hf; have HR := n0_; have HF := n1_; have HY := n3_; clear n0_ n1_ n3_))
  obtain ⟨N, eN⟩ : ∃ N : Nat, rgetV 2 s = (N : Int) := ⟨(rgetV 2 s).toNat, by have := HN2.out.1; omega⟩
  have EL1 : Aside0 (rlistV 3 s = rtakeV 3 N (rgetS 2 s)) := ⟨by unfold rlistV; rw [eN, Int.toNat_natCast]⟩
  have EL2 : Aside0 (rlistS 3 s = rtakeS 3 N (rgetS 2 s)) := ⟨by unfold rlistS; rw [eN, Int.toNat_natCast]⟩
  have HNN : Aside0 (N ≤ 65535) := ⟨by have := HN2.out; omega⟩
  rw [eN]
  clear eN HN2
  generalize rgetS 2 s = s0 at HR HY EL1 EL2
  go_loopw [4, 5] (fun v4 v5 wx => ∃ (n : Nat) (xs : List (List Int)) (t : RS), v5 = .int .u64 (n : Int) ∧ Aside0 (xs.length + n ≤ 65535) ∧ Aside0 (xs ++ rtakeV 3 n t = rtakeV 3 N s0 ∧ rtakeS 3 n t = rtakeS 3 N s0) ∧ Aside0 (Byt t.1) ∧ Aside0 (Kd.R (k46) 46 wx w0.heap.size (fun k => w.heap.size ≤ k) v4 ((xs).map of46)) ∧ Aside0 (RDS w0 wx g t cl) ∧ Aside0 (Fr [73] w wx)) (fun _ v5 _ => (uOf v5).toNat)
  case atStart => exact ⟨N, [], s0, rfl, ⟨by simpa using HNN.out⟩, ⟨rfl, rfl⟩, HY, ⟨Kd.R_nil _ _ _ _ _⟩, HR, HF⟩
  case round =>
    clear HR HF HY HNN
    obtain ⟨n, xs, t, rfl, HXL, HE, HY, HO, HR, HF⟩ := hrel
    have hE := HE.out
    have hn9 : (n : Int) ≤ 65535 := by have := HXL.out; omega
    have hcb := HR.out.bad
    obtain ⟨A4, c4, e4⟩ : ∃ A c, u4 = .slice A xs.length c := by
      obtain ⟨A, c, e⟩ := Kd.R_slice HO.out
      exact ⟨A, c, by rw [e]; try simp⟩
    subst e4
    by_cases hn : n = 0
    · subst hn
      rw [rtakeV, rtakeS, List.append_nil, ← EL1.out, ← EL2.out] at hE
      obtain ⟨rfl, h2⟩ := hE
      have H2 := Aside0.mk h2
      clear h2 HE
      go_wp2_with (fail)
      go_ret
      exact ⟨⟨A4, c4, rfl, HO.out⟩, by rw [← H2.out]; exact HR.out, HF.out⟩
    · have hn1 : decide (0 < n) = true := decide_eq_true (by omega)
      have hn2 : decide ((n : Int) > 0) = true := decide_eq_true (by omega)
      obtain ⟨n1, e1⟩ : ∃ n1, n = n1 + 1 := ⟨n - 1, by omega⟩
      rw [e1] at hE
      cases hbd : t.2 with
      | true =>
        rw [hbd] at hcb
        rw [rtakeV, rtakeS, if_pos hbd, if_pos hbd, List.append_nil, ← EL1.out, ← EL2.out] at hE
        obtain ⟨rfl, h2⟩ := hE
        have H2 := Aside0.mk h2
        clear h2 HE hn hbd e1
        go_wp2_with (fail)
        go_ret
        exact ⟨⟨A4, c4, rfl, HO.out⟩, by rw [← H2.out]; exact HR.out, HF.out⟩
      | false =>
        rw [hbd] at hcb
        rw [rtakeV, rtakeS, if_neg (by rw [hbd]; decide), if_neg (by rw [hbd]; decide)] at hE
        have HE2 : Aside0 ((xs ++ [rrowV 3 t]) ++ rtakeV 3 n1 (rrowS 3 t) = rtakeV 3 N s0 ∧ rtakeS 3 n1 (rrowS 3 t) = rtakeS 3 N s0) := ⟨by rw [← hE.1, List.append_assoc]; rfl, hE.2⟩
        have hw : IntKind.u64.wrap ((n : Int) - 1) = (n1 : Int) := by
          have e : IntKind.u64.wrap ((n : Int) - 1) = ((n : Int) - 1) % 18446744073709551616 := rfl
          rw [e]; omega
        have HX2 : Aside0 ((xs ++ [rrowV 3 t]).length + n1 ≤ 65535) := ⟨by have := HXL.out; rw [List.length_append]; simp; omega⟩
        have HX3 : Aside0 (xs.length ≤ 65535) := ⟨by have := HXL.out; omega⟩
        have HNn : Aside0 (n = n1 + 1) := ⟨e1⟩
        clear hE HE hn hbd e1
        go_wp2_with (first | (go_at_call 39; (with_reducible refine (row39 HR.out HY.out).mono ?_); rintro e w22 ⟨rfl, hh, hf⟩; have n0_ := Aside0.mk hh; have n1_ := Aside0.mk (HF.out.then_ hf); have n2_ := Aside0.mk (R_fr HO.out hf (by intro q hq; rcases List.mem_cons.1 hq with rfl | hq; exact (by decide); cases hq)); have n3_ := Aside0.mk (Byt.row HY.out 3); clear HR HF HO HY hcb hh hf; have HR := n0_; have HF := n1_; have HO := n2_; have HY := n3_; clear n0_ n1_ n2_ n3_) | ((with_reducible refine gate_builtin (b := .append) (xs := #[.tmp 19, .tmp 23]) rfl ?_); at_builtin; refine Kd.R_append (k46) (w0 := w0) w0.heap.size rfl (.tmp 19) (.tmp 23) 23 46 (.agg #[.int .i64 0, .int .i64 0, .int .i64 0]) 24 rfl Try.underlying23 info46 rfl (by decide) (by omega) _ ((xs).map of46) (of46 (rrowV 3 t)) [.int .i64 (rnumV t), .int .i64 (rnumV (rnumS t)), .int .i64 (rnumV (rnumS (rnumS t)))] (fun k => w.heap.size ≤ k) (fun _ => False) rfl rfl ?aP (fun _ hk => hk.elim) ?aF ?aO ?aB ?aS ?aL ?_; (case aP => exact ⟨[.int .i64 (rnumV t)], [.int .i64 (rnumV (rnumS t)), .int .i64 (rnumV (rnumS (rnumS t)))], rfl, rfl, [.int .i64 (rnumV (rnumS t))], [.int .i64 (rnumV (rnumS (rnumS t)))], rfl, rfl, rfl⟩); (case aB => exact HR.out.at); (case aF => exact (fun k hk => Nat.le_trans HF.out.1 hk)); (case aO => exact HO.out); (case aS => exact (below_size HR.out.at)); (case aL => have := HX3.out; (try rw [List.length_map]); omega); intro v31 w31 ho hb hg hat; have n0_ := Aside0.mk (HR.out.grown hg (fun k hk => by obtain ⟨cells, hc⟩ := own_typed HO.out.2.choose_spec.1 k hk; exact ⟨cells, 46, hc, by decide⟩) hb); have n1_ := Aside0.mk (HF.out.grow_new hg (fun k hk => HO.out.1 k hk)); have n2_ : Aside0 (Kd.R (k46) 46 w31 w0.heap.size (fun k => w.heap.size ≤ k) v31 ((xs ++ [rrowV 3 t]).map of46)) := ⟨by rw [List.map_append]; exact ho⟩; clear HR HF HO ho hb hg hat; have HR := n0_; have HF := n1_; have HO := n2_; clear n0_ n1_ n2_))
        go_roundw
        case rel => exact ⟨n1, _, _, by first | rfl | (rw [hw]; done) | (simp [hw]; done), HX2, HE2, HY, HO, HR, HF⟩
        case measure => have := HNn.out; first | (rw [hw]; simp [uOf]; omega) | (simp [uOf, hw]; omega)

set_option maxHeartbeats 8000000 in
set_option maxRecDepth 100000 in
theorem take40 {w0 w : World} {g : Nat} {s : RS} {cl : Int} (h : RDS w0 w g s cl) (hB : Byt s.1) : Calls Try.prog 40 #[.pointer (some ⟨g, 0, none⟩), .func (.func 41) #[] #[]] w fun e w' => (∃ A c, e = .returned (.slice A (rlistV 2 s).length c) ∧ Kd.R (k56) 56 w' w0.heap.size (fun k => w.heap.size ≤ k) (.slice A (rlistV 2 s).length c) ((rlistV 2 s).map of56)) ∧ RDS w0 w' g (rlistS 2 s) cl ∧ Fr [73] w w' := by
  have HR := Aside0.mk h
  have HY := Aside0.mk hB
  have HF := Aside0.mk (Fr.of_below (Below.refl w.heap.size w) [73])
  have HN2 := Aside0.mk (rget2_bd hB)
  clear h hB
  go_enter Try.func40, Try.ntmps40
  go_wp2_with (first | (go_at_call 61; (with_reducible refine (rlow2 HR.out HY.out).mono ?_); rintro e w61 ⟨rfl, hh, hf⟩; have n0_ := Aside0.mk hh; have n1_ := Aside0.mk (HF.out.then_ hf); have n3_ := Aside0.mk (Byt.get HY.out 2); clear HR HF HY hh hf; have HR := n0_; have HF := n1_; have HY := n3_; clear n0_ n1_ n3_))
  obtain ⟨N, eN⟩ : ∃ N : Nat, rgetV 2 s = (N : Int) := ⟨(rgetV 2 s).toNat, by have := HN2.out.1; omega⟩
  have EL1 : Aside0 (rlistV 2 s = rtakeV 2 N (rgetS 2 s)) := ⟨by unfold rlistV; rw [eN, Int.toNat_natCast]⟩
  have EL2 : Aside0 (rlistS 2 s = rtakeS 2 N (rgetS 2 s)) := ⟨by unfold rlistS; rw [eN, Int.toNat_natCast]⟩
  have HNN : Aside0 (N ≤ 65535) := ⟨by have := HN2.out; omega⟩
  rw [eN]
  clear eN HN2
  generalize rgetS 2 s = s0 at HR HY EL1 EL2
  go_loopw [4, 5] (fun v4 v5 wx => ∃ (n : Nat) (xs : List (List Int)) (t : RS), v5 = .int .u64 (n : Int) ∧ Aside0 (xs.length + n ≤ 65535) ∧ Aside0 (xs ++ rtakeV 2 n t = rtakeV 2 N s0 ∧ rtakeS 2 n t = rtakeS 2 N s0) ∧ Aside0 (Byt t.1) ∧ Aside0 (Kd.R (k56) 56 wx w0.heap.size (fun k => w.heap.size ≤ k) v4 ((xs).map of56)) ∧ Aside0 (RDS w0 wx g t cl) ∧ Aside0 (Fr [73] w wx)) (fun _ v5 _ => (uOf v5).toNat)
  case atStart => exact ⟨N, [], s0, rfl, ⟨by simpa using HNN.out⟩, ⟨rfl, rfl⟩, HY, ⟨Kd.R_nil _ _ _ _ _⟩, HR, HF⟩
  case round =>
    clear HR HF HY HNN
    obtain ⟨n, xs, t, rfl, HXL, HE, HY, HO, HR, HF⟩ := hrel
    have hE := HE.out
    have hn9 : (n : Int) ≤ 65535 := by have := HXL.out; omega
    have hcb := HR.out.bad
    obtain ⟨A4, c4, e4⟩ : ∃ A c, u4 = .slice A xs.length c := by
      obtain ⟨A, c, e⟩ := Kd.R_slice HO.out
      exact ⟨A, c, by rw [e]; try simp⟩
    subst e4
    by_cases hn : n = 0
    · subst hn
      rw [rtakeV, rtakeS, List.append_nil, ← EL1.out, ← EL2.out] at hE
      obtain ⟨rfl, h2⟩ := hE
      have H2 := Aside0.mk h2
      clear h2 HE
      go_wp2_with (fail)
      go_ret
      exact ⟨⟨A4, c4, rfl, HO.out⟩, by rw [← H2.out]; exact HR.out, HF.out⟩
    · have hn1 : decide (0 < n) = true := decide_eq_true (by omega)
      have hn2 : decide ((n : Int) > 0) = true := decide_eq_true (by omega)
      obtain ⟨n1, e1⟩ : ∃ n1, n = n1 + 1 := ⟨n - 1, by omega⟩
      rw [e1] at hE
      cases hbd : t.2 with
      | true =>
        rw [hbd] at hcb
        rw [rtakeV, rtakeS, if_pos hbd, if_pos hbd, List.append_nil, ← EL1.out, ← EL2.out] at hE
        obtain ⟨rfl, h2⟩ := hE
        have H2 := Aside0.mk h2
        clear h2 HE hn hbd e1
        go_wp2_with (fail)
        go_ret
        exact ⟨⟨A4, c4, rfl, HO.out⟩, by rw [← H2.out]; exact HR.out, HF.out⟩
      | false =>
        rw [hbd] at hcb
        rw [rtakeV, rtakeS, if_neg (by rw [hbd]; decide), if_neg (by rw [hbd]; decide)] at hE
        have HE2 : Aside0 ((xs ++ [rrowV 2 t]) ++ rtakeV 2 n1 (rrowS 2 t) = rtakeV 2 N s0 ∧ rtakeS 2 n1 (rrowS 2 t) = rtakeS 2 N s0) := ⟨by rw [← hE.1, List.append_assoc]; rfl, hE.2⟩
        have hw : IntKind.u64.wrap ((n : Int) - 1) = (n1 : Int) := by
          have e : IntKind.u64.wrap ((n : Int) - 1) = ((n : Int) - 1) % 18446744073709551616 := rfl
          rw [e]; omega
        have HX2 : Aside0 ((xs ++ [rrowV 2 t]).length + n1 ≤ 65535) := ⟨by have := HXL.out; rw [List.length_append]; simp; omega⟩
        have HX3 : Aside0 (xs.length ≤ 65535) := ⟨by have := HXL.out; omega⟩
        have HNn : Aside0 (n = n1 + 1) := ⟨e1⟩
        clear hE HE hn hbd e1
        go_wp2_with (first | (go_at_call 41; (with_reducible refine (row41 HR.out HY.out).mono ?_); rintro e w22 ⟨rfl, hh, hf⟩; have n0_ := Aside0.mk hh; have n1_ := Aside0.mk (HF.out.then_ hf); have n2_ := Aside0.mk (R_fr HO.out hf (by intro q hq; rcases List.mem_cons.1 hq with rfl | hq; exact (by decide); cases hq)); have n3_ := Aside0.mk (Byt.row HY.out 2); clear HR HF HO HY hcb hh hf; have HR := n0_; have HF := n1_; have HO := n2_; have HY := n3_; clear n0_ n1_ n2_ n3_) | ((with_reducible refine gate_builtin (b := .append) (xs := #[.tmp 19, .tmp 23]) rfl ?_); at_builtin; refine Kd.R_append (k56) (w0 := w0) w0.heap.size rfl (.tmp 19) (.tmp 23) 24 56 (.agg #[.int .i64 0, .int .i64 0]) 16 rfl Try.underlying24 info56 rfl (by decide) (by omega) _ ((xs).map of56) (of56 (rrowV 2 t)) [.int .i64 (rnumV t), .int .i64 (rnumV (rnumS t))] (fun k => w.heap.size ≤ k) (fun _ => False) rfl rfl ?aP (fun _ hk => hk.elim) ?aF ?aO ?aB ?aS ?aL ?_; (case aP => exact ⟨[.int .i64 (rnumV t)], [.int .i64 (rnumV (rnumS t))], rfl, rfl, rfl⟩); (case aB => exact HR.out.at); (case aF => exact (fun k hk => Nat.le_trans HF.out.1 hk)); (case aO => exact HO.out); (case aS => exact (below_size HR.out.at)); (case aL => have := HX3.out; (try rw [List.length_map]); omega); intro v31 w31 ho hb hg hat; have n0_ := Aside0.mk (HR.out.grown hg (fun k hk => by obtain ⟨cells, hc⟩ := own_typed HO.out.2.choose_spec.1 k hk; exact ⟨cells, 56, hc, by decide⟩) hb); have n1_ := Aside0.mk (HF.out.grow_new hg (fun k hk => HO.out.1 k hk)); have n2_ : Aside0 (Kd.R (k56) 56 w31 w0.heap.size (fun k => w.heap.size ≤ k) v31 ((xs ++ [rrowV 2 t]).map of56)) := ⟨by rw [List.map_append]; exact ho⟩; clear HR HF HO ho hb hg hat; have HR := n0_; have HF := n1_; have HO := n2_; clear n0_ n1_ n2_))
        go_roundw
        case rel => exact ⟨n1, _, _, by first | rfl | (rw [hw]; done) | (simp [hw]; done), HX2, HE2, HY, HO, HR, HF⟩
        case measure => have := HNn.out; first | (rw [hw]; simp [uOf]; omega) | (simp [uOf, hw]; omega)

set_option maxHeartbeats 8000000 in
set_option maxRecDepth 100000 in
theorem take46 {w0 w : World} {g : Nat} {s : RS} {cl : Int} (h : RDS w0 w g s cl) (hB : Byt s.1) : Calls Try.prog 46 #[.pointer (some ⟨g, 0, none⟩), .func (.func 47) #[] #[]] w fun e w' => (∃ A c, e = .returned (.slice A (rlistV 2 s).length c) ∧ Kd.R (k65) 65 w' w0.heap.size (fun k => w.heap.size ≤ k) (.slice A (rlistV 2 s).length c) ((rlistV 2 s).map of65)) ∧ RDS w0 w' g (rlistS 2 s) cl ∧ Fr [73] w w' := by
  have HR := Aside0.mk h
  have HY := Aside0.mk hB
  have HF := Aside0.mk (Fr.of_below (Below.refl w.heap.size w) [73])
  have HN2 := Aside0.mk (rget2_bd hB)
  clear h hB
  go_enter Try.func46, Try.ntmps46
  go_wp2_with (first | (go_at_call 61; (with_reducible refine (rlow2 HR.out HY.out).mono ?_); rintro e w61 ⟨rfl, hh, hf⟩; have n0_ := Aside0.mk hh; have n1_ := Aside0.mk (HF.out.then_ hf); have n3_ := Aside0.mk (Byt.get HY.out 2); clear HR HF HY hh hf; have HR := n0_; have HF := n1_; have HY := n3_; clear n0_ n1_ n3_))
  obtain ⟨N, eN⟩ : ∃ N : Nat, rgetV 2 s = (N : Int) := ⟨(rgetV 2 s).toNat, by have := HN2.out.1; omega⟩
  have EL1 : Aside0 (rlistV 2 s = rtakeV 2 N (rgetS 2 s)) := ⟨by unfold rlistV; rw [eN, Int.toNat_natCast]⟩
  have EL2 : Aside0 (rlistS 2 s = rtakeS 2 N (rgetS 2 s)) := ⟨by unfold rlistS; rw [eN, Int.toNat_natCast]⟩
  have HNN : Aside0 (N ≤ 65535) := ⟨by have := HN2.out; omega⟩
  rw [eN]
  clear eN HN2
  generalize rgetS 2 s = s0 at HR HY EL1 EL2
  go_loopw [4, 5] (fun v4 v5 wx => ∃ (n : Nat) (xs : List (List Int)) (t : RS), v5 = .int .u64 (n : Int) ∧ Aside0 (xs.length + n ≤ 65535) ∧ Aside0 (xs ++ rtakeV 2 n t = rtakeV 2 N s0 ∧ rtakeS 2 n t = rtakeS 2 N s0) ∧ Aside0 (Byt t.1) ∧ Aside0 (Kd.R (k65) 65 wx w0.heap.size (fun k => w.heap.size ≤ k) v4 ((xs).map of65)) ∧ Aside0 (RDS w0 wx g t cl) ∧ Aside0 (Fr [73] w wx)) (fun _ v5 _ => (uOf v5).toNat)
  case atStart => exact ⟨N, [], s0, rfl, ⟨by simpa using HNN.out⟩, ⟨rfl, rfl⟩, HY, ⟨Kd.R_nil _ _ _ _ _⟩, HR, HF⟩
  case round =>
    clear HR HF HY HNN
    obtain ⟨n, xs, t, rfl, HXL, HE, HY, HO, HR, HF⟩ := hrel
    have hE := HE.out
    have hn9 : (n : Int) ≤ 65535 := by have := HXL.out; omega
    have hcb := HR.out.bad
    obtain ⟨A4, c4, e4⟩ : ∃ A c, u4 = .slice A xs.length c := by
      obtain ⟨A, c, e⟩ := Kd.R_slice HO.out
      exact ⟨A, c, by rw [e]; try simp⟩
    subst e4
    by_cases hn : n = 0
    · subst hn
      rw [rtakeV, rtakeS, List.append_nil, ← EL1.out, ← EL2.out] at hE
      obtain ⟨rfl, h2⟩ := hE
      have H2 := Aside0.mk h2
      clear h2 HE
      go_wp2_with (fail)
      go_ret
      exact ⟨⟨A4, c4, rfl, HO.out⟩, by rw [← H2.out]; exact HR.out, HF.out⟩
    · have hn1 : decide (0 < n) = true := decide_eq_true (by omega)
      have hn2 : decide ((n : Int) > 0) = true := decide_eq_true (by omega)
      obtain ⟨n1, e1⟩ : ∃ n1, n = n1 + 1 := ⟨n - 1, by omega⟩
      rw [e1] at hE
      cases hbd : t.2 with
      | true =>
        rw [hbd] at hcb
        rw [rtakeV, rtakeS, if_pos hbd, if_pos hbd, List.append_nil, ← EL1.out, ← EL2.out] at hE
        obtain ⟨rfl, h2⟩ := hE
        have H2 := Aside0.mk h2
        clear h2 HE hn hbd e1
        go_wp2_with (fail)
        go_ret
        exact ⟨⟨A4, c4, rfl, HO.out⟩, by rw [← H2.out]; exact HR.out, HF.out⟩
      | false =>
        rw [hbd] at hcb
        rw [rtakeV, rtakeS, if_neg (by rw [hbd]; decide), if_neg (by rw [hbd]; decide)] at hE
        have HE2 : Aside0 ((xs ++ [rrowV 2 t]) ++ rtakeV 2 n1 (rrowS 2 t) = rtakeV 2 N s0 ∧ rtakeS 2 n1 (rrowS 2 t) = rtakeS 2 N s0) := ⟨by rw [← hE.1, List.append_assoc]; rfl, hE.2⟩
        have hw : IntKind.u64.wrap ((n : Int) - 1) = (n1 : Int) := by
          have e : IntKind.u64.wrap ((n : Int) - 1) = ((n : Int) - 1) % 18446744073709551616 := rfl
          rw [e]; omega
        have HX2 : Aside0 ((xs ++ [rrowV 2 t]).length + n1 ≤ 65535) := ⟨by have := HXL.out; rw [List.length_append]; simp; omega⟩
        have HX3 : Aside0 (xs.length ≤ 65535) := ⟨by have := HXL.out; omega⟩
        have HNn : Aside0 (n = n1 + 1) := ⟨e1⟩
        clear hE HE hn hbd e1
        go_wp2_with (first | (go_at_call 47; (with_reducible refine (row47 HR.out HY.out).mono ?_); rintro e w22 ⟨rfl, hh, hf⟩; have n0_ := Aside0.mk hh; have n1_ := Aside0.mk (HF.out.then_ hf); have n2_ := Aside0.mk (R_fr HO.out hf (by intro q hq; rcases List.mem_cons.1 hq with rfl | hq; exact (by decide); cases hq)); have n3_ := Aside0.mk (Byt.row HY.out 2); clear HR HF HO HY hcb hh hf; have HR := n0_; have HF := n1_; have HO := n2_; have HY := n3_; clear n0_ n1_ n2_ n3_) | ((with_reducible refine gate_builtin (b := .append) (xs := #[.tmp 19, .tmp 23]) rfl ?_); at_builtin; refine Kd.R_append (k65) (w0 := w0) w0.heap.size rfl (.tmp 19) (.tmp 23) 27 65 (.agg #[.int .i64 0, .int .i64 0]) 16 rfl Try.underlying27 info65 rfl (by decide) (by omega) _ ((xs).map of65) (of65 (rrowV 2 t)) [.int .i64 (rnumV t), .int .i64 (rnumV (rnumS t))] (fun k => w.heap.size ≤ k) (fun _ => False) rfl rfl ?aP (fun _ hk => hk.elim) ?aF ?aO ?aB ?aS ?aL ?_; (case aP => exact ⟨[.int .i64 (rnumV t)], [.int .i64 (rnumV (rnumS t))], rfl, rfl, rfl⟩); (case aB => exact HR.out.at); (case aF => exact (fun k hk => Nat.le_trans HF.out.1 hk)); (case aO => exact HO.out); (case aS => exact (below_size HR.out.at)); (case aL => have := HX3.out; (try rw [List.length_map]); omega); intro v31 w31 ho hb hg hat; have n0_ := Aside0.mk (HR.out.grown hg (fun k hk => by obtain ⟨cells, hc⟩ := own_typed HO.out.2.choose_spec.1 k hk; exact ⟨cells, 65, hc, by decide⟩) hb); have n1_ := Aside0.mk (HF.out.grow_new hg (fun k hk => HO.out.1 k hk)); have n2_ : Aside0 (Kd.R (k65) 65 w31 w0.heap.size (fun k => w.heap.size ≤ k) v31 ((xs ++ [rrowV 2 t]).map of65)) := ⟨by rw [List.map_append]; exact ho⟩; clear HR HF HO ho hb hg hat; have HR := n0_; have HF := n1_; have HO := n2_; clear n0_ n1_ n2_))
        go_roundw
        case rel => exact ⟨n1, _, _, by first | rfl | (rw [hw]; done) | (simp [hw]; done), HX2, HE2, HY, HO, HR, HF⟩
        case measure => have := HNn.out; first | (rw [hw]; simp [uOf]; omega) | (simp [uOf, hw]; omega)

set_option maxHeartbeats 8000000 in
set_option maxRecDepth 100000 in
theorem take43 {w0 w : World} {g : Nat} {s : RS} {cl : Int} (h : RDS w0 w g s cl) (hB : Byt s.1) : Calls Try.prog 43 #[.pointer (some ⟨g, 0, none⟩), .func (.func 42) #[] #[]] w fun e w' => (∃ A c, e = .returned (.slice A (rlistV 1 s).length c) ∧ Kd.R (Kd.int .i64) 3 w' w0.heap.size (fun k => w.heap.size ≤ k) (.slice A (rlistV 1 s).length c) ((rlistV 1 s).map (fun r => r.getD 0 0))) ∧ RDS w0 w' g (rlistS 1 s) cl ∧ Fr [73] w w' := by
  have HR := Aside0.mk h
  have HY := Aside0.mk hB
  have HF := Aside0.mk (Fr.of_below (Below.refl w.heap.size w) [73])
  have HN2 := Aside0.mk (rget2_bd hB)
  clear h hB
  go_enter Try.func43, Try.ntmps43
  go_wp2_with (first | (go_at_call 61; (with_reducible refine (rlow2 HR.out HY.out).mono ?_); rintro e w61 ⟨rfl, hh, hf⟩; have n0_ := Aside0.mk hh; have n1_ := Aside0.mk (HF.out.then_ hf); have n3_ := Aside0.mk (Byt.get HY.out 2); clear HR HF HY hh hf; have HR := n0_; have HF := n1_; have HY := n3_; clear n0_ n1_ n3_))
  obtain ⟨N, eN⟩ : ∃ N : Nat, rgetV 2 s = (N : Int) := ⟨(rgetV 2 s).toNat, by have := HN2.out.1; omega⟩
  have EL1 : Aside0 (rlistV 1 s = rtakeV 1 N (rgetS 2 s)) := ⟨by unfold rlistV; rw [eN, Int.toNat_natCast]⟩
  have EL2 : Aside0 (rlistS 1 s = rtakeS 1 N (rgetS 2 s)) := ⟨by unfold rlistS; rw [eN, Int.toNat_natCast]⟩
  have HNN : Aside0 (N ≤ 65535) := ⟨by have := HN2.out; omega⟩
  rw [eN]
  clear eN HN2
  generalize rgetS 2 s = s0 at HR HY EL1 EL2
  go_loopw [4, 5] (fun v4 v5 wx => ∃ (n : Nat) (xs : List (List Int)) (t : RS), v5 = .int .u64 (n : Int) ∧ Aside0 (xs.length + n ≤ 65535) ∧ Aside0 (xs ++ rtakeV 1 n t = rtakeV 1 N s0 ∧ rtakeS 1 n t = rtakeS 1 N s0) ∧ Aside0 (Byt t.1) ∧ Aside0 (Kd.R (Kd.int .i64) 3 wx w0.heap.size (fun k => w.heap.size ≤ k) v4 ((xs).map (fun r => r.getD 0 0))) ∧ Aside0 (RDS w0 wx g t cl) ∧ Aside0 (Fr [73] w wx)) (fun _ v5 _ => (uOf v5).toNat)
  case atStart => exact ⟨N, [], s0, rfl, ⟨by simpa using HNN.out⟩, ⟨rfl, rfl⟩, HY, ⟨Kd.R_nil _ _ _ _ _⟩, HR, HF⟩
  case round =>
    clear HR HF HY HNN
    obtain ⟨n, xs, t, rfl, HXL, HE, HY, HO, HR, HF⟩ := hrel
    have hE := HE.out
    have hn9 : (n : Int) ≤ 65535 := by have := HXL.out; omega
    have hcb := HR.out.bad
    obtain ⟨A4, c4, e4⟩ : ∃ A c, u4 = .slice A xs.length c := by
      obtain ⟨A, c, e⟩ := Kd.R_slice HO.out
      exact ⟨A, c, by rw [e]; try simp⟩
    subst e4
    by_cases hn : n = 0
    · subst hn
      rw [rtakeV, rtakeS, List.append_nil, ← EL1.out, ← EL2.out] at hE
      obtain ⟨rfl, h2⟩ := hE
      have H2 := Aside0.mk h2
      clear h2 HE
      go_wp2_with (fail)
      go_ret
      exact ⟨⟨A4, c4, rfl, HO.out⟩, by rw [← H2.out]; exact HR.out, HF.out⟩
    · have hn1 : decide (0 < n) = true := decide_eq_true (by omega)
      have hn2 : decide ((n : Int) > 0) = true := decide_eq_true (by omega)
      obtain ⟨n1, e1⟩ : ∃ n1, n = n1 + 1 := ⟨n - 1, by omega⟩
      rw [e1] at hE
      cases hbd : t.2 with
      | true =>
        rw [hbd] at hcb
        rw [rtakeV, rtakeS, if_pos hbd, if_pos hbd, List.append_nil, ← EL1.out, ← EL2.out] at hE
        obtain ⟨rfl, h2⟩ := hE
        have H2 := Aside0.mk h2
        clear h2 HE hn hbd e1
        go_wp2_with (fail)
        go_ret
        exact ⟨⟨A4, c4, rfl, HO.out⟩, by rw [← H2.out]; exact HR.out, HF.out⟩
      | false =>
        rw [hbd] at hcb
        rw [rtakeV, rtakeS, if_neg (by rw [hbd]; decide), if_neg (by rw [hbd]; decide)] at hE
        have HE2 : Aside0 ((xs ++ [rrowV 1 t]) ++ rtakeV 1 n1 (rrowS 1 t) = rtakeV 1 N s0 ∧ rtakeS 1 n1 (rrowS 1 t) = rtakeS 1 N s0) := ⟨by rw [← hE.1, List.append_assoc]; rfl, hE.2⟩
        have hw : IntKind.u64.wrap ((n : Int) - 1) = (n1 : Int) := by
          have e : IntKind.u64.wrap ((n : Int) - 1) = ((n : Int) - 1) % 18446744073709551616 := rfl
          rw [e]; omega
        have HX2 : Aside0 ((xs ++ [rrowV 1 t]).length + n1 ≤ 65535) := ⟨by have := HXL.out; rw [List.length_append]; simp; omega⟩
        have HX3 : Aside0 (xs.length ≤ 65535) := ⟨by have := HXL.out; omega⟩
        have HNn : Aside0 (n = n1 + 1) := ⟨e1⟩
        clear hE HE hn hbd e1
        go_wp2_with (first | (go_at_call 42; (with_reducible refine (rnum_any HR.out HY.out).mono ?_); rintro e w22 ⟨rfl, hh, hf⟩; have n0_ := Aside0.mk hh; have n1_ := Aside0.mk (HF.out.then_ hf); have n2_ := Aside0.mk (R_fr HO.out hf (by intro q hq; rcases List.mem_cons.1 hq with rfl | hq; exact (by decide); cases hq)); have n3_ := Aside0.mk (Byt.row HY.out 1); clear HR HF HO HY hcb hh hf; have HR := n0_; have HF := n1_; have HO := n2_; have HY := n3_; clear n0_ n1_ n2_ n3_) | ((with_reducible refine gate_builtin (b := .append) (xs := #[.tmp 19, .tmp 23]) rfl ?_); at_builtin; refine Kd.R_append (Kd.int .i64) (w0 := w0) w0.heap.size rfl (.tmp 19) (.tmp 23) 25 3 (.int .i64 0) 8 rfl Try.underlying25 info3 rfl (by decide) (by omega) _ ((xs).map (fun r => r.getD 0 0)) (rnumV t) [.int .i64 (rnumV t)] (fun k => w.heap.size ≤ k) (fun _ => False) rfl rfl ?aP (fun _ hk => hk.elim) ?aF ?aO ?aB ?aS ?aL ?_; (case aP => exact rfl); (case aB => exact HR.out.at); (case aF => exact (fun k hk => Nat.le_trans HF.out.1 hk)); (case aO => exact HO.out); (case aS => exact (below_size HR.out.at)); (case aL => have := HX3.out; (try rw [List.length_map]); omega); intro v31 w31 ho hb hg hat; have n0_ := Aside0.mk (HR.out.grown hg (fun k hk => by obtain ⟨cells, hc⟩ := own_typed HO.out.2.choose_spec.1 k hk; exact ⟨cells, 3, hc, by decide⟩) hb); have n1_ := Aside0.mk (HF.out.grow_new hg (fun k hk => HO.out.1 k hk)); have n2_ : Aside0 (Kd.R (Kd.int .i64) 3 w31 w0.heap.size (fun k => w.heap.size ≤ k) v31 ((xs ++ [rrowV 1 t]).map (fun r => r.getD 0 0))) := ⟨by rw [List.map_append]; exact ho⟩; clear HR HF HO ho hb hg hat; have HR := n0_; have HF := n1_; have HO := n2_; clear n0_ n1_ n2_))
        go_roundw
        case rel => exact ⟨n1, _, _, by first | rfl | (rw [hw]; done) | (simp [hw]; done), HX2, HE2, HY, HO, HR, HF⟩
        case measure => have := HNn.out; first | (rw [hw]; simp [uOf]; omega) | (simp [uOf, hw]; omega)

set_option maxHeartbeats 8000000 in
set_option maxRecDepth 100000 in
theorem take44 {w0 w : World} {g m : Nat} {s : RS} (h : RDS w0 w g s (m : Int)) (hB : Byt s.1) (hm : m ≤ 65535) : Calls Try.prog 44 #[.pointer (some ⟨g, 0, none⟩), .func (.func 45) #[] #[]] w fun e w' => (∃ A c, e = .returned (.slice A (rlistV m s).length c) ∧ Kd.R (Kd.slice 3 (Kd.int .i64)) 25 w' w0.heap.size (fun k => w.heap.size ≤ k) (.slice A (rlistV m s).length c) (rlistV m s)) ∧ RDS w0 w' g (rlistS m s) (m : Int) ∧ Fr [73] w w' := by
  have HR := Aside0.mk h
  have HY := Aside0.mk hB
  have HF := Aside0.mk (Fr.of_below (Below.refl w.heap.size w) [73])
  have HN2 := Aside0.mk (rget2_bd hB)
  have HM := Aside0.mk hm
  clear h hB hm
  go_enter Try.func44, Try.ntmps44
  go_wp2_with (first | (go_at_call 61; (with_reducible refine (rlow2 HR.out HY.out).mono ?_); rintro e w61 ⟨rfl, hh, hf⟩; have n0_ := Aside0.mk hh; have n1_ := Aside0.mk (HF.out.then_ hf); have n3_ := Aside0.mk (Byt.get HY.out 2); clear HR HF HY hh hf; have HR := n0_; have HF := n1_; have HY := n3_; clear n0_ n1_ n3_))
  obtain ⟨N, eN⟩ : ∃ N : Nat, rgetV 2 s = (N : Int) := ⟨(rgetV 2 s).toNat, by have := HN2.out.1; omega⟩
  have EL1 : Aside0 (rlistV m s = rtakeV m N (rgetS 2 s)) := ⟨by unfold rlistV; rw [eN, Int.toNat_natCast]⟩
  have EL2 : Aside0 (rlistS m s = rtakeS m N (rgetS 2 s)) := ⟨by unfold rlistS; rw [eN, Int.toNat_natCast]⟩
  have HNN : Aside0 (N ≤ 65535) := ⟨by have := HN2.out; omega⟩
  rw [eN]
  clear eN HN2
  generalize rgetS 2 s = s0 at HR HY EL1 EL2
  go_loopw [4, 5] (fun v4 v5 wx => ∃ (n : Nat) (xs : List (List Int)) (t : RS), v5 = .int .u64 (n : Int) ∧ Aside0 (xs.length + n ≤ 65535) ∧ Aside0 (xs ++ rtakeV m n t = rtakeV m N s0 ∧ rtakeS m n t = rtakeS m N s0) ∧ Aside0 (Byt t.1) ∧ Aside0 (Kd.R (Kd.slice 3 (Kd.int .i64)) 25 wx w0.heap.size (fun k => w.heap.size ≤ k) v4 (xs)) ∧ Aside0 (RDS w0 wx g t (m : Int)) ∧ Aside0 (Fr [73] w wx)) (fun _ v5 _ => (uOf v5).toNat)
  case atStart => exact ⟨N, [], s0, rfl, ⟨by simpa using HNN.out⟩, ⟨rfl, rfl⟩, HY, ⟨Kd.R_nil _ _ _ _ _⟩, HR, HF⟩
  case round =>
    clear HR HF HY HNN
    obtain ⟨n, xs, t, rfl, HXL, HE, HY, HO, HR, HF⟩ := hrel
    have hE := HE.out
    have hn9 : (n : Int) ≤ 65535 := by have := HXL.out; omega
    have hcb := HR.out.bad
    obtain ⟨A4, c4, e4⟩ : ∃ A c, u4 = .slice A xs.length c := by
      obtain ⟨A, c, e⟩ := Kd.R_slice HO.out
      exact ⟨A, c, by rw [e]; try simp⟩
    subst e4
    by_cases hn : n = 0
    · subst hn
      rw [rtakeV, rtakeS, List.append_nil, ← EL1.out, ← EL2.out] at hE
      obtain ⟨rfl, h2⟩ := hE
      have H2 := Aside0.mk h2
      clear h2 HE
      go_wp2_with (fail)
      go_ret
      exact ⟨⟨A4, c4, rfl, HO.out⟩, by rw [← H2.out]; exact HR.out, HF.out⟩
    · have hn1 : decide (0 < n) = true := decide_eq_true (by omega)
      have hn2 : decide ((n : Int) > 0) = true := decide_eq_true (by omega)
      obtain ⟨n1, e1⟩ : ∃ n1, n = n1 + 1 := ⟨n - 1, by omega⟩
      rw [e1] at hE
      cases hbd : t.2 with
      | true =>
        rw [hbd] at hcb
        rw [rtakeV, rtakeS, if_pos hbd, if_pos hbd, List.append_nil, ← EL1.out, ← EL2.out] at hE
        obtain ⟨rfl, h2⟩ := hE
        have H2 := Aside0.mk h2
        clear h2 HE hn hbd e1
        go_wp2_with (fail)
        go_ret
        exact ⟨⟨A4, c4, rfl, HO.out⟩, by rw [← H2.out]; exact HR.out, HF.out⟩
      | false =>
        rw [hbd] at hcb
        rw [rtakeV, rtakeS, if_neg (by rw [hbd]; decide), if_neg (by rw [hbd]; decide)] at hE
        have HE2 : Aside0 ((xs ++ [rrowV m t]) ++ rtakeV m n1 (rrowS m t) = rtakeV m N s0 ∧ rtakeS m n1 (rrowS m t) = rtakeS m N s0) := ⟨by rw [← hE.1, List.append_assoc]; rfl, hE.2⟩
        have hw : IntKind.u64.wrap ((n : Int) - 1) = (n1 : Int) := by
          have e : IntKind.u64.wrap ((n : Int) - 1) = ((n : Int) - 1) % 18446744073709551616 := rfl
          rw [e]; omega
        have HX2 : Aside0 ((xs ++ [rrowV m t]).length + n1 ≤ 65535) := ⟨by have := HXL.out; rw [List.length_append]; simp; omega⟩
        have HX3 : Aside0 (xs.length ≤ 65535) := ⟨by have := HXL.out; omega⟩
        have HNn : Aside0 (n = n1 + 1) := ⟨e1⟩
        clear hE HE hn hbd e1
        go_wp2_with (first | (go_at_call 45; (with_reducible refine (row45 HR.out HY.out HM.out).mono ?_); rintro e w22 ⟨⟨A5, c5, rfl, hu⟩, hh, hf⟩; have n0_ := Aside0.mk hh; have n1_ := Aside0.mk (HF.out.then_ hf); have n2_ := Aside0.mk (R_fr HO.out hf (by intro q hq; rcases List.mem_cons.1 hq with rfl | hq; exact (by decide); rcases List.mem_cons.1 hq with rfl | hq; exact (by decide); cases hq)); have n3_ := Aside0.mk (Byt.row HY.out m); have n4_ := Aside0.mk (Kd.R_mono hu (ok' := fun k => w.heap.size ≤ k) (fun k hk => Nat.le_trans HF.out.1 hk)); clear HR HF HO HY hcb hh hf hu; have HR := n0_; have HF := n1_; have HO := n2_; have HY := n3_; have HV := n4_; clear n0_ n1_ n2_ n3_ n4_) | ((with_reducible refine gate_builtin (b := .append) (xs := #[.tmp 19, .tmp 23]) rfl ?_); at_builtin; refine Kd.R_append (Kd.slice 3 (Kd.int .i64)) (w0 := w0) w0.heap.size rfl (.tmp 19) (.tmp 23) 26 25 (.slice none 0 0) 24 rfl Try.underlying26 info25 rfl (by decide) (by omega) _ (xs) (rrowV m t) [.slice A5 m c5] (fun k => w.heap.size ≤ k) (fun k => w.heap.size ≤ k ∧ some k ≠ (Value.slice A4 xs.length c4).ownBlock) rfl rfl ?aP (fun _ hk => hk) ?aF ?aO ?aB ?aS ?aL ?_; (case aP => exact ⟨_, rfl, Kd.R_apart' HV.out (fun k hk => own_typed HO.out.2.choose_spec.1 k hk) (by intro q hq; rcases List.mem_cons.1 hq with rfl | hq; exact (by decide); cases hq)⟩); (case aB => exact HR.out.at); (case aF => exact (fun k hk => Nat.le_trans HF.out.1 hk)); (case aO => exact HO.out); (case aS => exact (below_size HR.out.at)); (case aL => have := HX3.out; (try rw [List.length_map]); omega); intro v31 w31 ho hb hg hat; have n0_ := Aside0.mk (HR.out.grown hg (fun k hk => by obtain ⟨cells, hc⟩ := own_typed HO.out.2.choose_spec.1 k hk; exact ⟨cells, 25, hc, by decide⟩) hb); have n1_ := Aside0.mk (HF.out.grow_new hg (fun k hk => HO.out.1 k hk)); have n2_ : Aside0 (Kd.R (Kd.slice 3 (Kd.int .i64)) 25 w31 w0.heap.size (fun k => w.heap.size ≤ k) v31 (xs ++ [rrowV m t])) := ⟨ho⟩; clear HR HF HO ho hb hg hat; have HR := n0_; have HF := n1_; have HO := n2_; clear n0_ n1_ n2_))
        go_roundw
        case rel => exact ⟨n1, _, _, by first | rfl | (rw [hw]; done) | (simp [hw]; done), HX2, HE2, HY, HO, HR, HF⟩
        case measure => have := HNn.out; first | (rw [hw]; simp [uOf]; omega) | (simp [uOf, hw]; omega)

end Go.Proofs.Ytdgaklldijkoaaa.PCode
