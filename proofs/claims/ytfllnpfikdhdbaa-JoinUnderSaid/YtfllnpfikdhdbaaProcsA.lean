import Derived.Test.YtfllnpfikdhdbaaPProcsx0
import Derived.StillTailTactics
import Derived.Laws.LoneSync
import Derived.Laws.EntriesVeiled
namespace Go.Proofs.Ytfllnpfikdhdbaa.PProcs
open Go.RowKit Go.Proofs.YtfllnpfikdhdbaaW.PrintWords Go.Proofs.YtfllnpfikdhdbaaW.PrintLast Go.Proofs.YtfllnpfikdhdbaaW.PrintMore
attribute [local go_sem] max2_int min2_int max_two min_two max_three min_three max_four min_four
set_option linter.unusedVariables false
set_option linter.unusedSimpArgs false
/-! The process table, in memory: the program's and the reference's rows hold the same numbers in another order. -/
structure Row where
  st : Int
  pa : Int
  kd : Int
  ix : Int
  cd : Int
def Row.z : Row := ⟨0, 0, 0, 0, 0⟩
def encT (r : Row) : List Value := [.int .i64 r.st, .int .i64 r.pa, .int .i64 r.kd, .int .i64 r.ix, .int .i64 r.cd]
def encP (r : Row) : List Value := [.int .i64 r.pa, .int .i64 r.st, .int .i64 r.kd, .int .i64 r.ix, .int .i64 r.cd]
theorem encT_one (r : Row) : ∀ u ∈ encT r, u.oneCell' = true := by
  intro u hu
  simp only [encT, List.mem_cons, List.not_mem_nil, or_false] at hu
  rcases hu with rfl | rfl | rfl | rfl | rfl <;> rfl
theorem encP_one (r : Row) : ∀ u ∈ encP r, u.oneCell' = true := by
  intro u hu
  simp only [encP, List.mem_cons, List.not_mem_nil, or_false] at hu
  rcases hu with rfl | rfl | rfl | rfl | rfl <;> rfl
/-- Rows of five cells. -/
def flat5 (enc : Row → List Value) (hl : ∀ r, (enc r).length = 5) (h1 : ∀ r, ∀ u ∈ enc r, u.oneCell' = true) : Kd Row where
  sz := 5
  E := []
  K := fun _ x cs => cs = enc x
  M := fun _ _ _ x cs => cs = enc x
  K_len := fun h => by rw [h]; exact hl _
  K_one := fun h u hu => by
    rw [h] at hu
    exact h1 _ u hu
  K_below := fun _ h => h
  K_of_M := fun h => h
  M_mono := fun _ h => h
  M_bound := fun h => h
  M_move := fun _ h => h
  M_lower := fun _ h => h
def kT : Kd Row := flat5 encT (fun _ => rfl) encT_one
def kP : Kd Row := flat5 encP (fun _ => rfl) encP_one
section
variable {enc : Row → List Value} {hl : ∀ r, (enc r).length = 5} {h1 : ∀ r, ∀ u ∈ enc r, u.oneCell' = true} {e base g n c : Nat} {ok : Nat → Prop} {w W : World} {xs : List Row}
/-- One cell of one row is written. -/
theorem flat_put {i j : Nat} {u : Value} {x' : Row} (h : (flat5 enc hl h1).R e w base ok (.slice (some ⟨g, 0, none⟩) n c) xs) (hi : i < xs.length) (hj : j < 5) (hx : enc x' = (enc (xs.getD i Row.z)).set j u) :
    (flat5 enc hl h1).R e (w.setCell ⟨g, i * 5 + j, none⟩ u) base ok (.slice (some ⟨g, 0, none⟩) n c) (xs.set i x') := by
  obtain ⟨h0, inner, ho, hr⟩ := h
  obtain ⟨ho1, ho2⟩ := ho
  have hr1 : inner.length = xs.length * 5 := hr.1
  rcases ho2 with ⟨hv, hn⟩ | ⟨g', cap, cur, hv, hb, hh, hc, hm, hs, ht⟩
  · cases hv
  · injection hv with e1 e2 e3
    injection e1 with e1
    injection e1 with e1
    subst e1 e2 e3
    have hlt : i * 5 + j < xs.length * 5 := by omega
    refine ⟨h0, inner.set (i * 5 + j) u, ⟨by rw [List.length_set, List.length_set]; exact ho1, .inr ⟨g, c, cur.setIfInBounds (i * 5 + j) u, by rw [List.length_set], hb, ?_, by rw [List.length_set]; exact hc, hm, by rw [Array.size_setIfInBounds]; exact hs, ?_⟩⟩, ?_⟩
    · have := blk_put hh (i * 5 + j) u rfl
      exact this
    · rw [Array.toList_setIfInBounds, List.length_set, List.take_set, ht]
    · refine ⟨by rw [List.length_set, List.length_set]; exact hr1, fun k p hk => ?_⟩
      rw [List.getElem?_set] at hk
      have hsz : (flat5 enc hl h1).sz = 5 := rfl
      rw [hsz] at *
      show ((inner.set (i * 5 + j) u).drop (k * 5)).take 5 = enc p
      by_cases e : i = k
      · subst e
        rw [if_pos rfl, if_pos hi] at hk
        obtain rfl := Option.some.inj hk
        have hold : (inner.drop (i * 5)).take 5 = enc (xs.getD i Row.z) := hr.2 i _ (by rw [List.getD_eq_getElem?_getD, List.getElem?_eq_getElem hi]; rfl)
        rw [hx, ← hold]
        apply List.ext_getElem?
        intro l
        rw [List.getElem?_take, List.getElem?_drop, List.getElem?_set, List.getElem?_set, List.getElem?_take, List.getElem?_drop, List.length_take, List.length_drop]
        by_cases hl5 : l < 5
        · rw [if_pos hl5, if_pos hl5]
          by_cases ej : j = l
          · subst ej
            rw [if_pos rfl, if_pos rfl, if_pos (by omega), if_pos (by omega)]
          · rw [if_neg (by omega), if_neg ej]
        · rw [if_neg hl5, if_neg hl5, if_neg (by omega)]
      · rw [if_neg e] at hk
        have hold : (inner.drop (k * 5)).take 5 = enc p := hr.2 k p hk
        rw [← hold]
        apply List.ext_getElem?
        intro l
        rw [List.getElem?_take, List.getElem?_drop, List.getElem?_set, List.getElem?_take, List.getElem?_drop]
        by_cases hl5 : l < 5
        · rw [if_pos hl5, if_pos hl5, if_neg (by omega)]
        · rw [if_neg hl5, if_neg hl5]
/-- A cell of a row. -/
theorem flat_cell {i j : Nat} {u : Value} (h : (flat5 enc hl h1).R e w base ok (.slice (some ⟨g, 0, none⟩) n c) xs) (hi : i < xs.length) (hu : (enc (xs.getD i Row.z))[j]? = some u) :
    w.cell? ⟨g, i * 5 + j, none⟩ = some u ∧ w.frozen? ⟨g, i * 5 + j, none⟩ = false := by
  obtain ⟨h0, inner, ho, hr⟩ := h
  obtain ⟨ho1, ho2⟩ := ho
  have hr1 : inner.length = xs.length * 5 := hr.1
  have hj : j < 5 := by
    rcases Nat.lt_or_ge j 5 with q | q
    · exact q
    · rw [List.getElem?_eq_none (by rw [hl]; exact q)] at hu; cases hu
  rcases ho2 with ⟨hv, hn⟩ | ⟨g', cap, cur, hv, hb, hh, hc, hm, hs, ht⟩
  · cases hv
  · injection hv with e1 e2 e3
    injection e1 with e1
    injection e1 with e1
    subst e1 e2 e3
    have hlt : i * 5 + j < xs.length * 5 := by omega
    have hold : (inner.drop (i * 5)).take 5 = enc (xs.getD i Row.z) := hr.2 i _ (by rw [List.getD_eq_getElem?_getD, List.getElem?_eq_getElem hi]; rfl)
    rw [← hold, List.getElem?_take, if_pos hj, List.getElem?_drop, ← ht, List.getElem?_take, if_pos (by show _ < xs.length * 5; exact hlt)] at hu
    refine ⟨(blk_cell hh (i * 5 + j)).trans ?_, blk_frozen hh (i * 5 + j)⟩
    rw [← hu]
    simp
end
/-- Blocks of other types are as they were. -/
def Fr (S : List Nat) (w w' : World) : Prop := w.heap.size ≤ w'.heap.size ∧ ∀ i, i < w.heap.size → (∀ cs t z, w.heap[i]? = some (.cells cs t z) → t ∉ S) → w'.heap[i]? = w.heap[i]?
section
variable {S : List Nat} {w w1 w2 : World}
theorem Fr.of_below (h : Below w.heap.size w w1) (S : List Nat) : Fr S w w1 := ⟨h.size, fun i hi _ => h.block i hi⟩
theorem Fr.then_ (h : Fr S w w1) (k : Fr S w1 w2) : Fr S w w2 := ⟨Nat.le_trans h.1 k.1, fun i hi ht => (k.2 i (Nat.lt_of_lt_of_le hi h.1) (fun cs t z hc => ht cs t z ((h.2 i hi ht).symm.trans hc))).trans (h.2 i hi ht)⟩
theorem Fr.cells {g t : Nat} {cs : Array Value} {z : Nat × Nat} (h : Fr S w w1) (hb : w.heap[g]? = some (.cells cs t z)) (ht : t ∉ S) : w1.heap[g]? = some (.cells cs t z) :=
  (h.2 g (blk_lt hb) (fun cs' t' z' hc => by rw [hb] at hc; injection hc with hc; injection hc with _ h2 _; rw [← h2]; exact ht)).trans hb
theorem R_fr {α : Type} {d : Kd α} {e base : Nat} {ok : Nat → Prop} {v : Value} {xs : List α} (h : d.R e w base ok v xs) (hf : Fr S w w1) (ht : ∀ q, q ∈ e :: d.E → q ∉ S) : d.R e w1 base ok v xs :=
  Kd.R_mono (Kd.R_step (Kd.R_bound h) (fun k hk hlt => by
    obtain ⟨_, _, _, q, hq, cells, hc⟩ := hk
    rw [hc]
    exact hf.cells hc (ht q hq))) (fun _ hk => hk.1)
end
/-- The program's table. -/
def TB (w : World) (b base : Nat) (most : Int) (rs : List Row) : Prop := ∃ v : Value, w.heap[b]? = some (.cells #[.int .i64 most, .int .i64 (rs.length : Int), v] 73 (0, 0)) ∧ kT.R 79 w base (fun _ => True) v rs ∧ base ≤ b
/-- The reference's. -/
def RB (w : World) (b base : Nat) (most : Int) (rs : List Row) : Prop := ∃ v : Value, w.heap[b]? = some (.cells #[.int .i64 most, v] 77 (0, 0)) ∧ kP.R 83 w base (fun _ => True) v rs ∧ base ≤ b
section
variable {w w1 : World} {b base : Nat} {most : Int} {rs : List Row}
theorem TB.fr (h : TB w b base most rs) {S : List Nat} (hf : Fr S w w1) (h1 : 73 ∉ S) (h2 : 79 ∉ S) : TB w1 b base most rs := by
  obtain ⟨v, a, r, g⟩ := h
  exact ⟨v, hf.cells a h1, R_fr r hf (fun q hq => by rcases List.mem_cons.1 hq with rfl | q2; (exact h2); cases q2), g⟩
theorem RB.fr (h : RB w b base most rs) {S : List Nat} (hf : Fr S w w1) (h1 : 77 ∉ S) (h2 : 83 ∉ S) : RB w1 b base most rs := by
  obtain ⟨v, a, r, g⟩ := h
  exact ⟨v, hf.cells a h1, R_fr r hf (fun q hq => by rcases List.mem_cons.1 hq with rfl | q2; (exact h2); cases q2), g⟩
theorem TB.below (h : TB w b base most rs) (hb : Below w.heap.size w w1) : TB w1 b base most rs := h.fr (Fr.of_below hb []) (by simp) (by simp)
theorem RB.below (h : RB w b base most rs) (hb : Below w.heap.size w w1) : RB w1 b base most rs := h.fr (Fr.of_below hb []) (by simp) (by simp)
end
/-- The program's table, or none. -/
def TV (w : World) (p : Value) (base : Nat) (most : Int) (rs : List Row) : Prop := (p = .pointer none ∧ rs = []) ∨ ∃ b, p = .pointer (some ⟨b, 0, none⟩) ∧ TB w b base most rs
theorem TV.below {w w1 : World} {p : Value} {base : Nat} {most : Int} {rs : List Row} (h : TV w p base most rs) (hb : Below w.heap.size w w1) : TV w1 p base most rs := h.imp id (fun ⟨b, e, t⟩ => ⟨b, e, t.below hb⟩)
theorem TB.tv {w : World} {b base : Nat} {most : Int} {rs : List Row} (h : TB w b base most rs) : TV w (.pointer (some ⟨b, 0, none⟩)) base most rs := .inr ⟨b, rfl, h⟩
def rowAt (rs : List Row) (pid : Int) : Row := if 1 ≤ pid ∧ pid ≤ (rs.length : Int) then rs.getD (pid - 1).toNat Row.z else Row.z
section
variable {enc : Row → List Value} {hl : ∀ r, (enc r).length = 5} {h1 : ∀ r, ∀ u ∈ enc r, u.oneCell' = true} {e base : Nat} {ok : Nat → Prop} {w : World} {v : Value} {xs : List Row}
theorem flat_form (h : (flat5 enc hl h1).R e w base ok v xs) (hn : 0 < xs.length) : ∃ g c, v = .slice (some ⟨g, 0, none⟩) xs.length c ∧ xs.length ≤ c ∧ c ≤ 9223372036854775807 := by
  obtain ⟨h0, inner, ho, hr⟩ := h
  rcases ho.2 with ⟨hv, hz⟩ | ⟨g, cap, cur, hv, hb, hh, hc, hm, hs, ht⟩
  · omega
  · exact ⟨g, cap, hv, hc, by unfold maxLen at hm; omega⟩
theorem flat_slice (h : (flat5 enc hl h1).R e w base ok v xs) : ∃ A c, v = .slice A xs.length c := by
  obtain ⟨h0, inner, ho, hr⟩ := h
  rcases ho.2 with ⟨hv, hz⟩ | ⟨g, cap, cur, hv, hb, hh, hc, hm, hs, ht⟩
  · exact ⟨none, 0, by rw [hv, hz]⟩
  · exact ⟨_, _, hv⟩
end
abbrev aggT (r : Row) : Value := .agg #[.int .i64 r.st, .int .i64 r.pa, .int .i64 r.kd, .int .i64 r.ix, .int .i64 r.cd]
theorem rowAt_out {rs : List Row} {pid : Int} (h : pid < 1 ∨ (rs.length : Int) < pid) : rowAt rs pid = Row.z := by unfold rowAt; rw [if_neg (by omega)]
theorem rowAt_in {rs : List Row} {i : Nat} (h : i < rs.length) : rowAt rs ((i : Int) + 1) = rs.getD i Row.z := by
  unfold rowAt
  rw [if_pos (by omega), show ((i : Int) + 1 - 1).toNat = i by omega]
set_option maxHeartbeats 1000000 in
theorem load_any (w : World) (b : Nat) (x : Int) (hc : w.cell? ⟨b, 1, none⟩ = some (.int .i64 x)) :
    Calls Try.prog 58 #[.pointer (some ⟨b, 1, none⟩)] w fun e w' => e = .returned (.int .i64 x) ∧ w = w' := by
  have hd := run_call_load (P := Try.prog) Try.func62 (by kernel_rfl) (by kernel_rfl) (by kernel_rfl) .i64 (by kernel_rfl) hc
  go_enter Try.func58, Try.ntmps58
  go_wp2
  go_ret
  exact ⟨rfl, rfl⟩
set_option maxHeartbeats 1000000 in
theorem add_any (w : World) (b : Nat) (x : Int) (hc : w.cell? ⟨b, 1, none⟩ = some (.int .i64 x)) (hf : w.frozen? ⟨b, 1, none⟩ = false) (h0 : 0 ≤ x) (h1 : x ≤ 1000000000) :
    Calls Try.prog 45 #[.pointer (some ⟨b, 1, none⟩), .int .i64 1] w fun e w' => e = .returned (.int .i64 (x + 1)) ∧ w' = w.setCell ⟨b, 1, none⟩ (.int .i64 (x + 1)) := by
  have hs : (Op.intArith .add .i64 x 1).run Try.prog w = .ok (.int .i64 (x + 1)) w := by
    have : IntKind.i64.wrap (x + 1) = x + 1 := by rw [i64_w]; unfold wrap64; omega
    simp [Op.intArith, this]
  have hd := run_call_add (P := Try.prog) Try.func61 (by kernel_rfl) (by kernel_rfl) (by kernel_rfl) .i64 (by kernel_rfl) hc hf hs
  clear hs h0 h1 hc hf
  go_enter Try.func45, Try.ntmps45
  go_wp2
  go_ret
  exact ⟨rfl, rfl⟩
set_option maxHeartbeats 1000000 in
theorem count_any {w : World} {p : Value} {base : Nat} {most : Int} {rs : List Row} (h : TV w p base most rs) :
    Calls Try.prog 31 #[p] w fun e w' => e = .returned (.int .i64 (rs.length : Int)) ∧ w = w' := by
  rcases h with ⟨rfl, rfl⟩ | ⟨b, rfl, v, hb, hr, hge⟩
  · go_enter Try.func31, Try.ntmps31
    go_wp2
    go_ret
    exact ⟨rfl, rfl⟩
  · have hL := Aside0.mk (load_any w b (rs.length : Int) ((blk_cell hb 1).trans rfl))
    clear hb hr hge
    go_enter Try.func31, Try.ntmps31
    go_wp2_with (first | (go_at_call 58; (with_reducible refine hL.out.mono ?_); rintro e w' ⟨rfl, rfl⟩))
    go_ret
    exact ⟨rfl, rfl⟩
set_option maxHeartbeats 2000000 in
set_option maxRecDepth 100000 in
theorem row_any {w : World} {p : Value} {base : Nat} {most : Int} {rs : List Row} (pid : Int) (h : TV w p base most rs) (hl : rs.length ≤ 1000000) :
    Calls Try.prog 43 #[p, .int .i64 pid] w fun e w' => e = .returned (aggT (rowAt rs pid)) ∧ Below w.heap.size w w' := by
  have HB := Aside0.mk (Below.refl w.heap.size w)
  by_cases h1 : pid < 1
  · rw [rowAt_out (.inl h1)]
    clear h
    go_enter Try.func43, Try.ntmps43
    go_wp2_with (first | ((with_reducible refine gate_dst (N := 4) rfl ?_); refine box_event ?hg (N := 4) ?hd (cs := #[.int .i64 0, .int .i64 0, .int .i64 0, .int .i64 0, .int .i64 0]) (t := 79) ?hr ?_; (case hd => rfl); (case hg => rfl); (case hr => first | (go_simp; done) | (go_simp; rfl)); intro g4 hg w4 hbox hb; have n0_ := Aside0.mk (below_step HB.out hb); have n1_ := Aside0.mk (hbox); have n2_ := Aside0.mk ((by rw [hg]; exact below_size HB.out : w.heap.size ≤ g4)); clear HB; have HB := n0_; have BK4 := n1_; have GE4 := n2_; clear n0_ n1_ n2_; have hcz0 : w4.cell? ⟨g4, 0, none⟩ = some (.int .i64 0) := (blk_cell hbox 0).trans rfl; have hfz0 : w4.frozen? ⟨g4, 0, none⟩ = false := blk_frozen hbox 0; have hcz1 : w4.cell? ⟨g4, 1, none⟩ = some (.int .i64 0) := (blk_cell hbox 1).trans rfl; have hfz1 : w4.frozen? ⟨g4, 1, none⟩ = false := blk_frozen hbox 1; have hcz2 : w4.cell? ⟨g4, 2, none⟩ = some (.int .i64 0) := (blk_cell hbox 2).trans rfl; have hfz2 : w4.frozen? ⟨g4, 2, none⟩ = false := blk_frozen hbox 2; have hcz3 : w4.cell? ⟨g4, 3, none⟩ = some (.int .i64 0) := (blk_cell hbox 3).trans rfl; have hfz3 : w4.frozen? ⟨g4, 3, none⟩ = false := blk_frozen hbox 3; have hcz4 : w4.cell? ⟨g4, 4, none⟩ = some (.int .i64 0) := (blk_cell hbox 4).trans rfl; have hfz4 : w4.frozen? ⟨g4, 4, none⟩ = false := blk_frozen hbox 4; clear hg hbox hb))
    refine bodyPost_ret (results_cell_row rfl _ _ g4 79 #[.int .i64 0, .int .i64 0, .int .i64 0, .int .i64 0, .int .i64 0] (0, 0) _ rfl (blk_put (blk_put (blk_put (blk_put (blk_put BK4.out 0 _ rfl) 1 _ rfl) 2 _ rfl) 3 _ rfl) 4 _ rfl) Try.underlying79 rfl (by kernel_rfl)) rfl ?_
    exact ⟨rfl, below_set (below_set (below_set (below_set (below_set HB.out GE4.out) GE4.out) GE4.out) GE4.out) GE4.out⟩
  · by_cases h2 : (rs.length : Int) < pid
    · rw [rowAt_out (.inr h2)]
      have TVH := Aside0.mk h
      have h2b : decide ((rs.length : Int) < pid) = true := decide_eq_true h2
      clear h h2
      go_enter Try.func43, Try.ntmps43
      go_wp2_with (first | ((with_reducible refine gate_dst (N := 4) rfl ?_); refine box_event ?hg (N := 4) ?hd (cs := #[.int .i64 0, .int .i64 0, .int .i64 0, .int .i64 0, .int .i64 0]) (t := 79) ?hr ?_; (case hd => rfl); (case hg => rfl); (case hr => first | (go_simp; done) | (go_simp; rfl)); intro g4 hg w4 hbox hb; have n0_ := Aside0.mk (below_step HB.out hb); have n1_ := Aside0.mk (hbox); have n2_ := Aside0.mk ((by rw [hg]; exact below_size HB.out : w.heap.size ≤ g4)); clear HB; have HB := n0_; have BK4 := n1_; have GE4 := n2_; clear n0_ n1_ n2_; have hcz0 : w4.cell? ⟨g4, 0, none⟩ = some (.int .i64 0) := (blk_cell hbox 0).trans rfl; have hfz0 : w4.frozen? ⟨g4, 0, none⟩ = false := blk_frozen hbox 0; have hcz1 : w4.cell? ⟨g4, 1, none⟩ = some (.int .i64 0) := (blk_cell hbox 1).trans rfl; have hfz1 : w4.frozen? ⟨g4, 1, none⟩ = false := blk_frozen hbox 1; have hcz2 : w4.cell? ⟨g4, 2, none⟩ = some (.int .i64 0) := (blk_cell hbox 2).trans rfl; have hfz2 : w4.frozen? ⟨g4, 2, none⟩ = false := blk_frozen hbox 2; have hcz3 : w4.cell? ⟨g4, 3, none⟩ = some (.int .i64 0) := (blk_cell hbox 3).trans rfl; have hfz3 : w4.frozen? ⟨g4, 3, none⟩ = false := blk_frozen hbox 3; have hcz4 : w4.cell? ⟨g4, 4, none⟩ = some (.int .i64 0) := (blk_cell hbox 4).trans rfl; have hfz4 : w4.frozen? ⟨g4, 4, none⟩ = false := blk_frozen hbox 4; clear hg hbox hb) | (go_at_call 31; (with_reducible refine (count_any (TVH.out.below HB.out)).mono ?_); rintro e w' ⟨rfl, rfl⟩))
      refine bodyPost_ret (results_cell_row rfl _ _ g4 79 #[.int .i64 0, .int .i64 0, .int .i64 0, .int .i64 0, .int .i64 0] (0, 0) _ rfl (blk_put (blk_put (blk_put (blk_put (blk_put BK4.out 0 _ rfl) 1 _ rfl) 2 _ rfl) 3 _ rfl) 4 _ rfl) Try.underlying79 rfl (by kernel_rfl)) rfl ?_
      exact ⟨rfl, below_set (below_set (below_set (below_set (below_set HB.out GE4.out) GE4.out) GE4.out) GE4.out) GE4.out⟩
    · obtain ⟨i, rfl⟩ : ∃ i : Nat, pid = (i : Int) + 1 := ⟨(pid - 1).toNat, by omega⟩
      have hi : i < rs.length := by omega
      rw [rowAt_in hi]
      rcases h with ⟨rfl, rfl⟩ | ⟨b, rfl, T⟩
      · simp at hi
      · have TVH := Aside0.mk T.tv
        obtain ⟨v, hb, hr, hge⟩ := T
        obtain ⟨g, c, rfl, hc, hcm⟩ := flat_form hr (by omega)
        have hc2 : w.cell? ⟨b, 2, none⟩ = some (.slice (some ⟨g, 0, none⟩) rs.length c) := (blk_cell hb 2).trans rfl
        generalize hrow : rs.getD i Row.z = r
        have f0 : w.cell? ⟨g, i * 5, none⟩ = some (.int .i64 r.st) := (flat_cell hr hi (j := 0) (u := .int .i64 r.st) (by rw [hrow]; rfl)).1
        have f1 := (flat_cell hr hi (j := 1) (u := .int .i64 r.pa) (by rw [hrow]; rfl)).1
        have f2 := (flat_cell hr hi (j := 2) (u := .int .i64 r.kd) (by rw [hrow]; rfl)).1
        have f3 := (flat_cell hr hi (j := 3) (u := .int .i64 r.ix) (by rw [hrow]; rfl)).1
        have f4 := (flat_cell hr hi (j := 4) (u := .int .i64 r.cd) (by rw [hrow]; rfl)).1
        have h2b : decide ((rs.length : Int) < (i : Int) + 1) = false := decide_eq_false h2
        have hii : (i : Int) < (rs.length : Int) := by omega
        clear hb hr hge hrow h2
        go_enter Try.func43, Try.ntmps43
        go_wp2_with (first | ((with_reducible refine gate_dst (N := 4) rfl ?_); refine box_event ?hg (N := 4) ?hd (cs := #[.int .i64 0, .int .i64 0, .int .i64 0, .int .i64 0, .int .i64 0]) (t := 79) ?hr ?_; (case hd => rfl); (case hg => rfl); (case hr => first | (go_simp; done) | (go_simp; rfl)); intro g4 hg w4 hbox hb; have n0_ := Aside0.mk (below_step HB.out hb); have n1_ := Aside0.mk (hbox); have n2_ := Aside0.mk ((by rw [hg]; exact below_size HB.out : w.heap.size ≤ g4)); clear HB; have HB := n0_; have BK4 := n1_; have GE4 := n2_; clear n0_ n1_ n2_; have hcz0 : w4.cell? ⟨g4, 0, none⟩ = some (.int .i64 0) := (blk_cell hbox 0).trans rfl; have hfz0 : w4.frozen? ⟨g4, 0, none⟩ = false := blk_frozen hbox 0; have hcz1 : w4.cell? ⟨g4, 1, none⟩ = some (.int .i64 0) := (blk_cell hbox 1).trans rfl; have hfz1 : w4.frozen? ⟨g4, 1, none⟩ = false := blk_frozen hbox 1; have hcz2 : w4.cell? ⟨g4, 2, none⟩ = some (.int .i64 0) := (blk_cell hbox 2).trans rfl; have hfz2 : w4.frozen? ⟨g4, 2, none⟩ = false := blk_frozen hbox 2; have hcz3 : w4.cell? ⟨g4, 3, none⟩ = some (.int .i64 0) := (blk_cell hbox 3).trans rfl; have hfz3 : w4.frozen? ⟨g4, 3, none⟩ = false := blk_frozen hbox 3; have hcz4 : w4.cell? ⟨g4, 4, none⟩ = some (.int .i64 0) := (blk_cell hbox 4).trans rfl; have hfz4 : w4.frozen? ⟨g4, 4, none⟩ = false := blk_frozen hbox 4; have hc2 := pw_cell_below hb hc2; have f0 := pw_cell_below hb f0; have f1 := pw_cell_below hb f1; have f2 := pw_cell_below hb f2; have f3 := pw_cell_below hb f3; have f4 := pw_cell_below hb f4; clear hg hbox hb) | (go_at_call 31; (with_reducible refine (count_any (TVH.out.below HB.out)).mono ?_); rintro e w' ⟨rfl, rfl⟩))
        refine bodyPost_ret (results_cell_row rfl _ _ g4 79 #[.int .i64 r.st, .int .i64 r.pa, .int .i64 r.kd, .int .i64 r.ix, .int .i64 r.cd] (0, 0) _ rfl (blk_put (blk_put (blk_put (blk_put (blk_put BK4.out 0 _ rfl) 1 _ rfl) 2 _ rfl) 3 _ rfl) 4 _ rfl) Try.underlying79 rfl (by kernel_rfl)) rfl ?_
        exact ⟨rfl, below_set (below_set (below_set (below_set (below_set HB.out GE4.out) GE4.out) GE4.out) GE4.out) GE4.out⟩

end Go.Proofs.Ytfllnpfikdhdbaa.PProcs
