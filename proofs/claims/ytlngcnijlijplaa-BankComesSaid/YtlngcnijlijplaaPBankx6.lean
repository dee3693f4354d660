-- Written by a program of this session (over the kit's printer): not typed by hand.
import Derived.Test.YtlngcnijlijplaaPBankx0
import Derived.Test.YtlngcnijlijplaaPBankx5
import Derived.Maps.OwnSet
namespace Go.Proofs.Ytlngcnijlijplaa.PBank
open Go.RowKit Go.Proofs.YtlngcnijlijplaaW.PrintWords Go.Proofs.YtlngcnijlijplaaW.PrintLast Go.Proofs.YtlngcnijlijplaaW.PrintMore
attribute [local go_sem] max2_int min2_int max_two min_two max_three min_three max_four min_four   -- for this text's walks alone
set_option linter.unusedVariables false
set_option linter.unusedSimpArgs false

/-! ### bank_begin: function 20 -/
/-! A map from whole numbers, made by the call: its entries are those of a list of keys, each born at its key's number. -/
section
open Go.ChangeMaps Go.MapKept
def ment (vs : Nat → Value) (i : Nat) : MapEntry := ⟨.int .i64 (i : Int), vs i, i⟩
def mapO (vs : Nat → Value) (L : List Nat) (clock : Nat) : Obj := .map (L.map (ment vs)).toArray clock
theorem mfind_none {vs : Nat → Value} {x : Int} : ∀ (L : List Nat) (j : Nat), (∀ i ∈ L, x ≠ (i : Int)) → Instr.findNow (.int .i64) (.int .i64 x) (L.map (ment vs)) j = some none
  | [], _, _ => rfl
  | i :: L, j, h => by
    have h1 : (x == (i : Int)) = false := by simpa using h i (by simp)
    simp only [List.map_cons, Instr.findNow, ment, Instr.sameNow, if_true, h1]
    exact mfind_none L (j + 1) (fun k hk => h k (by simp [hk]))
theorem mfind_some {vs : Nat → Value} {x : Nat} : ∀ (L : List Nat) (j : Nat), x ∈ L → Instr.findNow (.int .i64) (.int .i64 (x : Int)) (L.map (ment vs)) j = some (some (j + L.idxOf x, vs x))
  | [], _, h => by simp at h
  | i :: L, j, h => by
    by_cases e : x = i
    · subst e
      simp [Instr.findNow, ment, Instr.sameNow]
    · have h1 : ((x : Int) == (i : Int)) = false := by simp; omega
      have h2 : x ∈ L := by
        rcases List.mem_cons.1 h with q | q
        · exact absurd q e
        · exact q
      have h3 : (i == x) = false := by simpa using fun q => e (Eq.symm q)
      simp only [List.map_cons, Instr.findNow, ment, Instr.sameNow, if_true, h1]
      rw [mfind_some L (j + 1) h2, List.idxOf_cons, h3]
      simp; omega
section
variable {P : Program} {w : World} {t k e : TypeId} {b : Nat} {vs : Nat → Value} {L : List Nat} {clock : Nat}
theorem mkey (hk : P.underlying k = some (.int .i64)) (em : Bool) (x : Int) : (Instr.checkKey em 10000 k (.int .i64 x)).run P w = .ok () w := run_checkKey (d := .int .i64) (k := .int .i64 x) hk rfl em 9999
theorem mlook_in (ht : P.underlying t = some (.map k e)) (hk : P.underlying k = some (.int .i64)) (hb : w.heap[b]? = some (mapO vs L clock)) {x : Nat} (hx : x ∈ L) (c : Bool) :
    (Instr.lookup t (.map (some b)) (.int .i64 (x : Int)) c).run P w = .ok (if c then .tuple #[vs x, .bool true] else vs x) w := by
  unfold mapO at hb
  simp [Instr.lookup, run_underlying ht, Result.andThen, Go.MapKept.run_getObj_map hb, mkey hk, run_findKey hk (mfind_some L 0 hx)]
theorem mlook_out (ht : P.underlying t = some (.map k e)) (hk : P.underlying k = some (.int .i64)) {z : Value} (hz : (zeroValue e).run P w = .ok z w) (hb : w.heap[b]? = some (mapO vs L clock)) {x : Int} (hx : ∀ i ∈ L, x ≠ (i : Int)) (c : Bool) :
    (Instr.lookup t (.map (some b)) (.int .i64 x) c).run P w = .ok (if c then .tuple #[z, .bool false] else z) w := by
  unfold mapO at hb
  simp [Instr.lookup, run_underlying ht, Result.andThen, Go.MapKept.run_getObj_map hb, mkey hk, run_findKey hk (mfind_none L 0 hx), hz]
theorem mlen (ht : P.underlying t = some (.map k e)) (hb : w.heap[b]? = some (mapO vs L clock)) (ty : TypeId) : (Builtin.len_ #[t] ty #[.map (some b)]).run P w = .ok (.int .i64 (L.length : Int)) w := by
  unfold mapO at hb
  simp [Builtin.len_, run_underlying ht, Go.MapKept.run_getObj_map hb, goInt, Result.andThen]
theorem mdel (ht : P.underlying t = some (.map k e)) (hk : P.underlying k = some (.int .i64)) (hb : w.heap[b]? = some (mapO vs L clock)) {x : Nat} (hx : x ∈ L) (ty : TypeId) :
    (Builtin.delete_ #[t, k] ty #[.map (some b), .int .i64 (x : Int)]).run P w = .ok (.tuple #[]) (setBlock w b (mapO vs (L.erase x) clock)) := by
  have hb' := hb
  unfold mapO at hb'
  have hi : L.idxOf x < L.length := List.idxOf_lt_length_of_mem hx
  have he : (L.map (ment vs)).eraseIdx (L.idxOf x) = (L.erase x).map (ment vs) := by
    rw [← map_eraseIdx, List.erase_eq_eraseIdx_of_idxOf rfl]
  simp [Builtin.delete_, run_underlying ht, Go.MapKept.run_getObj_map hb', Result.andThen, mkey hk, run_findKey hk (mfind_some L 0 hx), run_setObj_map _ hb']
  unfold mapO setBlock
  rw [← he]
/-- 'm[n] = v', first half: the place of a key that is not there yet. -/
theorem mplace (ht : P.underlying t = some (.map k e)) (hk : P.underlying k = some (.int .i64)) {z : Value} (hz : (zeroValue e).run P w = .ok z w) {n : Nat} (hb : w.heap[b]? = some (mapO vs L n)) (hn : n ∉ L) :
    (Instr.mapEntry t (.map (some b)) (.int .i64 (n : Int))).run P w = .ok (.tuple #[z, .int .i64 (n : Int)]) (setBlock w b (mapO (fun i => if i = n then z else vs i) (L ++ [n]) (n + 1))) := by
  have hb' := hb
  unfold mapO at hb'
  have hx : ∀ i ∈ L, (n : Int) ≠ (i : Int) := fun i hi q => hn (by
    have e : n = i := by omega
    rw [e]; exact hi)
  have he : L.map (ment vs) ++ [{ key := .int .i64 (n : Int), val := z, born := n }] = (L ++ [n]).map (ment (fun i => if i = n then z else vs i)) := by
    simp only [List.map_append, List.map_cons, List.map_nil, ment, if_true]
    congr 1
    refine List.map_congr_left (fun i hi => ?_)
    have q : i ≠ n := fun q => hn (by rw [← q]; exact hi)
    simp [ment, q]
  simp [Instr.mapEntry, run_underlying ht, Result.andThen, Go.MapKept.run_getObj_map hb', mkey hk, run_findKey hk (mfind_none L 0 hx), hz, run_setObj_map _ hb', goInt]
  unfold mapO setBlock
  rw [he]
/-- .. second half: the value. -/
theorem mput {n : Nat} {v : Value} (hb : w.heap[b]? = some (mapO vs (L ++ [n]) clock)) (hn : n ∉ L) :
    (Instr.entryStore t (.map (some b)) (.int .i64 (n : Int)) v).run P w = .ok () (setBlock w b (mapO (fun i => if i = n then v else vs i) (L ++ [n]) clock)) := by
  have hb' := hb
  unfold mapO at hb'
  have hf : (((L ++ [n]).map (ment vs)).toArray.findIdx? (fun e => (e.born : Int) == (n : Int))) = some L.length := by
    rw [List.findIdx?_toArray, List.findIdx?_map]
    rw [List.findIdx?_append]
    have h0 : L.findIdx? ((fun e : MapEntry => (e.born : Int) == (n : Int)) ∘ ment vs) = none := by
      rw [List.findIdx?_eq_none_iff]
      intro i hi
      simp only [Function.comp, ment, beq_eq_false_iff_ne]
      intro q
      exact hn (by have : i = n := by omega
                   exact this ▸ hi)
    rw [h0]
    simp [Function.comp, ment]
  have he : (L.map (ment vs) ++ [ment vs n]).modify L.length (fun e => { key := e.key, val := v, born := e.born }) = (L ++ [n]).map (ment (fun i => if i = n then v else vs i)) := by
    apply List.ext_getElem?
    intro j
    rw [List.getElem?_modify]
    by_cases hj : L.length = j
    · subst hj
      simp [ment]
    · simp only [hj, if_false, id_map']
      rcases Nat.lt_or_ge j L.length with q | q
      · rw [List.map_append, List.getElem?_append_left (by simpa using q), List.getElem?_append_left (by simpa using q), List.getElem?_map, List.getElem?_map, List.getElem?_eq_getElem q]
        have : L[j] ≠ n := fun e => hn (e ▸ List.getElem_mem q)
        simp [ment, this]
      · rw [List.getElem?_eq_none_iff.2 (by simp; omega), List.getElem?_eq_none_iff.2 (by simp; omega)]
  have hf' : (L.findIdx? ((fun e : MapEntry => (e.born : Int) == (n : Int)) ∘ ment vs)).or (if ((ment vs n).born : Int) = (n : Int) then some L.length else none) = some L.length := by simpa using hf
  simp [Instr.entryStore, Go.MapKept.run_getObj_map hb', Result.andThen, asInt, asIntOf, hf', run_setObj_map _ hb']
  unfold mapO setBlock
  rw [he]
end
/-! ### at the operation -/
section
variable {P : Program} {o : Oper} {a : Act} {W W' : World}
theorem exec_lookup {t : TypeId} {m x : Operand} {mv xv v : Value} {c : Bool} (hop : o.op = .lookup t m x c) (hm : a.eval m = mv) (hx : a.eval x = xv) (h : (Instr.lookup t mv xv c).run P W = .ok v W') : (execOp a.eval o).run P W = .ok (.value v) W' := by
  simp [execOp, hop, hm, hx, h, Result.andThen]
theorem exec_place {t : TypeId} {m x : Operand} {mv xv v : Value} (hop : o.op = .mapEntry t m x) (hm : a.eval m = mv) (hx : a.eval x = xv) (h : (Instr.mapEntry t mv xv).run P W = .ok v W') : (execOp a.eval o).run P W = .ok (.value v) W' := by
  simp [execOp, hop, hm, hx, h, Result.andThen]
theorem exec_put {t : TypeId} {m s x : Operand} {mv sv xv : Value} (hop : o.op = .entryStore t m s x) (hm : a.eval m = mv) (hs : a.eval s = sv) (hx : a.eval x = xv) (h : (Instr.entryStore t mv sv xv).run P W = .ok () W') : (execOp a.eval o).run P W = .ok .skip W' := by
  simp [execOp, hop, hm, hs, hx, h, Result.andThen]
theorem exec_make {t : TypeId} {v : Value} (hop : o.op = .makeMap t none) (h : (Instr.makeMap t none).run P W = .ok v W') : (execOp a.eval o).run P W = .ok (.value v) W' := by
  simp [execOp, hop, h, Result.andThen]
theorem exec_len {t : TypeId} {m : Operand} {mv v : Value} (hop : o.op = .call { callee := .builtin .len, args := #[m], argTypes := #[t] }) (hm : a.eval m = mv) (h : (Builtin.len_ #[t] o.type #[mv]).run P W = .ok v W') : (execOp a.eval o).run P W = .ok (.value v) W' := by
  simp [execOp, hop, resolve, invoke, builtin, hm, h, Result.andThen]
theorem exec_del {t k : TypeId} {m x : Operand} {mv xv v : Value} (hop : o.op = .call { callee := .builtin .delete, args := #[m, x], argTypes := #[t, k] }) (hm : a.eval m = mv) (hx : a.eval x = xv) (h : (Builtin.delete_ #[t, k] o.type #[mv, xv]).run P W = .ok v W') : (execOp a.eval o).run P W = .ok (.value v) W' := by
  simp [execOp, hop, resolve, invoke, builtin, hm, hx, h, Result.andThen]
end
theorem map_event {P : Program} {ops : Array Oper} {rest : List Oper} {o : Oper} {a : Act} {Q : Exit → Act → World → Prop} {W : World} {t : TypeId} (hgd : o.guard = none) {N : Tmp} (_hd : o.dst = some N) (hop : o.op = .makeMap t none)
    (h : ∀ g, g = W.heap.size → ∀ w1, w1.heap[g]? = some (mapO (fun _ => undef) [] 0) → Below W.heap.size W w1 → wpList P ops Q rest (a.put o.dst (.map (some g))) w1) : wpList P ops Q (o :: rest) a W :=
  Kd.event_run hgd (exec_make hop (run_makeMap t W)) (h _ rfl _ (blk_new W _) (below_alloc (Below.refl _ _) _))
/-- What a block's change leaves. -/
theorem setBlock_same {w : World} {b : Nat} {o o' : Obj} (hb : w.heap[b]? = some o) : (setBlock w b o').heap[b]? = some o' := (heap_set hb).1
theorem setBlock_other {w : World} {b i : Nat} {o o' : Obj} (hb : w.heap[b]? = some o) (h : i ≠ b) : (setBlock w b o').heap[i]? = w.heap[i]? := (heap_set hb).2 i h
theorem mapO_congr {vs vs' : Nat → Value} {L : List Nat} {c : Nat} (h : ∀ i ∈ L, vs i = vs' i) : mapO vs L c = mapO vs' L c := by
  have e : L.map (ment vs) = L.map (ment vs') := List.map_congr_left (fun i hi => by simp [ment, h i hi])
  unfold mapO
  rw [e]
theorem below_block {w W : World} {b : Nat} {vs vs' : Nat → Value} {L L' : List Nat} {c c' : Nat} (h : Below w.heap.size w W) (hb : W.heap[b]? = some (mapO vs L c)) (hge : w.heap.size ≤ b) : Below w.heap.size w (setBlock W b (mapO vs' L' c')) :=
  h.grown (World.mapTurned.grown ⟨_, _, _, _, hb, rfl⟩) h.size (fun j hj => by cases hj; exact hge)
theorem grown_block {W : World} {b : Nat} {vs vs' : Nat → Value} {L L' : List Nat} {c c' : Nat} (hb : W.heap[b]? = some (mapO vs L c)) : W.grownBy (setBlock W b (mapO vs' L' c')) (some b) := World.mapTurned.grown ⟨_, _, _, _, hb, rfl⟩
theorem obj_far {w : World} {b : Nat} {o : Obj} (h : w.heap[b]? = some o) {p : Addr} (hp : b ≠ p.block) (u : Value) : (w.setCell p u).heap[b]? = some o := (Below.heap_setCell w p u b hp).trans h
theorem map_ne_cells {w : World} {b g : Nat} {vs : Nat → Value} {L : List Nat} {c t : Nat} {cs : Array Value} {z : Nat × Nat} (h : w.heap[b]? = some (mapO vs L c)) (k : w.heap[g]? = some (.cells cs t z)) : b ≠ g := by
  intro e
  rw [e, k] at h
  unfold mapO at h
  cases h
theorem own_ne_map {w : World} {b base e : Nat} {vs : Nat → Value} {L : List Nat} {c : Nat} {v : Value} {xs : List Int} {ok : Nat → Prop} (h : Kd.R (Kd.int .i64) e w base ok v xs) (k : w.heap[b]? = some (mapO vs L c)) : some b ≠ v.ownBlock := by
  intro q
  obtain ⟨_, h2⟩ := Kd.own_of_R h
  rcases h2 with ⟨rfl, _⟩ | ⟨g, cap, cur, rfl, _, hb, _⟩
  · cases q
  · have e : b = g := Option.some.inj q
    exact map_ne_cells k hb e
end
section
variable {P : Program} {w : World} {t k e : TypeId} {b : Nat} {vs : Nat → Value} {L : List Nat} {clock : Nat}
theorem mlook_t (ht : P.underlying t = some (.map k e)) (hk : P.underlying k = some (.int .i64)) (hb : w.heap[b]? = some (mapO vs L clock)) {x : Nat} (hx : x ∈ L) {v : Value} (hv : vs x = v) :
    (Instr.lookup t (.map (some b)) (.int .i64 (x : Int)) true).run P w = .ok (.tuple #[v, .bool true]) w := by rw [← hv]; exact mlook_in ht hk hb hx true
theorem mlook_f (ht : P.underlying t = some (.map k e)) (hk : P.underlying k = some (.int .i64)) (hb : w.heap[b]? = some (mapO vs L clock)) {x : Nat} (hx : x ∈ L) {v : Value} (hv : vs x = v) :
    (Instr.lookup t (.map (some b)) (.int .i64 (x : Int)) false).run P w = .ok v w := by rw [← hv]; exact mlook_in ht hk hb hx false
end
/-- The slice that lies in a row's element. -/
def rowV (w : World) (A : Option Addr) (i : Nat) : Value := match A with | some ad => (w.cell? (ad.add i)).getD undef | none => undef
theorem rowV_at {w : World} {A : Option Addr} {n : Nat} {xs : List (List Int)} (h : Kd.C (Kd.slice 3 (Kd.int .i64)) w A n xs) (i : Nat) (hi : i < n) :
    ∃ ad A0 c0, A = some ad ∧ w.cell? (ad.add i) = some (rowV w A i) ∧ rowV w A i = .slice A0 (rd_L1 xs i).length c0 ∧ (rd_L1 xs i).length ≤ c0 ∧ (Kd.int .i64).C w A0 (rd_L1 xs i).length (rd_L1 xs i) := by
  obtain ⟨ad, A0, c0, e, hc, hl, hr⟩ := at_L1 h (i : Int) (by omega) (by omega)
  rw [Int.toNat_natCast] at hc
  subst e
  have hv : rowV w (some ad) i = .slice A0 (rd_L1 xs i).length c0 := by unfold rowV; simp only [hc]; rfl
  exact ⟨ad, A0, c0, rfl, by rw [hv]; exact hc, hv, hl, hr⟩
theorem rowV_later {w w1 : World} {A : Option Addr} {n : Nat} {xs : List (List Int)} (h : Kd.C (Kd.slice 3 (Kd.int .i64)) w A n xs) (hb : Below w.heap.size w w1) (i : Nat) (hi : i < n) : rowV w1 A i = rowV w A i := by
  obtain ⟨ad, A0, c0, rfl, hc, _⟩ := rowV_at h i hi
  have h1 := pw_cell_below hb hc
  have e : ∀ W : World, rowV W (some ad) i = (W.cell? (ad.add i)).getD undef := fun _ => rfl
  rw [e w1, h1]; rfl
def bank_begin.T5 : Bool × List (List Nat × List Nat) := (true, [([], []), ([0], [0]), ([], []), ([], []), ([3], [3]), ([], []), ([], []), ([], []), ([6, 7], [6, 7]), ([8], [8]), ([], []), ([], []), ([10, 11], [10, 11]), ([12], [12]), ([1, 2, 13], [1, 2]), ([14], [14]), ([1, 15, 9, 14, 0, 1, 2, 6, 7, 8, 9, 13, 14], [1, 9, 15]), ([4, 5, 16, 0, 1, 2, 6, 7, 8, 9, 13, 14, 15, 16], [4, 5]), ([17], [17]), ([4, 18, 13, 17, 0, 1, 2, 3, 4, 5, 6, 7, 8, 9, 10, 11, 12, 13, 14, 15, 16, 17], [4, 13, 18])])
theorem bank_begin.tab5 : rtab .any (opsOf Try.f20 5) = bank_begin.T5 := by kernel_rfl
theorem zero22 (w : World) : (zeroValue 22).run Try.prog w = .ok (.slice none 0 0) w := by kernel_rfl
set_option maxHeartbeats 8000000 in
set_option maxRecDepth 100000 in
theorem bank_begin.calls (A0 : Option Addr) (c0 : Nat) (l0 : List Int) (A1 : Option Addr) (c1 : Nat) (l1 : List (List Int)) (A2 : Option Addr) (c2 : Nat) (l2 : List (List Int)) (w : World) (hr0 : Kd.C (Kd.int .i64) w A0 l0.length l0) (hc0 : l0.length ≤ c0) (hr1 : Kd.C (Kd.slice 3 (Kd.int .i64)) w A1 l1.length l1) (hc1 : l1.length ≤ c1) (hr2 : Kd.C (Kd.slice 3 (Kd.int .i64)) w A2 l2.length l2) (hc2 : l2.length ≤ c2)
    (hn : l1.length ≤ l2.length) (hm : l1.length ≤ 32) (hl : l0.length ≤ 6) :
    Calls Try.prog 20 #[.slice A0 l0.length c0, .slice A1 l1.length c1, .slice A2 l2.length c2] w fun e w' => ∃ (tv : Value) (bh bc : Nat), e = .returned (.agg #[tv, .map (some bh), .map (some bc)]) ∧
      Kd.R (Kd.int .i64) 3 w' w.heap.size (fun _ => True) tv l0 ∧ w'.heap[bh]? = some (mapO (rowV w A1) (List.range l1.length) l1.length) ∧ w'.heap[bc]? = some (mapO (rowV w A2) (List.range l1.length) l1.length) ∧ w.heap.size ≤ bh ∧ w.heap.size ≤ bc ∧ bh ≠ bc ∧ Below w.heap.size w w' := by
  have HR0 := Aside0.mk hr0
  have HC0 := Aside0.mk hc0
  have HR1 := Aside0.mk hr1
  have HR2 := Aside0.mk hr2
  have HN := Aside0.mk hn
  have HL := Aside0.mk hl
  have HM := Aside0.mk hm
  have HB := Aside0.mk (Below.refl w.heap.size w)
  clear hr0 hc0 hr1 hr2 hn hl hm hc1 hc2
  have hu35 := Try.underlying35
  have hu37 := Try.underlying37
  go_enter Try.func20, Try.ntmps20
  go_upto_region 2 with (first
    | ((with_reducible refine gate_dst (N := 6) rfl ?_); refine box_event ?hg (N := 6) ?hd (cs := #[.slice none 0 0, .map none, .map none]) (t := 37) ?hr ?_; (case hd => rfl); (case hg => rfl); (case hr => first | (go_simp; done) | (go_simp; rfl)); intro g6 hg w6 hbox hb; have n0_ := Aside0.mk (below_step HB.out hb); have BK6 := Aside0.mk hbox; have GE6 := Aside0.mk ((by rw [hg]; exact (below_size HB.out)) : w.heap.size ≤ g6); clear HB; have HB := n0_; clear n0_; clear hg hbox hb)
    | ((with_reducible refine gate_callee (f := 32) rfl ?_); refine goesL_ (some 10) rfl rfl Try.func32 (by kernel_rfl) rfl #[.slice A0 l0.length c0] rfl (by (try simp only [List.map_toArray, List.map_cons, List.map_nil]); first | done | rfl) ?_; (with_reducible refine (slices_Clone_int_int.calls _ _ l0 l0 _ ?side1 HC0.out ?side2).mono ?_); (case side1 => exact Kd.C_below HR0.out HB.out); (case side2 => unfold slices_Clone_int_int.f; exact if_pos (by have := HL.out; omega)); rintro e w10 ⟨tv, rfl, ho, hb⟩; refine ⟨_, rfl, ?_⟩; obtain ⟨At, ct, et⟩ := Kd.R_slice ho; subst et; have n0_ := Aside0.mk (below_step HB.out hb); have n1_ := Aside0.mk (blk_below BK6.out hb); have n2_ := Aside0.mk (Kd.R_lower (Kd.R_newB ho BK6.out) (below_size HB.out)); clear HB BK6; have HB := n0_; have BK6 := n1_; have HO := n2_; clear n0_ n1_ n2_; clear ho hb)
    | ((with_reducible refine gate_dst (N := 11) rfl ?_); refine map_event rfl (N := 11) rfl rfl ?_; intro bh hg w11 hmap hb; have n0_ := Aside0.mk (below_step HB.out hb); have n1_ := Aside0.mk (blk_below BK6.out hb); have n2_ := Aside0.mk (Kd.R_below HO.out hb); have MH := Aside0.mk hmap; have GEH := Aside0.mk ((by rw [hg]; exact (below_size HB.out)) : w.heap.size ≤ bh); clear HB BK6 HO; have HB := n0_; have BK6 := n1_; have HO := n2_; clear n0_ n1_ n2_; clear hg hmap hb)
    | ((with_reducible refine gate_dst (N := 12) rfl ?_); refine map_event rfl (N := 12) rfl rfl ?_; intro bc hg w12 hmap hb; have n0_ := Aside0.mk (below_step HB.out hb); have n1_ := Aside0.mk (blk_below BK6.out hb); have n2_ := Aside0.mk (Kd.R_below HO.out hb); have n3_ := Aside0.mk (blk_below MH.out hb); have MC := Aside0.mk hmap; have GEC := Aside0.mk ((by rw [hg]; exact (below_size HB.out)) : w.heap.size ≤ bc); have NHC := Aside0.mk ((by have := blk_lt MH.out; omega) : bh ≠ bc); clear HB BK6 HO MH; have HB := n0_; have BK6 := n1_; have HO := n2_; have MH := n3_; clear n0_ n1_ n2_ n3_; clear hg hmap hb)
    | ((with_reducible refine gate_dst (N := 7) rfl ?_); refine box_event ?hg (N := 7) ?hd (cs := #[.slice none 0 0, .map none, .map none]) (t := 37) ?hr ?_; (case hd => rfl); (case hg => rfl); (case hr => first | (go_simp; done) | (go_simp; rfl)); intro g7 hg w7 hbox hb; have n0_ := Aside0.mk (below_step HB.out hb); have n1_ := Aside0.mk (blk_below BK6.out hb); have n2_ := Aside0.mk (Kd.R_below HO.out hb); have n3_ := Aside0.mk (blk_below MH.out hb); have n4_ := Aside0.mk (blk_below MC.out hb); have BK7 := Aside0.mk hbox; have GE7 := Aside0.mk ((by rw [hg]; exact (below_size HB.out)) : w.heap.size ≤ g7); have N67 := Aside0.mk ((by have := blk_lt BK6.out; omega) : g6 ≠ g7); have hcz0 : w7.cell? ⟨g7, 0, none⟩ = some (.slice none 0 0) := (blk_cell hbox 0).trans rfl; have hcz1 : w7.cell? ⟨g7, 1, none⟩ = some (.map none) := (blk_cell hbox 1).trans rfl; have hcz2 : w7.cell? ⟨g7, 2, none⟩ = some (.map none) := (blk_cell hbox 2).trans rfl; have hfz0 : w7.frozen? ⟨g7, 0, none⟩ = false := blk_frozen hbox 0; have hfz1 : w7.frozen? ⟨g7, 1, none⟩ = false := blk_frozen hbox 1; have hfz2 : w7.frozen? ⟨g7, 2, none⟩ = false := blk_frozen hbox 2; clear HB BK6 HO MH MC; have HB := n0_; have BK6 := n1_; have HO := n2_; have MH := n3_; have MC := n4_; clear n0_ n1_ n2_ n3_ n4_; clear hg hbox hb))
  have NH7 := map_ne_cells MH.out BK7.out
  have NC7 := map_ne_cells MC.out BK7.out
  have n0_ := Aside0.mk (blk_put (cs' := #[.slice At l0.length ct, .map (some bh), .map (some bc)]) (blk_put (cs' := #[.slice At l0.length ct, .map (some bh), .map none]) (blk_put (cs' := #[.slice At l0.length ct, .map none, .map none]) BK7.out 0 (.slice At l0.length ct) rfl) 1 (.map (some bh)) rfl) 2 (.map (some bc)) rfl)
  have n1_ := Aside0.mk (blk_far (blk_far (blk_far BK6.out (p := ⟨g7, 0, none⟩) N67.out (.slice At l0.length ct)) (p := ⟨g7, 1, none⟩) N67.out (.map (some bh))) (p := ⟨g7, 2, none⟩) N67.out (.map (some bc)))
  have n2_ := Aside0.mk (obj_far (obj_far (obj_far MH.out (p := ⟨g7, 0, none⟩) NH7 (.slice At l0.length ct)) (p := ⟨g7, 1, none⟩) NH7 (.map (some bh))) (p := ⟨g7, 2, none⟩) NH7 (.map (some bc)))
  have n3_ := Aside0.mk (obj_far (obj_far (obj_far MC.out (p := ⟨g7, 0, none⟩) NC7 (.slice At l0.length ct)) (p := ⟨g7, 1, none⟩) NC7 (.map (some bh))) (p := ⟨g7, 2, none⟩) NC7 (.map (some bc)))
  have n4_ := Aside0.mk (Kd.R_far (Kd.R_far (Kd.R_far (Kd.R_types HO.out BK7.out (by intro q hq; rcases List.mem_cons.1 hq with rfl | hq; exact (by decide); cases hq)) (p := ⟨g7, 0, none⟩) (fun k hk => hk.2) (.slice At l0.length ct)) (p := ⟨g7, 1, none⟩) (fun k hk => hk.2) (.map (some bh))) (p := ⟨g7, 2, none⟩) (fun k hk => hk.2) (.map (some bc)))
  have n5_ := Aside0.mk (below_set (j := 2) (v := .map (some bc)) (below_set (j := 1) (v := .map (some bh)) (below_set (j := 0) (v := .slice At l0.length ct) HB.out GE7.out) GE7.out) GE7.out)
  clear BK7 BK6 MH MC HO HB hcz0 hcz1 hcz2 hfz0 hfz1 hfz2
  generalize (((w7.setCell { block := g7, off := 0 } (Value.slice At l0.length ct)).setCell { block := g7, off := 1 } (Value.map (some bh))).setCell { block := g7, off := 2 } (Value.map (some bc))) = w8 at n0_ n1_ n2_ n3_ n4_ n5_ ⊢
  have BK7 := n0_
  have BK6 := n1_
  have MH := n2_
  have MC := n3_
  have HO := Aside0.mk (Kd.R_mono (ok' := fun k => k ≠ g6 ∧ k ≠ g7) n4_.out (fun k hk => ⟨hk.1.2, hk.2⟩))
  have HB := n5_
  clear n0_ n1_ n2_ n3_ n4_ n5_
  go_wp2
  have LEN := Aside0.mk (show (l1.length : Int) ≤ 32 by have := HM.out; omega)
  go_loopw [16] (fun i wr => ∃ k : Nat, k ≤ l1.length ∧ i = .int .i64 (k : Int) ∧ Aside0 (wr.heap[g7]? = some (.cells #[.slice At l0.length ct, .map (some bh), .map (some bc)] 37 (0, 0))) ∧ Aside0 (wr.heap[g6]? = some (.cells #[.slice none 0 0, .map none, .map none] 37 (0, 0))) ∧
    Aside0 (wr.heap[bh]? = some (mapO (rowV w A1) (List.range k) k)) ∧ Aside0 (wr.heap[bc]? = some (mapO (rowV w A2) (List.range k) k)) ∧ Aside0 (Kd.R (Kd.int .i64) 3 wr w.heap.size (fun k => k ≠ g6 ∧ k ≠ g7) (.slice At l0.length ct) l0) ∧ Aside0 (Below w.heap.size w wr)) (fun i _ => l1.length - (intOf i).toNat)
  case atStart => exact ⟨0, Nat.zero_le _, rfl, BK7, BK6, ⟨MH.out⟩, ⟨MC.out⟩, HO, HB⟩
  case round =>
    obtain ⟨k, hk, rfl, BK7, BK6, MH, MC, HO, HB⟩ := hrel
    by_cases hlt : k < l1.length
    · obtain ⟨ad1, Ah, ch, e1, hx1, hv1, hl1, hr1⟩ := rowV_at HR1.out k hlt
      obtain ⟨ad2, Ac, cc, e2, hx2, hv2, hl2, hr2⟩ := rowV_at HR2.out k (by have := HN.out; omega)
      have hkL : k ∉ List.range k := by simp
      have hk1 : (k : Int) < (l1.length : Int) := by omega
      have hk2 : (k : Int) < (l2.length : Int) := by have := HN.out; omega
      have HX1 := Aside0.mk hx1
      have HX2 := Aside0.mk hx2
      clear hx1 hx2 hv1 hl1 hr1 hv2 hl2 hr2
      obtain ⟨v1, ev1⟩ : ∃ v1, v1 = rowV w A1 k := ⟨_, rfl⟩
      obtain ⟨v2, ev2⟩ : ∃ v2, v2 = rowV w A2 k := ⟨_, rfl⟩
      have EV1 := Aside0.mk ev1
      have EV2 := Aside0.mk ev2
      rw [← ev1] at HX1
      rw [← ev2] at HX2
      clear ev1 ev2
      cases e1
      cases e2
      have hS : ∀ W : World, W.heap[g7]? = some (.cells #[.slice At l0.length ct, .map (some bh), .map (some bc)] 37 (0, 0)) → Below w.heap.size w W → (W.cell? ⟨g7, 1, none⟩ = some (.map (some bh)) ∧ W.cell? ⟨g7, 2, none⟩ = some (.map (some bc)) ∧ W.cell? (ad1.add k) = some v1 ∧ W.cell? (ad2.add k) = some v2) :=
        fun W h1 h2 => ⟨(blk_cell h1 1).trans rfl, (blk_cell h1 2).trans rfl, pw_cell_below h2 HX1.out, pw_cell_below h2 HX2.out⟩
      have HS := Aside0.mk hS
      clear hS
      go_upto_region 5 with (fail)
      have n0_ := Aside0.mk (blk_drew BK7.out)
      have n1_ := Aside0.mk (blk_drew BK6.out)
      have n2_ := Aside0.mk (Kd.R_drew HO.out)
      have n3_ := Aside0.mk (below_drew1 HB.out)
      have n4_ : Aside0 (wr.drew.heap[bh]? = some (mapO (rowV w (some ad1)) (List.range k) k)) := ⟨MH.out⟩
      have n5_ : Aside0 (wr.drew.heap[bc]? = some (mapO (rowV w (some ad2)) (List.range k) k)) := ⟨MC.out⟩
      clear BK7 BK6 HO HB MH MC
      have BK7 := n0_
      have BK6 := n1_
      have HO := n2_
      have HB := n3_
      have MH := n4_
      have MC := n5_
      clear n0_ n1_ n2_ n3_ n4_ n5_
      refine start_ (n := 20) (S := fun w' => w'.cell? ⟨g7, 1, none⟩ = some (.map (some bh)) ∧ w'.cell? ⟨g7, 2, none⟩ = some (.map (some bc)) ∧ w'.cell? (ad1.add k) = some v1 ∧ w'.cell? (ad2.add k) = some v2) (ds := []) #[false, false, false, false, false, false, false, false, false, false, false, false, false, false, false, false, false, false, false, false] (by kernel_rfl) rfl rfl (HS.out _ BK7.out HB.out) (fun hHeld => ?_); refine with_tab bank_begin.tab5 (fun HT_ => ?_)
      generalize wr.drew = w13 at BK7 BK6 HO HB MH MC hHeld ⊢
      refine take_ (i := 0) (N := some 19) (v := ?_) (a' := ?_) #[true, false, false, false, false, false, false, false, false, false, false, false, false, false, false, false, false, false, false, false] rfl rfl (take_of HT_.out (by kernel_rfl)) (fun _ _ _ h => h) (Or.inl ⟨by rfl, ?_⟩) hHeld ?_ ?_
      rotate_left
      · rintro w' ⟨s0, s1, sA, sC⟩
        go_simp
        with_reducible rfl
      rotate_left
      · simp only [Act.put, List.setIfInBounds_toArray, List.set_cons_zero, List.set_cons_succ]
        rfl
      refine take_ (i := 1) (N := some 20) (v := ?_) (a' := ?_) #[true, true, false, false, false, false, false, false, false, false, false, false, false, false, false, false, false, false, false, false] rfl rfl (take_of HT_.out (by kernel_rfl)) (fun _ _ _ h => h) (Or.inl ⟨by rfl, ?_⟩) hHeld ?_ ?_
      rotate_left
      · rintro w' ⟨s0, s1, sA, sC⟩
        go_simp
        with_reducible rfl
      rotate_left
      · simp only [Act.put, List.setIfInBounds_toArray, List.set_cons_zero, List.set_cons_succ]
        rfl
      refine take_ (i := 2) (N := some 21) (v := ?_) (a' := ?_) #[true, true, true, false, false, false, false, false, false, false, false, false, false, false, false, false, false, false, false, false] rfl rfl (take_of HT_.out (by kernel_rfl)) (fun _ _ _ h => h) (Or.inl ⟨by rfl, ?_⟩) hHeld ?_ ?_
      rotate_left
      · rintro w' ⟨s0, s1, sA, sC⟩
        go_simp
        with_reducible rfl
      rotate_left
      · simp only [Act.put, List.setIfInBounds_toArray, List.set_cons_zero, List.set_cons_succ]
        rfl
      refine take_ (i := 3) (N := some 22) (v := ?_) (a' := ?_) #[true, true, true, true, false, false, false, false, false, false, false, false, false, false, false, false, false, false, false, false] rfl rfl (take_of HT_.out (by kernel_rfl)) (fun _ _ _ h => h) (Or.inl ⟨by rfl, ?_⟩) hHeld ?_ ?_
      rotate_left
      · rintro w' ⟨s0, s1, sA, sC⟩
        go_simp
        with_reducible rfl
      rotate_left
      · simp only [Act.put, List.setIfInBounds_toArray, List.set_cons_zero, List.set_cons_succ]
        rfl
      refine take_ (i := 4) (N := some 23) (v := ?_) (a' := ?_) #[true, true, true, true, true, false, false, false, false, false, false, false, false, false, false, false, false, false, false, false] rfl rfl (take_of HT_.out (by kernel_rfl)) (fun _ _ _ h => h) (Or.inl ⟨by rfl, ?_⟩) hHeld ?_ ?_
      rotate_left
      · rintro w' ⟨s0, s1, sA, sC⟩
        go_simp
        with_reducible rfl
      rotate_left
      · simp only [Act.put, List.setIfInBounds_toArray, List.set_cons_zero, List.set_cons_succ]
        rfl
      refine take_ (i := 5) (N := some 24) (v := ?_) (a' := ?_) #[true, true, true, true, true, true, false, false, false, false, false, false, false, false, false, false, false, false, false, false] rfl rfl (take_of HT_.out (by kernel_rfl)) (fun _ _ _ h => h) (Or.inl ⟨by rfl, ?_⟩) hHeld ?_ ?_
      rotate_left
      · rintro w' ⟨s0, s1, sA, sC⟩
        go_simp
        with_reducible rfl
      rotate_left
      · simp only [Act.put, List.setIfInBounds_toArray, List.set_cons_zero, List.set_cons_succ]
        rfl
      refine take_ (i := 6) (N := some 25) (v := ?_) (a' := ?_) #[true, true, true, true, true, true, true, false, false, false, false, false, false, false, false, false, false, false, false, false] rfl rfl (take_of HT_.out (by kernel_rfl)) (fun _ _ _ h => h) (Or.inl ⟨by rfl, ?_⟩) hHeld ?_ ?_
      rotate_left
      · rintro w' ⟨s0, s1, sA, sC⟩
        go_simp
        with_reducible rfl
      rotate_left
      · simp only [Act.put, List.setIfInBounds_toArray, List.set_cons_zero, List.set_cons_succ]
        rfl
      refine take_ (i := 7) (N := some 26) (v := ?_) (a' := ?_) #[true, true, true, true, true, true, true, true, false, false, false, false, false, false, false, false, false, false, false, false] rfl rfl (take_of HT_.out (by kernel_rfl)) (fun _ _ _ h => h) (Or.inl ⟨by rfl, ?_⟩) hHeld ?_ ?_
      rotate_left
      · rintro w' ⟨s0, s1, sA, sC⟩
        go_simp
        with_reducible rfl
      rotate_left
      · simp only [Act.put, List.setIfInBounds_toArray, List.set_cons_zero, List.set_cons_succ]
        rfl
      refine take_ (i := 8) (N := some 27) (v := ?_) (a' := ?_) #[true, true, true, true, true, true, true, true, true, false, false, false, false, false, false, false, false, false, false, false] rfl rfl (take_of HT_.out (by kernel_rfl)) (fun _ _ _ h => h) (Or.inl ⟨by rfl, ?_⟩) hHeld ?_ ?_
      rotate_left
      · rintro w' ⟨s0, s1, sA, sC⟩
        go_simp
        with_reducible rfl
      rotate_left
      · simp only [Act.put, List.setIfInBounds_toArray, List.set_cons_zero, List.set_cons_succ]
        rfl
      refine take_ (i := 9) (N := some 28) (v := ?_) (a' := ?_) #[true, true, true, true, true, true, true, true, true, true, false, false, false, false, false, false, false, false, false, false] rfl rfl (take_of HT_.out (by kernel_rfl)) (fun _ _ _ h => h) (Or.inl ⟨by rfl, ?_⟩) hHeld ?_ ?_
      rotate_left
      · rintro w' ⟨s0, s1, sA, sC⟩
        go_simp
        with_reducible rfl
      rotate_left
      · simp only [Act.put, List.setIfInBounds_toArray, List.set_cons_zero, List.set_cons_succ]
        rfl
      refine take_ (i := 10) (N := some 29) (v := ?_) (a' := ?_) #[true, true, true, true, true, true, true, true, true, true, true, false, false, false, false, false, false, false, false, false] rfl rfl (take_of HT_.out (by kernel_rfl)) (fun _ _ _ h => h) (Or.inl ⟨by rfl, ?_⟩) hHeld ?_ ?_
      rotate_left
      · rintro w' ⟨s0, s1, sA, sC⟩
        go_simp
        with_reducible rfl
      rotate_left
      · simp only [Act.put, List.setIfInBounds_toArray, List.set_cons_zero, List.set_cons_succ]
        rfl
      refine take_ (i := 11) (N := some 30) (v := ?_) (a' := ?_) #[true, true, true, true, true, true, true, true, true, true, true, true, false, false, false, false, false, false, false, false] rfl rfl (take_of HT_.out (by kernel_rfl)) (fun _ _ _ h => h) (Or.inl ⟨by rfl, ?_⟩) hHeld ?_ ?_
      rotate_left
      · rintro w' ⟨s0, s1, sA, sC⟩
        go_simp
        with_reducible rfl
      rotate_left
      · simp only [Act.put, List.setIfInBounds_toArray, List.set_cons_zero, List.set_cons_succ]
        rfl
      refine take_ (i := 12) (N := some 31) (v := ?_) (a' := ?_) #[true, true, true, true, true, true, true, true, true, true, true, true, true, false, false, false, false, false, false, false] rfl rfl (take_of HT_.out (by kernel_rfl)) (fun _ _ _ h => h) (Or.inl ⟨by rfl, ?_⟩) hHeld ?_ ?_
      rotate_left
      · rintro w' ⟨s0, s1, sA, sC⟩
        go_simp
        with_reducible rfl
      rotate_left
      · simp only [Act.put, List.setIfInBounds_toArray, List.set_cons_zero, List.set_cons_succ]
        rfl
      refine take_ (i := 13) (N := some 32) (v := ?_) (a' := ?_) #[true, true, true, true, true, true, true, true, true, true, true, true, true, true, false, false, false, false, false, false] rfl rfl (take_of HT_.out (by kernel_rfl)) (fun _ _ _ h => h) (Or.inl ⟨by rfl, ?_⟩) hHeld ?_ ?_
      rotate_left
      · rintro w' ⟨s0, s1, sA, sC⟩
        go_simp
        with_reducible rfl
      rotate_left
      · simp only [Act.put, List.setIfInBounds_toArray, List.set_cons_zero, List.set_cons_succ]
        rfl
      refine one_ (i := 14) (N := some 33) #[true, true, true, true, true, true, true, true, true, true, true, true, true, true, true, false, false, false, false, false] rfl rfl (one_of HT_.out (by kernel_rfl)) (by decide) (fun K hK => ?_)
      refine event_step (by rfl) (exec_place rfl rfl rfl (mplace Try.underlying35 Try.underlying3 (zero22 _) MH.out hkL)) ?_
      have n0_ := Aside0.mk (setBlock_same (o' := (mapO (fun i => if i = k then Value.slice none 0 0 else (rowV w (some ad1)) i) (List.range k ++ [k]) (k + 1))) MH.out)
      have n1_ := Aside0.mk ((setBlock_other (o' := (mapO (fun i => if i = k then Value.slice none 0 0 else (rowV w (some ad1)) i) (List.range k ++ [k]) (k + 1))) MH.out (Ne.symm NHC.out)).trans MC.out)
      have n2_ := Aside0.mk ((setBlock_other (o' := (mapO (fun i => if i = k then Value.slice none 0 0 else (rowV w (some ad1)) i) (List.range k ++ [k]) (k + 1))) MH.out (Ne.symm (map_ne_cells MH.out BK7.out))).trans BK7.out)
      have n3_ := Aside0.mk ((setBlock_other (o' := (mapO (fun i => if i = k then Value.slice none 0 0 else (rowV w (some ad1)) i) (List.range k ++ [k]) (k + 1))) MH.out (Ne.symm (map_ne_cells MH.out BK6.out))).trans BK6.out)
      have n4_ := Aside0.mk (Kd.R_grown2 HO.out rfl (grown_block (vs' := (fun i => if i = k then Value.slice none 0 0 else (rowV w (some ad1)) i)) (L' := (List.range k ++ [k])) (c' := (k + 1)) MH.out) (fun q hq => by obtain rfl := Option.some.inj hq; exact own_ne_map HO.out MH.out))
      have n5_ := Aside0.mk (below_block (vs' := (fun i => if i = k then Value.slice none 0 0 else (rowV w (some ad1)) i)) (L' := (List.range k ++ [k])) (c' := (k + 1)) HB.out MH.out GEH.out)
      generalize ChangeMaps.setBlock w13 bh (mapO (fun i => if i = k then Value.slice none 0 0 else (rowV w (some ad1)) i) (List.range k ++ [k]) (k + 1)) = w14 at n0_ n1_ n2_ n3_ n4_ n5_ ⊢
      refine hK.out _ _ (HS.out _ n2_.out n5_.out) (fun hHeld => ?_)
      clear hK K
      clear MH MC BK7 BK6 HO HB
      have MH := n0_
      have MC := n1_
      have BK7 := n2_
      have BK6 := n3_
      have HO := n4_
      have HB := n5_
      clear n0_ n1_ n2_ n3_ n4_ n5_
      refine norm_ (a' := ?_) ?_ ?_
      rotate_left
      · show Act.put _ (some 33) _ = _
        simp only [Act.put, List.setIfInBounds_toArray, List.set_cons_zero, List.set_cons_succ]
        rfl
      refine take_ (i := 15) (N := some 34) (v := ?_) (a' := ?_) #[true, true, true, true, true, true, true, true, true, true, true, true, true, true, true, true, false, false, false, false] rfl rfl (take_of HT_.out (by kernel_rfl)) (fun _ _ _ h => h) (Or.inl ⟨by rfl, ?_⟩) hHeld ?_ ?_
      rotate_left
      · rintro w' ⟨s0, s1, sA, sC⟩
        go_simp
        with_reducible rfl
      rotate_left
      · simp only [Act.put, List.setIfInBounds_toArray, List.set_cons_zero, List.set_cons_succ]
        rfl
      refine one_ (i := 16) (N := none) #[true, true, true, true, true, true, true, true, true, true, true, true, true, true, true, true, true, false, false, false] rfl rfl (one_of HT_.out (by kernel_rfl)) (by decide) (fun K hK => ?_)
      refine skip_ (by rfl) rfl (exec_put rfl rfl rfl rfl (mput (v := v1) MH.out hkL)) ?_
      have n0_ := Aside0.mk (setBlock_same (o' := (mapO (fun i => if i = k then v1 else (if i = k then Value.slice none 0 0 else (rowV w (some ad1)) i)) (List.range k ++ [k]) (k + 1))) MH.out)
      have n1_ := Aside0.mk ((setBlock_other (o' := (mapO (fun i => if i = k then v1 else (if i = k then Value.slice none 0 0 else (rowV w (some ad1)) i)) (List.range k ++ [k]) (k + 1))) MH.out (Ne.symm NHC.out)).trans MC.out)
      have n2_ := Aside0.mk ((setBlock_other (o' := (mapO (fun i => if i = k then v1 else (if i = k then Value.slice none 0 0 else (rowV w (some ad1)) i)) (List.range k ++ [k]) (k + 1))) MH.out (Ne.symm (map_ne_cells MH.out BK7.out))).trans BK7.out)
      have n3_ := Aside0.mk ((setBlock_other (o' := (mapO (fun i => if i = k then v1 else (if i = k then Value.slice none 0 0 else (rowV w (some ad1)) i)) (List.range k ++ [k]) (k + 1))) MH.out (Ne.symm (map_ne_cells MH.out BK6.out))).trans BK6.out)
      have n4_ := Aside0.mk (Kd.R_grown2 HO.out rfl (grown_block (vs' := (fun i => if i = k then v1 else (if i = k then Value.slice none 0 0 else (rowV w (some ad1)) i))) (L' := (List.range k ++ [k])) (c' := (k + 1)) MH.out) (fun q hq => by obtain rfl := Option.some.inj hq; exact own_ne_map HO.out MH.out))
      have n5_ := Aside0.mk (below_block (vs' := (fun i => if i = k then v1 else (if i = k then Value.slice none 0 0 else (rowV w (some ad1)) i))) (L' := (List.range k ++ [k])) (c' := (k + 1)) HB.out MH.out GEH.out)
      generalize ChangeMaps.setBlock w14 bh (mapO (fun i => if i = k then v1 else (if i = k then Value.slice none 0 0 else (rowV w (some ad1)) i)) (List.range k ++ [k]) (k + 1)) = w16 at n0_ n1_ n2_ n3_ n4_ n5_ ⊢
      refine hK.out _ _ (HS.out _ n2_.out n5_.out) (fun hHeld => ?_)
      clear hK K
      clear MH MC BK7 BK6 HO HB
      have MH := n0_
      have MC := n1_
      have BK7 := n2_
      have BK6 := n3_
      have HO := n4_
      have HB := n5_
      clear n0_ n1_ n2_ n3_ n4_ n5_
      refine one_ (i := 17) (N := some 35) #[true, true, true, true, true, true, true, true, true, true, true, true, true, true, true, true, true, true, false, false] rfl rfl (one_of HT_.out (by kernel_rfl)) (by decide) (fun K hK => ?_)
      refine event_step (by rfl) (exec_place rfl rfl rfl (mplace Try.underlying35 Try.underlying3 (zero22 _) MC.out hkL)) ?_
      have n0_ := Aside0.mk (setBlock_same (o' := (mapO (fun i => if i = k then Value.slice none 0 0 else (rowV w (some ad2)) i) (List.range k ++ [k]) (k + 1))) MC.out)
      have n1_ := Aside0.mk ((setBlock_other (o' := (mapO (fun i => if i = k then Value.slice none 0 0 else (rowV w (some ad2)) i) (List.range k ++ [k]) (k + 1))) MC.out NHC.out).trans MH.out)
      have n2_ := Aside0.mk ((setBlock_other (o' := (mapO (fun i => if i = k then Value.slice none 0 0 else (rowV w (some ad2)) i) (List.range k ++ [k]) (k + 1))) MC.out (Ne.symm (map_ne_cells MC.out BK7.out))).trans BK7.out)
      have n3_ := Aside0.mk ((setBlock_other (o' := (mapO (fun i => if i = k then Value.slice none 0 0 else (rowV w (some ad2)) i) (List.range k ++ [k]) (k + 1))) MC.out (Ne.symm (map_ne_cells MC.out BK6.out))).trans BK6.out)
      have n4_ := Aside0.mk (Kd.R_grown2 HO.out rfl (grown_block (vs' := (fun i => if i = k then Value.slice none 0 0 else (rowV w (some ad2)) i)) (L' := (List.range k ++ [k])) (c' := (k + 1)) MC.out) (fun q hq => by obtain rfl := Option.some.inj hq; exact own_ne_map HO.out MC.out))
      have n5_ := Aside0.mk (below_block (vs' := (fun i => if i = k then Value.slice none 0 0 else (rowV w (some ad2)) i)) (L' := (List.range k ++ [k])) (c' := (k + 1)) HB.out MC.out GEC.out)
      generalize ChangeMaps.setBlock w16 bc (mapO (fun i => if i = k then Value.slice none 0 0 else (rowV w (some ad2)) i) (List.range k ++ [k]) (k + 1)) = w17 at n0_ n1_ n2_ n3_ n4_ n5_ ⊢
      refine hK.out _ _ (HS.out _ n2_.out n5_.out) (fun hHeld => ?_)
      clear hK K
      clear MC MH BK7 BK6 HO HB
      have MC := n0_
      have MH := n1_
      have BK7 := n2_
      have BK6 := n3_
      have HO := n4_
      have HB := n5_
      clear n0_ n1_ n2_ n3_ n4_ n5_
      refine norm_ (a' := ?_) ?_ ?_
      rotate_left
      · show Act.put _ (some 35) _ = _
        simp only [Act.put, List.setIfInBounds_toArray, List.set_cons_zero, List.set_cons_succ]
        rfl
      refine take_ (i := 18) (N := some 36) (v := ?_) (a' := ?_) #[true, true, true, true, true, true, true, true, true, true, true, true, true, true, true, true, true, true, true, false] rfl rfl (take_of HT_.out (by kernel_rfl)) (fun _ _ _ h => h) (Or.inl ⟨by rfl, ?_⟩) hHeld ?_ ?_
      rotate_left
      · rintro w' ⟨s0, s1, sA, sC⟩
        go_simp
        with_reducible rfl
      rotate_left
      · simp only [Act.put, List.setIfInBounds_toArray, List.set_cons_zero, List.set_cons_succ]
        rfl
      refine one_ (i := 19) (N := none) #[true, true, true, true, true, true, true, true, true, true, true, true, true, true, true, true, true, true, true, true] rfl rfl (one_of HT_.out (by kernel_rfl)) (by decide) (fun K hK => ?_)
      refine skip_ (by rfl) rfl (exec_put rfl rfl rfl rfl (mput (v := v2) MC.out hkL)) ?_
      have n0_ := Aside0.mk (setBlock_same (o' := (mapO (fun i => if i = k then v2 else (if i = k then Value.slice none 0 0 else (rowV w (some ad2)) i)) (List.range k ++ [k]) (k + 1))) MC.out)
      have n1_ := Aside0.mk ((setBlock_other (o' := (mapO (fun i => if i = k then v2 else (if i = k then Value.slice none 0 0 else (rowV w (some ad2)) i)) (List.range k ++ [k]) (k + 1))) MC.out NHC.out).trans MH.out)
      have n2_ := Aside0.mk ((setBlock_other (o' := (mapO (fun i => if i = k then v2 else (if i = k then Value.slice none 0 0 else (rowV w (some ad2)) i)) (List.range k ++ [k]) (k + 1))) MC.out (Ne.symm (map_ne_cells MC.out BK7.out))).trans BK7.out)
      have n3_ := Aside0.mk ((setBlock_other (o' := (mapO (fun i => if i = k then v2 else (if i = k then Value.slice none 0 0 else (rowV w (some ad2)) i)) (List.range k ++ [k]) (k + 1))) MC.out (Ne.symm (map_ne_cells MC.out BK6.out))).trans BK6.out)
      have n4_ := Aside0.mk (Kd.R_grown2 HO.out rfl (grown_block (vs' := (fun i => if i = k then v2 else (if i = k then Value.slice none 0 0 else (rowV w (some ad2)) i))) (L' := (List.range k ++ [k])) (c' := (k + 1)) MC.out) (fun q hq => by obtain rfl := Option.some.inj hq; exact own_ne_map HO.out MC.out))
      have n5_ := Aside0.mk (below_block (vs' := (fun i => if i = k then v2 else (if i = k then Value.slice none 0 0 else (rowV w (some ad2)) i))) (L' := (List.range k ++ [k])) (c' := (k + 1)) HB.out MC.out GEC.out)
      generalize ChangeMaps.setBlock w17 bc (mapO (fun i => if i = k then v2 else (if i = k then Value.slice none 0 0 else (rowV w (some ad2)) i)) (List.range k ++ [k]) (k + 1)) = w19 at n0_ n1_ n2_ n3_ n4_ n5_ ⊢
      refine hK.out _ _ (HS.out _ n2_.out n5_.out) (fun hHeld => ?_)
      clear hK K
      clear MC MH BK7 BK6 HO HB
      have MC := n0_
      have MH := n1_
      have BK7 := n2_
      have BK6 := n3_
      have HO := n4_
      have HB := n5_
      clear n0_ n1_ n2_ n3_ n4_ n5_
      refine done_ (done_of HT_.out (by kernel_rfl)) ?_
      have hw3 : (k : Int) ≤ 9223372036854775806 := by have := HM.out; omega
      go_wp2
      go_roundw
      case rel =>
        refine ⟨k + 1, by omega, by go_num, BK7, BK6, ⟨?_⟩, ⟨?_⟩, HO, HB⟩
        · rw [MH.out, List.range_succ, mapO_congr (vs' := rowV w (some ad1))]
          intro i hi
          by_cases e : i = k
          · subst e; rw [if_pos rfl]; exact EV1.out
          · rw [if_neg e, if_neg e]
        · rw [MC.out, List.range_succ, mapO_congr (vs' := rowV w (some ad2))]
          intro i hi
          by_cases e : i = k
          · subst e; rw [if_pos rfl]; exact EV2.out
          · rw [if_neg e, if_neg e]
      case measure => simp [intOf]; omega
    · obtain rfl : k = l1.length := by omega
      have hN := N67.out
      have hc70 : wr.cell? ⟨g7, 0, none⟩ = some (.slice At l0.length ct) := (blk_cell BK7.out 0).trans rfl
      have hc71 : wr.cell? ⟨g7, 1, none⟩ = some (.map (some bh)) := (blk_cell BK7.out 1).trans rfl
      have hc72 : wr.cell? ⟨g7, 2, none⟩ = some (.map (some bc)) := (blk_cell BK7.out 2).trans rfl
      have hc60 : wr.cell? ⟨g6, 0, none⟩ = some (.slice none 0 0) := (blk_cell BK6.out 0).trans rfl
      have hc61 : wr.cell? ⟨g6, 1, none⟩ = some (.map none) := (blk_cell BK6.out 1).trans rfl
      have hc62 : wr.cell? ⟨g6, 2, none⟩ = some (.map none) := (blk_cell BK6.out 2).trans rfl
      have hf60 : wr.frozen? ⟨g6, 0, none⟩ = false := blk_frozen BK6.out 0
      have hf61 : wr.frozen? ⟨g6, 1, none⟩ = false := blk_frozen BK6.out 1
      have hf62 : wr.frozen? ⟨g6, 2, none⟩ = false := blk_frozen BK6.out 2
      go_wp2
      have NH6 := map_ne_cells MH.out BK6.out
      have NC6 := map_ne_cells MC.out BK6.out
      have n0_ := blk_put (cs' := #[.slice At l0.length ct, .map (some bh), .map (some bc)]) (blk_put (cs' := #[.slice At l0.length ct, .map (some bh), .map none]) (blk_put (cs' := #[.slice At l0.length ct, .map none, .map none]) BK6.out 0 (.slice At l0.length ct) rfl) 1 (.map (some bh)) rfl) 2 (.map (some bc)) rfl
      refine bodyPost_ret (results_cell_row rfl _ _ g6 37 #[.slice At l0.length ct, .map (some bh), .map (some bc)] (0, 0) _ rfl n0_ Try.underlying37 rfl (by kernel_rfl)) rfl ?_
      exact ⟨_, bh, bc, rfl, Kd.R_mono (Kd.R_far (Kd.R_far (Kd.R_far HO.out (p := ⟨g6, 0, none⟩) (fun k hk => hk.1) _) (p := ⟨g6, 1, none⟩) (fun k hk => hk.1) _) (p := ⟨g6, 2, none⟩) (fun k hk => hk.1) _) (fun _ _ => trivial), obj_far (obj_far (obj_far MH.out (p := ⟨g6, 0, none⟩) NH6 _) (p := ⟨g6, 1, none⟩) NH6 _) (p := ⟨g6, 2, none⟩) NH6 _, obj_far (obj_far (obj_far MC.out (p := ⟨g6, 0, none⟩) NC6 _) (p := ⟨g6, 1, none⟩) NC6 _) (p := ⟨g6, 2, none⟩) NC6 _, GEH.out, GEC.out, NHC.out, below_set (below_set (below_set HB.out GE6.out) GE6.out) GE6.out⟩

end Go.Proofs.Ytlngcnijlijplaa.PBank
