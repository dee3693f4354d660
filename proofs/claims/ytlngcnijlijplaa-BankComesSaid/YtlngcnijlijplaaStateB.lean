import Derived.Test.YtlngcnijlijplaaPBankx0
import Derived.WalkMore
import Derived.Test.YtlngcnijlijplaaPBankx1
import Derived.Test.YtlngcnijlijplaaPBankx4
import Derived.Test.YtlngcnijlijplaaPBankx6
import Derived.Test.YtlngcnijlijplaaPBankx7
import Derived.Test.YtlngcnijlijplaaPBankx8
namespace Go.Proofs.Ytlngcnijlijplaa.PBank
open Go.RowKit Go.Proofs.YtlngcnijlijplaaW.PrintWords Go.Proofs.YtlngcnijlijplaaW.PrintLast Go.Proofs.YtlngcnijlijplaaW.PrintMore
attribute [local go_sem] max2_int min2_int max_two min_two max_three min_three max_four min_four
set_option linter.unusedVariables false
set_option linter.unusedSimpArgs false
/-- The number that is drawn at a place. -/
def nxt (zs : List Int) (k : Nat) (most : Int) : Int := rd zs (k : Int) % most
theorem nxt_lo (zs : List Int) (k : Nat) {most : Int} (h : 0 < most) : 0 ≤ nxt zs k most := Int.emod_nonneg _ (by omega)
theorem nxt_hi (zs : List Int) (k : Nat) {most : Int} (h : 0 < most) : nxt zs k most < most := Int.emod_lt_of_pos _ h
theorem tmod_is {x m : Int} (hm : 0 < m) : x.tmod m = if x < 0 ∧ x % m ≠ 0 then x % m - m else x % m := by
  rw [Int.tmod_eq_emod]
  split <;> split <;> omega
theorem tmod_neg_ {x m : Int} (hm : 0 < m) (h : x.tmod m < 0) : x.tmod m + m = x % m := by
  rw [tmod_is hm] at h ⊢
  have := Int.emod_nonneg x (show m ≠ 0 by omega)
  split at h
  · rename_i q; rw [if_pos q]; omega
  · omega
theorem tmod_pos_ {x m : Int} (hm : 0 < m) (h : ¬ x.tmod m < 0) : x.tmod m = x % m := by
  rw [tmod_is hm] at h ⊢
  have := Int.emod_lt_of_pos x hm
  split at h
  · omega
  · rename_i q; rw [if_neg q]
set_option maxHeartbeats 8000000 in
set_option maxRecDepth 100000 in
theorem numbers_next.at_end (g : Nat) (A : Option Addr) (c : Nat) (zs : List Int) (k : Nat) (most : Int) (w : World) (hz : zs.length ≤ 1000) (hk : zs.length ≤ k) (hbox : w.heap[g]? = some (.cells #[.slice A zs.length c, .int .i64 ((min k zs.length : Nat) : Int)] 46 (0, 0))) (hm : 0 < most) :
    Calls Try.prog 30 #[.pointer (some ⟨g, 0, none⟩), .int .i64 most] w fun e w' => e = .returned (.int .i64 (nxt zs k most)) ∧ ∃ n, w' = w.drewN n := by
  have BK := Aside0.mk hbox
  have hc0 : w.cell? ⟨g, 0, none⟩ = some (.slice A zs.length c) := (blk_cell hbox 0).trans rfl
  have hc1 : w.cell? ⟨g, 1, none⟩ = some (.int .i64 (zs.length : Int)) := by
    have e := (blk_cell hbox 1).trans rfl
    rw [e, show min k zs.length = zs.length by omega]; rfl
  have HK := Aside0.mk hk
  have HM := Aside0.mk hm
  clear hbox hk hm
  have hq : decide ((zs.length : Int) ≤ (zs.length : Int)) = true := decide_eq_true (Int.le_refl _)
  go_enter Try.func30, Try.ntmps30
  go_wp2
  repeat (go_quiet (fail); try go_wp2)
  go_ret
  refine ⟨?_, _, rfl⟩
  have e : rd zs (k : Int) = 0 := by
    have := HK.out
    simp [rd, List.getD_eq_getElem?_getD, List.getElem?_eq_none this]
  unfold nxt
  rw [e]
  simp
set_option maxHeartbeats 8000000 in
set_option maxRecDepth 100000 in
theorem numbers_next.at_in (g : Nat) (A : Option Addr) (c : Nat) (zs : List Int) (k : Nat) (most : Int) (w : World) (hz : zs.length ≤ 1000) (hk : k < zs.length) (hbox : w.heap[g]? = some (.cells #[.slice A zs.length c, .int .i64 ((min k zs.length : Nat) : Int)] 46 (0, 0))) (hr : Kd.C (Kd.int .i64) w A zs.length zs) (hm : 0 < most) (hm2 : most ≤ 100) :
    Calls Try.prog 30 #[.pointer (some ⟨g, 0, none⟩), .int .i64 most] w fun e w' => e = .returned (.int .i64 (nxt zs k most)) ∧ ∃ n, w' = (w.drewN n).setCell ⟨g, 1, none⟩ (.int .i64 ((k + 1 : Nat) : Int)) := by
  obtain ⟨ad, eA, hx⟩ := Kd.at_int hr (k : Int) (by omega) (by omega)
  cases eA
  rw [Int.toNat_natCast] at hx
  have BK := Aside0.mk hbox
  have hc0 : w.cell? ⟨g, 0, none⟩ = some (.slice (some ad) zs.length c) := (blk_cell hbox 0).trans rfl
  have hc1 : w.cell? ⟨g, 1, none⟩ = some (.int .i64 (k : Int)) := by
    have e := (blk_cell hbox 1).trans rfl
    rw [e, show min k zs.length = k by omega]; rfl
  have hf1 : w.frozen? ⟨g, 1, none⟩ = false := blk_frozen hbox 1
  have HK := Aside0.mk hk
  have HM := Aside0.mk hm
  have HM2 := Aside0.mk hm2
  obtain ⟨x, ex⟩ : ∃ x, x = rd zs (k : Int) := ⟨_, rfl⟩
  rw [← ex] at hx
  have EX := Aside0.mk ex
  have hk1 : decide ((zs.length : Int) ≤ (k : Int)) = false := decide_eq_false (by omega)
  have hk2 : (k : Int) < (zs.length : Int) := by omega
  have hk3 : ¬ ((zs.length : Int) ≤ (k : Int)) := by omega
  have hw3 : (k : Int) ≤ 9223372036854775806 := by omega
  have hm0 : (most == 0) = false := beq_eq_false_iff_ne.2 (by omega)
  have hm1 : ¬ (most = 0) := by omega
  clear hbox hr ex hm hm2 hk
  rcases Int.lt_or_le (x.tmod most) 0 with hq | hq
  · have HQ := Aside0.mk hq
    go_enter Try.func30, Try.ntmps30
    go_wp2
    repeat (go_quiet (fail); try go_wp2)
    refine bodyPost_ret (results_tmp rfl _ _ _) rfl ⟨?_, _, by rw [show ((k + 1 : Nat) : Int) = (k : Int) + 1 by omega]⟩
    have e : wrap64 (x.tmod most + most) = nxt zs k most := by
      have h1 := tmod_neg_ HM.out HQ.out
      have h2 := nxt_lo zs k HM.out
      have h3 := nxt_hi zs k HM.out
      have h4 := HM2.out
      unfold nxt at h2 h3 ⊢
      rw [EX.out] at h1
      rw [EX.out, h1]
      unfold wrap64
      omega
    show Ending.returned (Value.int IntKind.i64 (wrap64 (x.tmod most + most))) = _
    rw [e]
  · have HQ := Aside0.mk hq
    go_enter Try.func30, Try.ntmps30
    go_wp2
    repeat (go_quiet (fail); try go_wp2)
    refine bodyPost_ret (results_tmp rfl _ _ _) rfl ⟨?_, _, by rw [show ((k + 1 : Nat) : Int) = (k : Int) + 1 by omega]⟩
    have e : x.tmod most = nxt zs k most := by
      unfold nxt
      rw [← EX.out]
      exact tmod_pos_ HM.out (by have := HQ.out; omega)
    show Ending.returned (Value.int IntKind.i64 (x.tmod most)) = _
    rw [e]
theorem numbers_next.calls (g : Nat) (A : Option Addr) (c : Nat) (zs : List Int) (k : Nat) (most : Int) (w0 w : World) (hz : zs.length ≤ 1000) (hbox : w.heap[g]? = some (.cells #[.slice A zs.length c, .int .i64 ((min k zs.length : Nat) : Int)] 46 (0, 0))) (hr : Kd.C (Kd.int .i64) w A zs.length zs) (hm : 0 < most) (hm2 : most ≤ 100) (hB : Below w0.heap.size w0 w) (hg : w0.heap.size ≤ g) :
    Calls Try.prog 30 #[.pointer (some ⟨g, 0, none⟩), .int .i64 most] w fun e w' => e = .returned (.int .i64 (nxt zs k most)) ∧ w'.heap[g]? = some (.cells #[.slice A zs.length c, .int .i64 ((min (k + 1) zs.length : Nat) : Int)] 46 (0, 0)) ∧ (∀ b, b ≠ g → w'.heap[b]? = w.heap[b]?) ∧ w'.heap.size = w.heap.size ∧ Below w0.heap.size w0 w' := by
  rcases Nat.lt_or_ge k zs.length with h | h
  · refine (numbers_next.at_in g A c zs k most w hz h hbox hr hm hm2).mono ?_
    rintro e w' ⟨rfl, n, rfl⟩
    have hb2 : (w.drewN n).heap[g]? = some (.cells #[.slice A zs.length c, .int .i64 ((min k zs.length : Nat) : Int)] 46 (0, 0)) := hbox
    refine ⟨rfl, ?_, fun b hb => ?_, ?_, below_set (pw_below_drewN hB n) hg⟩
    · have := blk_put (cs' := #[.slice A zs.length c, .int .i64 ((k + 1 : Nat) : Int)]) hb2 1 (.int .i64 ((k + 1 : Nat) : Int)) rfl
      rw [show min (k + 1) zs.length = k + 1 by omega]
      exact this
    · exact (Below.heap_setCell (w.drewN n) ⟨g, 1, none⟩ _ b hb).trans rfl
    · simp [World.setCell]
  · refine (numbers_next.at_end g A c zs k most w hz h hbox hm).mono ?_
    rintro e w' ⟨rfl, n, rfl⟩
    refine ⟨rfl, ?_, fun b hb => rfl, rfl, pw_below_drewN hB n⟩
    rw [show min (k + 1) zs.length = min k zs.length by omega]
    exact hbox
/-- Of a state of plain numbers. -/
def stA (zs : List Int) : List Int := [nxt zs 0 4, nxt zs 1 4]
def stH (zs : List Int) (i : Nat) : List Int := [nxt zs (4 * i + 2) 3, nxt zs (4 * i + 3) 3]
def stC (zs : List Int) (i : Nat) : List Int := [nxt zs (4 * i + 2) 3 + nxt zs (4 * i + 4) 4, nxt zs (4 * i + 3) 3 + nxt zs (4 * i + 5) 4]
def IntsOut (w : World) (v : Value) (xs : List Int) : Prop := ∃ A c, v = .slice A xs.length c ∧ xs.length ≤ c ∧ Kd.C (Kd.int .i64) w A xs.length xs
def RowsOut (w : World) (v : Value) (xs : List (List Int)) : Prop := ∃ A c, v = .slice A xs.length c ∧ xs.length ≤ c ∧ Kd.C (Kd.slice 3 (Kd.int .i64)) w A xs.length xs
/-- What is made, and lies apart. -/
def StOut (w0 w : World) (v0 v1 v2 : Value) (zs : List Int) (n : Nat) : Prop := Kd.R (Kd.int .i64) 3 w w0.heap.size (fun _ => True) v0 (stA zs) ∧ Kd.R (Kd.slice 3 (Kd.int .i64)) 22 w w0.heap.size (fun k_ => some k_ ≠ v0.ownBlock ∧ some k_ ≠ v2.ownBlock) v1 ((List.range n).map (stH zs)) ∧
  Kd.R (Kd.slice 3 (Kd.int .i64)) 22 w w0.heap.size (fun k_ => some k_ ≠ v0.ownBlock ∧ some k_ ≠ v1.ownBlock) v2 ((List.range n).map (stC zs))
def Dj (g n : Nat) (SA SH SC : Nat → Prop) : Prop := (∀ k, SA k → k < n ∧ k ≠ g) ∧ (∀ k, SH k → k < n ∧ k ≠ g ∧ ¬ SA k) ∧ (∀ k, SC k → k < n ∧ k ≠ g ∧ ¬ SA k ∧ ¬ SH k)
theorem Dj.size {g n n' : Nat} {SA SH SC : Nat → Prop} (h : Dj g n SA SH SC) (hn : n ≤ n') : Dj g n' SA SH SC :=
  ⟨fun k hk => ⟨by have := (h.1 k hk).1; omega, (h.1 k hk).2⟩, fun k hk => ⟨by have := (h.2.1 k hk).1; omega, (h.2.1 k hk).2⟩, fun k hk => ⟨by have := (h.2.2 k hk).1; omega, (h.2.2 k hk).2⟩⟩
theorem Dj.held {g n n' : Nat} {SA SH SC : Nat → Prop} (h : Dj g n SA SH SC) (hg : g < n) (hn : n ≤ n') : Dj g n' SA (fun k => SH k ∨ (n ≤ k ∧ k < n')) SC :=
  ⟨fun k hk => ⟨by have := (h.1 k hk).1; omega, (h.1 k hk).2⟩, fun k hk => by
    rcases hk with hk | hk
    · exact ⟨by have := (h.2.1 k hk).1; omega, (h.2.1 k hk).2⟩
    · exact ⟨hk.2, by omega, fun q => by have := (h.1 k q).1; omega⟩, fun k hk => ⟨by have := (h.2.2 k hk).1; omega, (h.2.2 k hk).2.1, (h.2.2 k hk).2.2.1, fun q => by
      rcases q with q | q
      · exact (h.2.2 k hk).2.2.2 q
      · have := (h.2.2 k hk).1; omega⟩⟩
theorem Dj.claim {g n n' : Nat} {SA SH SC : Nat → Prop} (h : Dj g n SA SH SC) (hg : g < n) (hn : n ≤ n') : Dj g n' SA SH (fun k => SC k ∨ (n ≤ k ∧ k < n')) :=
  ⟨fun k hk => ⟨by have := (h.1 k hk).1; omega, (h.1 k hk).2⟩, fun k hk => ⟨by have := (h.2.1 k hk).1; omega, (h.2.1 k hk).2⟩, fun k hk => by
    rcases hk with hk | hk
    · exact ⟨by have := (h.2.2 k hk).1; omega, (h.2.2 k hk).2⟩
    · exact ⟨hk.2, by omega, fun q => by have := (h.1 k q).1; omega, fun q => by have := (h.2.1 k q).1; omega⟩⟩
/-- A row in bounds. -/
theorem R_in {α : Type} {d : Kd α} {e : Nat} {w : World} {base n : Nat} {v : Value} {xs : List α} (h : d.R e w base (fun k => n ≤ k) v xs) : d.R e w base (fun k => n ≤ k ∧ k < w.heap.size) v xs := Kd.R_mono (Kd.R_bound h) (fun _ hk => ⟨hk.1, hk.2.2.1⟩)
theorem R_in2 {α : Type} {d : Kd α} {e : Nat} {w : World} {base n : Nat} {S : Nat → Prop} {v : Value} {xs : List α} (h : d.R e w base (fun k => S k ∨ n ≤ k) v xs) : d.R e w base (fun k => S k ∨ (n ≤ k ∧ k < w.heap.size)) v xs := Kd.R_mono (Kd.R_bound h) (fun k hk => hk.1.elim .inl (fun q => .inr ⟨q, hk.2.2.1⟩))
set_option maxHeartbeats 16000000 in
set_option maxRecDepth 100000 in
theorem signalboxlaw14_state.made (n : Nat) (hn : n ≤ 12) (A1 : Option Addr) (c1 : Nat) (zs : List Int) (w : World) (hz : zs.length ≤ 1000) (hr : Kd.C (Kd.int .i64) w A1 zs.length zs) :
    Calls Try.prog 16 #[.int .i64 (n : Int), .slice A1 zs.length c1] w fun e w' => ∃ v0 v1 v2 : Value, e = .returned (.tuple #[v0, v1, v2]) ∧ StOut w w' v0 v1 v2 zs n ∧ Below w.heap.size w w' := by
  have HB := Aside0.mk (Below.refl w.heap.size w)
  have HR := Aside0.mk hr
  have HZ := Aside0.mk hz
  have HN := Aside0.mk hn
  clear hr hz hn
  have hu46 := Try.underlying46
  obtain ⟨x0, ex0⟩ : ∃ x, x = nxt zs 0 4 := ⟨_, rfl⟩
  obtain ⟨x1, ex1⟩ : ∃ x, x = nxt zs 1 4 := ⟨_, rfl⟩
  have X0 := Aside0.mk ex0
  have X1 := Aside0.mk ex1
  clear ex0 ex1
  go_enter Try.func16, Try.ntmps16
  go_wp2_with (first
    | ((with_reducible refine gate_dst (N := 16) rfl ?_); refine box_event ?hg (N := 16) ?hd (cs := #[.slice A1 zs.length c1, .int .i64 0]) (t := 46) ?hr ?_; (case hd => rfl); (case hg => rfl); (case hr => first | (go_simp; done) | (go_simp; rfl)); intro g hg w16 hbox hb; have n0_ := Aside0.mk (below_step HB.out hb); have GX := Aside0.mk ((by rw [hg]; exact (below_size HB.out)) : w.heap.size ≤ g); have BX : Aside0 (w16.heap[g]? = some (.cells #[.slice A1 zs.length c1, .int .i64 ((min 0 zs.length : Nat) : Int)] 46 (0, 0))) := ⟨by rw [Nat.zero_min]; exact hbox⟩; clear HB; have HB := n0_; clear n0_; clear hg hbox hb)
    | ((with_reducible refine gate_callee (f := 30) rfl ?_); refine goesL_ (some 18) rfl rfl Try.func30 (by kernel_rfl) rfl #[.pointer (some ⟨g, 0, none⟩), .int .i64 4] rfl (by (try simp only [List.map_toArray, List.map_cons, List.map_nil]); first | done | rfl) ?_; have CN := numbers_next.calls g A1 c1 zs (0) 4 w _ HZ.out BX.out (Kd.C_below HR.out HB.out) (by decide) (by decide) HB.out GX.out; rw [← X0.out] at CN; (with_reducible refine CN.mono ?_); clear CN; rintro e w18 ⟨rfl, hx, hk_, hs, hb⟩; refine ⟨_, rfl, ?_⟩; have n0_ := Aside0.mk (hx); have n1_ := Aside0.mk (hb); clear BX HB; have BX := n0_; have HB := n1_; clear n0_ n1_; clear hx hk_ hs hb)
    | ((with_reducible refine gate_callee (f := 30) rfl ?_); refine goesL_ (some 20) rfl rfl Try.func30 (by kernel_rfl) rfl #[.pointer (some ⟨g, 0, none⟩), .int .i64 4] rfl (by (try simp only [List.map_toArray, List.map_cons, List.map_nil]); first | done | rfl) ?_; have CN := numbers_next.calls g A1 c1 zs (0 + 1) 4 w _ HZ.out BX.out (Kd.C_below HR.out HB.out) (by decide) (by decide) HB.out GX.out; rw [← X1.out] at CN; (with_reducible refine CN.mono ?_); clear CN; rintro e w20 ⟨rfl, hx, hk_, hs, hb⟩; refine ⟨_, rfl, ?_⟩; have n0_ := Aside0.mk (hx); have n1_ := Aside0.mk (hb); clear BX HB; have BX := n0_; have HB := n1_; clear n0_ n1_; clear hx hk_ hs hb)
    | ((with_reducible refine gate_dst (N := 21) rfl ?_); refine Kd.R_lit (Kd.int .i64) (w0 := w) w.heap.size 3 ?hg (N := 21) ?hd (xs := ([x0, x1] : List Int)) (inner := [.int .i64 x0, .int .i64 x1]) (ok := fun q => w20.heap.size ≤ q) (okp := fun _ => False) ?hr ?hp (fun _ hk => hk.elim) (Nat.le_refl _) HB.out (below_size HB.out) (by simp) ?_; (case hd => rfl); (case hg => rfl); (case hr => first | (go_simp; done) | (go_simp; rfl)); (case hp => exact (Reps.one (show Kd.M (Kd.int .i64) _ _ _ (x0) [.int .i64 (x0)] from rfl) (Reps.one (show Kd.M (Kd.int .i64) _ _ _ (x1) [.int .i64 (x1)] from rfl) (Reps.none _ _)))); intro va w21 ho hb hgr hnew; clear hnew; have n0_ := Aside0.mk ((hgr.block g (blk_lt BX.out) (by simp)).trans BX.out); have n1_ := Aside0.mk (R_in ho); have n2_ := Aside0.mk ((fun q hq => ⟨hq.2, by have := blk_lt BX.out; omega⟩ : ∀ q, (w20.heap.size ≤ q ∧ q < w21.heap.size) → q < w21.heap.size ∧ q ≠ g)); have n3_ := Aside0.mk (blk_lt BX.out); have n4_ := Aside0.mk (hgr.size); have n5_ := Aside0.mk (hb); clear BX HB; have BX := n0_; have OA := n1_; have GA := n2_; have GL := n3_; have S0 := n4_; have HB := n5_; clear n0_ n1_ n2_ n3_ n4_ n5_; clear ho hb hgr)
    | ((with_reducible refine gate_dst (N := 22) rfl ?_); refine Kd.R_lit (Kd.slice 3 (Kd.int .i64)) (w0 := w) w.heap.size 22 ?hg (N := 22) ?hd (xs := ([] : List (List Int))) (inner := []) (ok := fun q => w21.heap.size ≤ q) (okp := fun _ => False) ?hr ?hp (fun _ hk => hk.elim) (Nat.le_refl _) HB.out (below_size HB.out) (by simp) ?_; (case hd => rfl); (case hg => rfl); (case hr => first | (go_simp; done) | (go_simp; rfl)); (case hp => exact (Reps.none _ _)); intro vh w22 ho hb hgr hnew; clear hnew; have n0_ := Aside0.mk ((hgr.block g (blk_lt BX.out) (by simp)).trans BX.out); have n1_ := Aside0.mk (Kd.R_grown OA.out hgr (fun _ _ => by simp)); have n2_ := Aside0.mk (R_in ho); have n3_ := Aside0.mk (hb); have n4_ := Aside0.mk (hgr.size); clear BX OA HB; have BX := n0_; have OA := n1_; have OH := n2_; have HB := n3_; have S1 := n4_; clear n0_ n1_ n2_ n3_ n4_; clear ho hb hgr)
    | ((with_reducible refine gate_dst (N := 23) rfl ?_); refine Kd.R_lit (Kd.slice 3 (Kd.int .i64)) (w0 := w) w.heap.size 22 ?hg (N := 23) ?hd (xs := ([] : List (List Int))) (inner := []) (ok := fun q => w22.heap.size ≤ q) (okp := fun _ => False) ?hr ?hp (fun _ hk => hk.elim) (Nat.le_refl _) HB.out (below_size HB.out) (by simp) ?_; (case hd => rfl); (case hg => rfl); (case hr => first | (go_simp; done) | (go_simp; rfl)); (case hp => exact (Reps.none _ _)); intro vc w23 ho hb hgr hnew; clear hnew; have n0_ := Aside0.mk ((hgr.block g (blk_lt BX.out) (by simp)).trans BX.out); have n1_ := Aside0.mk (Kd.R_grown OA.out hgr (fun _ _ => by simp)); have n2_ := Aside0.mk (Kd.R_grown OH.out hgr (fun _ _ => by simp)); have n3_ := Aside0.mk (R_in ho); have n4_ := Aside0.mk (hb); have n5_ := Aside0.mk (hgr.size); clear BX OA OH HB; have BX := n0_; have OA := n1_; have OH := n2_; have OC := n3_; have HB := n4_; have S2 := n5_; clear n0_ n1_ n2_ n3_ n4_ n5_; clear ho hb hgr))
  have DJ : Aside0 (Dj g w23.heap.size (fun q => w20.heap.size ≤ q ∧ q < w21.heap.size) (fun q => w21.heap.size ≤ q ∧ q < w22.heap.size) (fun q => w22.heap.size ≤ q ∧ q < w23.heap.size)) := by
    have s0 := S0.out
    have gl := GL.out
    have s1 := S1.out
    have s2 := S2.out
    have ga := GA.out
    refine ⟨⟨fun q hq => ⟨by omega, (ga q hq).2⟩, fun q hq => ⟨by omega, ?_, by omega⟩, fun q hq => ⟨by omega, ?_, by omega, by omega⟩⟩⟩
    · omega
    · omega
  clear GA GL S0 S1 S2
  go_loopw [9, 10, 11] (fun vh vc vi wx => ∃ (i : Nat) (SA SH SC : Nat → Prop), i ≤ n ∧ vi = .int .i64 (i : Int) ∧ Aside0 (wx.heap[g]? = some (.cells #[.slice A1 zs.length c1, .int .i64 ((min (4 * i + 2) zs.length : Nat) : Int)] 46 (0, 0))) ∧ Aside0 (Kd.R (Kd.int .i64) 3 wx w.heap.size SA va [x0, x1]) ∧ Aside0 (Kd.R (Kd.slice 3 (Kd.int .i64)) 22 wx w.heap.size SH vh ((List.range i).map (stH zs))) ∧ Aside0 (Kd.R (Kd.slice 3 (Kd.int .i64)) 22 wx w.heap.size SC vc ((List.range i).map (stC zs))) ∧ Aside0 (Dj g wx.heap.size SA SH SC) ∧ Aside0 (Below w.heap.size w wx)) (fun _ _ vi _ => n - (intOf vi).toNat)
  case atStart => exact ⟨0, _, _, _, Nat.zero_le _, rfl, BX, OA, OH, OC, DJ, HB⟩
  case round =>
    clear BX OA OH OC DJ HB
    obtain ⟨i, SA, SH, SC, hi, rfl, BX, OA, OH, OC, DJ, HB⟩ := hrel
    by_cases hlt : i < n
    · have hii : (i : Int) < (n : Int) := by omega
      have HI := Aside0.mk hlt
      have hw3 : (i : Int) ≤ 9223372036854775806 := by have := HN.out; omega
      obtain ⟨y0, ey0⟩ : ∃ x, x = nxt zs (4 * i + 2) 3 := ⟨_, rfl⟩
      obtain ⟨y1, ey1⟩ : ∃ x, x = nxt zs (4 * i + 2 + 1) 3 := ⟨_, rfl⟩
      obtain ⟨y2, ey2⟩ : ∃ x, x = nxt zs (4 * i + 2 + 1 + 1) 4 := ⟨_, rfl⟩
      obtain ⟨y3, ey3⟩ : ∃ x, x = nxt zs (4 * i + 2 + 1 + 1 + 1) 4 := ⟨_, rfl⟩
      have b0 : 0 ≤ y0 ∧ y0 < 3 := by rw [ey0]; exact ⟨nxt_lo _ _ (by decide), nxt_hi _ _ (by decide)⟩
      have b1 : 0 ≤ y1 ∧ y1 < 3 := by rw [ey1]; exact ⟨nxt_lo _ _ (by decide), nxt_hi _ _ (by decide)⟩
      have b2 : 0 ≤ y2 ∧ y2 < 4 := by rw [ey2]; exact ⟨nxt_lo _ _ (by decide), nxt_hi _ _ (by decide)⟩
      have b3 : 0 ≤ y3 ∧ y3 < 4 := by rw [ey3]; exact ⟨nxt_lo _ _ (by decide), nxt_hi _ _ (by decide)⟩
      obtain ⟨b00, b01⟩ := b0
      obtain ⟨b10, b11⟩ := b1
      obtain ⟨b20, b21⟩ := b2
      obtain ⟨b30, b31⟩ := b3
      have Y0 := Aside0.mk ey0
      have Y1 := Aside0.mk ey1
      have Y2 := Aside0.mk ey2
      have Y3 := Aside0.mk ey3
      clear ey0 ey1 ey2 ey3 hi hlt
      go_wp2_with (first
        | ((with_reducible refine gate_callee (f := 30) rfl ?_); refine goesL_ (some 30) rfl rfl Try.func30 (by kernel_rfl) rfl #[.pointer (some ⟨g, 0, none⟩), .int .i64 3] rfl (by (try simp only [List.map_toArray, List.map_cons, List.map_nil]); first | done | rfl) ?_; have CN := numbers_next.calls g A1 c1 zs (4 * i + 2) 3 w _ HZ.out BX.out (Kd.C_below HR.out HB.out) (by decide) (by decide) HB.out GX.out; rw [← Y0.out] at CN; (with_reducible refine CN.mono ?_); clear CN; rintro e w30 ⟨rfl, hx, hk_, hs, hb⟩; refine ⟨_, rfl, ?_⟩; have n0_ := Aside0.mk (hx); have n1_ := Aside0.mk (Kd.R_step OA.out (fun q ho_ _ => hk_ q ((DJ.out.1 q ho_).2))); have n2_ := Aside0.mk (Kd.R_step OH.out (fun q ho_ _ => hk_ q ((DJ.out.2.1 q ho_).2.1))); have n3_ := Aside0.mk (Kd.R_step OC.out (fun q ho_ _ => hk_ q ((DJ.out.2.2 q ho_).2.1))); have n4_ := Aside0.mk (DJ.out.size (Nat.le_of_eq hs.symm)); have n5_ := Aside0.mk (hb); clear BX OA OH OC DJ HB; have BX := n0_; have OA := n1_; have OH := n2_; have OC := n3_; have DJ := n4_; have HB := n5_; clear n0_ n1_ n2_ n3_ n4_ n5_; clear hx hk_ hs hb)
        | ((with_reducible refine gate_callee (f := 30) rfl ?_); refine goesL_ (some 32) rfl rfl Try.func30 (by kernel_rfl) rfl #[.pointer (some ⟨g, 0, none⟩), .int .i64 3] rfl (by (try simp only [List.map_toArray, List.map_cons, List.map_nil]); first | done | rfl) ?_; have CN := numbers_next.calls g A1 c1 zs (4 * i + 2 + 1) 3 w _ HZ.out BX.out (Kd.C_below HR.out HB.out) (by decide) (by decide) HB.out GX.out; rw [← Y1.out] at CN; (with_reducible refine CN.mono ?_); clear CN; rintro e w32 ⟨rfl, hx, hk_, hs, hb⟩; refine ⟨_, rfl, ?_⟩; have n0_ := Aside0.mk (hx); have n1_ := Aside0.mk (Kd.R_step OA.out (fun q ho_ _ => hk_ q ((DJ.out.1 q ho_).2))); have n2_ := Aside0.mk (Kd.R_step OH.out (fun q ho_ _ => hk_ q ((DJ.out.2.1 q ho_).2.1))); have n3_ := Aside0.mk (Kd.R_step OC.out (fun q ho_ _ => hk_ q ((DJ.out.2.2 q ho_).2.1))); have n4_ := Aside0.mk (DJ.out.size (Nat.le_of_eq hs.symm)); have n5_ := Aside0.mk (hb); clear BX OA OH OC DJ HB; have BX := n0_; have OA := n1_; have OH := n2_; have OC := n3_; have DJ := n4_; have HB := n5_; clear n0_ n1_ n2_ n3_ n4_ n5_; clear hx hk_ hs hb)
        | ((with_reducible refine gate_dst (N := 36) rfl ?_); refine Kd.R_lit (Kd.int .i64) (w0 := w) w.heap.size 3 ?hg (N := 36) ?hd (xs := ([y0, y1] : List Int)) (inner := [.int .i64 (y0), .int .i64 (y1)]) (ok := fun q => w32.heap.size ≤ q) (okp := fun _ => False) ?hr ?hp (fun _ hk => hk.elim) (Nat.le_refl _) HB.out (below_size HB.out) (by simp) ?_; (case hd => rfl); (case hg => rfl); (case hr => first | (go_simp; done) | (go_simp; rfl)); (case hp => exact (Reps.one (show Kd.M (Kd.int .i64) _ _ _ (y0) [.int .i64 (y0)] from rfl) (Reps.one (show Kd.M (Kd.int .i64) _ _ _ (y1) [.int .i64 (y1)] from rfl) (Reps.none _ _)))); intro v36 w36 ho hb hgr hnew; clear hnew; have n0_ := Aside0.mk ((hgr.block g (blk_lt BX.out) (by simp)).trans BX.out); have n1_ := Aside0.mk (Kd.R_grown OA.out hgr (fun _ _ => by simp)); have n2_ := Aside0.mk (Kd.R_grown OH.out hgr (fun _ _ => by simp)); have n3_ := Aside0.mk (Kd.R_grown OC.out hgr (fun _ _ => by simp)); have n4_ := Aside0.mk (blk_lt BX.out); have n5_ := Aside0.mk (hgr.size); have n6_ := Aside0.mk (ho); have n7_ := Aside0.mk (hb); clear BX OA OH OC HB; have BX := n0_; have OA := n1_; have OH := n2_; have OC := n3_; have GL36 := n4_; have SZ36 := n5_; have RW36 := n6_; have HB := n7_; clear n0_ n1_ n2_ n3_ n4_ n5_ n6_ n7_; clear ho hb hgr; obtain ⟨A36, c36, e36⟩ : ∃ A c, v36 = Value.slice A 2 c := Kd.R_slice RW36.out; subst e36)
        | ((with_reducible refine gate_builtin (b := .append) (xs := #[.tmp 33, .tmp 37]) rfl ?_); at_builtin; refine Kd.R_append (Kd.slice 3 (Kd.int .i64)) (w0 := w) w.heap.size rfl (.tmp 33) (.tmp 37) 23 22 (.slice none 0 0) 24 rfl Try.underlying23 info22 rfl (by decide) (by omega) u9 ((List.range i).map (stH zs)) [y0, y1] [.slice A36 2 c36] (fun q => SH q ∨ w32.heap.size ≤ q) (fun q => w32.heap.size ≤ q) rfl rfl ?aP ?aK ?aF ?aO ?aB ?aS ?aL ?_; (case aP => exact ⟨_, rfl, RW36.out⟩); (case aK => exact (fun q hq => ⟨.inr hq, fun e => by have := (DJ.out.2.1 q (OH.out.1 q e.symm)).1; omega⟩)); (case aF => exact (fun q hq => .inr (Nat.le_trans SZ36.out hq))); (case aO => exact Kd.R_mono OH.out (fun _ h => .inl h)); (case aB => exact HB.out); (case aS => exact (below_size HB.out)); (case aL => have := HI.out; have := HN.out; simp; omega); intro v38 w38 ho hb hgr hat; have n0_ := Aside0.mk ((hgr.block g (blk_lt BX.out) (fun e => (DJ.out.2.1 g (OH.out.1 g e.symm)).2.1 rfl)).trans BX.out); have n1_ := Aside0.mk (Kd.R_grown OA.out hgr (fun q hq e => (DJ.out.2.1 q (OH.out.1 q e.symm)).2.2 hq)); have n2_ := Aside0.mk (Kd.R_grown OC.out hgr (fun q hq e => (DJ.out.2.2 q hq).2.2.2 (OH.out.1 q e.symm))); have n3_ := Aside0.mk (R_in2 ho); have n4_ := Aside0.mk (DJ.out.held GL36.out (Nat.le_trans SZ36.out hgr.size)); have n5_ := Aside0.mk (hb); clear BX OA OC OH DJ HB; have BX := n0_; have OA := n1_; have OC := n2_; have OH := n3_; have DJ := n4_; have HB := n5_; clear n0_ n1_ n2_ n3_ n4_ n5_; clear ho hb hgr hat GL36 SZ36 RW36)
        | ((with_reducible refine gate_callee (f := 30) rfl ?_); refine goesL_ (some 42) rfl rfl Try.func30 (by kernel_rfl) rfl #[.pointer (some ⟨g, 0, none⟩), .int .i64 4] rfl (by (try simp only [List.map_toArray, List.map_cons, List.map_nil]); first | done | rfl) ?_; have CN := numbers_next.calls g A1 c1 zs (4 * i + 2 + 1 + 1) 4 w _ HZ.out BX.out (Kd.C_below HR.out HB.out) (by decide) (by decide) HB.out GX.out; rw [← Y2.out] at CN; (with_reducible refine CN.mono ?_); clear CN; rintro e w42 ⟨rfl, hx, hk_, hs, hb⟩; refine ⟨_, rfl, ?_⟩; have n0_ := Aside0.mk (hx); have n1_ := Aside0.mk (Kd.R_step OA.out (fun q ho_ _ => hk_ q ((DJ.out.1 q ho_).2))); have n2_ := Aside0.mk (Kd.R_step OH.out (fun q ho_ _ => hk_ q ((DJ.out.2.1 q ho_).2.1))); have n3_ := Aside0.mk (Kd.R_step OC.out (fun q ho_ _ => hk_ q ((DJ.out.2.2 q ho_).2.1))); have n4_ := Aside0.mk (DJ.out.size (Nat.le_of_eq hs.symm)); have n5_ := Aside0.mk (hb); clear BX OA OH OC DJ HB; have BX := n0_; have OA := n1_; have OH := n2_; have OC := n3_; have DJ := n4_; have HB := n5_; clear n0_ n1_ n2_ n3_ n4_ n5_; clear hx hk_ hs hb)
        | ((with_reducible refine gate_callee (f := 30) rfl ?_); refine goesL_ (some 46) rfl rfl Try.func30 (by kernel_rfl) rfl #[.pointer (some ⟨g, 0, none⟩), .int .i64 4] rfl (by (try simp only [List.map_toArray, List.map_cons, List.map_nil]); first | done | rfl) ?_; have CN := numbers_next.calls g A1 c1 zs (4 * i + 2 + 1 + 1 + 1) 4 w _ HZ.out BX.out (Kd.C_below HR.out HB.out) (by decide) (by decide) HB.out GX.out; rw [← Y3.out] at CN; (with_reducible refine CN.mono ?_); clear CN; rintro e w46 ⟨rfl, hx, hk_, hs, hb⟩; refine ⟨_, rfl, ?_⟩; have n0_ := Aside0.mk (hx); have n1_ := Aside0.mk (Kd.R_step OA.out (fun q ho_ _ => hk_ q ((DJ.out.1 q ho_).2))); have n2_ := Aside0.mk (Kd.R_step OH.out (fun q ho_ _ => hk_ q ((DJ.out.2.1 q ho_).2.1))); have n3_ := Aside0.mk (Kd.R_step OC.out (fun q ho_ _ => hk_ q ((DJ.out.2.2 q ho_).2.1))); have n4_ := Aside0.mk (DJ.out.size (Nat.le_of_eq hs.symm)); have n5_ := Aside0.mk (hb); clear BX OA OH OC DJ HB; have BX := n0_; have OA := n1_; have OH := n2_; have OC := n3_; have DJ := n4_; have HB := n5_; clear n0_ n1_ n2_ n3_ n4_ n5_; clear hx hk_ hs hb)
        | ((with_reducible refine gate_dst (N := 48) rfl ?_); refine Kd.R_lit (Kd.int .i64) (w0 := w) w.heap.size 3 ?hg (N := 48) ?hd (xs := ([y0 + y2, y1 + y3] : List Int)) (inner := [.int .i64 (y0 + y2), .int .i64 (y1 + y3)]) (ok := fun q => w46.heap.size ≤ q) (okp := fun _ => False) ?hr ?hp (fun _ hk => hk.elim) (Nat.le_refl _) HB.out (below_size HB.out) (by simp) ?_; (case hd => rfl); (case hg => rfl); (case hr => first | (go_simp; done) | (go_simp; rfl)); (case hp => exact (Reps.one (show Kd.M (Kd.int .i64) _ _ _ (y0 + y2) [.int .i64 (y0 + y2)] from rfl) (Reps.one (show Kd.M (Kd.int .i64) _ _ _ (y1 + y3) [.int .i64 (y1 + y3)] from rfl) (Reps.none _ _)))); intro v48 w48 ho hb hgr hnew; clear hnew; have n0_ := Aside0.mk ((hgr.block g (blk_lt BX.out) (by simp)).trans BX.out); have n1_ := Aside0.mk (Kd.R_grown OA.out hgr (fun _ _ => by simp)); have n2_ := Aside0.mk (Kd.R_grown OH.out hgr (fun _ _ => by simp)); have n3_ := Aside0.mk (Kd.R_grown OC.out hgr (fun _ _ => by simp)); have n4_ := Aside0.mk (blk_lt BX.out); have n5_ := Aside0.mk (hgr.size); have n6_ := Aside0.mk (ho); have n7_ := Aside0.mk (hb); clear BX OA OH OC HB; have BX := n0_; have OA := n1_; have OH := n2_; have OC := n3_; have GL48 := n4_; have SZ48 := n5_; have RW48 := n6_; have HB := n7_; clear n0_ n1_ n2_ n3_ n4_ n5_ n6_ n7_; clear ho hb hgr; obtain ⟨A48, c48, e48⟩ : ∃ A c, v48 = Value.slice A 2 c := Kd.R_slice RW48.out; subst e48)
        | ((with_reducible refine gate_builtin (b := .append) (xs := #[.tmp 39, .tmp 49]) rfl ?_); at_builtin; refine Kd.R_append (Kd.slice 3 (Kd.int .i64)) (w0 := w) w.heap.size rfl (.tmp 39) (.tmp 49) 23 22 (.slice none 0 0) 24 rfl Try.underlying23 info22 rfl (by decide) (by omega) u10 ((List.range i).map (stC zs)) [y0 + y2, y1 + y3] [.slice A48 2 c48] (fun q => SC q ∨ w46.heap.size ≤ q) (fun q => w46.heap.size ≤ q) rfl rfl ?aP ?aK ?aF ?aO ?aB ?aS ?aL ?_; (case aP => exact ⟨_, rfl, RW48.out⟩); (case aK => exact (fun q hq => ⟨.inr hq, fun e => by have := (DJ.out.2.2 q (OC.out.1 q e.symm)).1; omega⟩)); (case aF => exact (fun q hq => .inr (Nat.le_trans SZ48.out hq))); (case aO => exact Kd.R_mono OC.out (fun _ h => .inl h)); (case aB => exact HB.out); (case aS => exact (below_size HB.out)); (case aL => have := HI.out; have := HN.out; simp; omega); intro v50 w50 ho hb hgr hat; have n0_ := Aside0.mk ((hgr.block g (blk_lt BX.out) (fun e => (DJ.out.2.2 g (OC.out.1 g e.symm)).2.1 rfl)).trans BX.out); have n1_ := Aside0.mk (Kd.R_grown OA.out hgr (fun q hq e => (DJ.out.2.2 q (OC.out.1 q e.symm)).2.2.1 hq)); have n2_ := Aside0.mk (Kd.R_grown OH.out hgr (fun q hq e => (DJ.out.2.2 q (OC.out.1 q e.symm)).2.2.2 hq)); have n3_ := Aside0.mk (R_in2 ho); have n4_ := Aside0.mk (DJ.out.claim GL48.out (Nat.le_trans SZ48.out hgr.size)); have n5_ := Aside0.mk (hb); clear BX OA OH OC DJ HB; have BX := n0_; have OA := n1_; have OH := n2_; have OC := n3_; have DJ := n4_; have HB := n5_; clear n0_ n1_ n2_ n3_ n4_ n5_; clear ho hb hgr hat GL48 SZ48 RW48))
      refine ⟨⟨i + 1, _, _, _, HI.out, by go_num, ?_, OA, ⟨?_⟩, ⟨?_⟩, DJ, HB⟩, by have := HI.out; simp [intOf]; omega⟩
      · rw [show 4 * (i + 1) + 2 = 4 * i + 2 + 1 + 1 + 1 + 1 by omega]; exact BX
      · have e : stH zs i = [y0, y1] := by unfold stH; rw [Y0.out, Y1.out]
        rw [List.range_succ, List.map_append, List.map_cons, List.map_nil, e]
        exact OH.out
      · have e : stC zs i = [y0 + y2, y1 + y3] := by unfold stC; rw [Y0.out, Y1.out, Y2.out, Y3.out]
        rw [List.range_succ, List.map_append, List.map_cons, List.map_nil, e]
        exact OC.out
    · obtain rfl : i = n := by omega
      clear hi hlt
      have hii : ¬ ((i : Int) < (i : Int)) := by omega
      go_wp2
      refine bodyPost_ret (results_tmp3 rfl _ _ _) rfl ?_
      have e : stA zs = [x0, x1] := by unfold stA; rw [X0.out, X1.out]
      refine ⟨_, _, _, rfl, ⟨by rw [e]; exact Kd.R_mono OA.out (fun _ _ => trivial), Kd.R_mono OH.out (fun k hk => ⟨fun q => (DJ.out.2.1 k hk).2.2 (OA.out.1 k q.symm), fun q => (DJ.out.2.2 k (OC.out.1 k q.symm)).2.2.2 hk⟩), Kd.R_mono OC.out (fun k hk => ⟨fun q => (DJ.out.2.2 k hk).2.2.1 (OA.out.1 k q.symm), fun q => (DJ.out.2.2 k hk).2.2.2 (OH.out.1 k q.symm)⟩)⟩, HB.out⟩
theorem signalboxlaw14_state.calls (n : Nat) (hn : n ≤ 12) (A1 : Option Addr) (c1 : Nat) (zs : List Int) (w : World) (hz : zs.length ≤ 1000) (hr : Kd.C (Kd.int .i64) w A1 zs.length zs) :
    Calls Try.prog 16 #[.int .i64 (n : Int), .slice A1 zs.length c1] w fun e w' => ∃ v0 v1 v2 : Value, e = .returned (.tuple #[v0, v1, v2]) ∧ IntsOut w' v0 (stA zs) ∧ RowsOut w' v1 ((List.range n).map (stH zs)) ∧ RowsOut w' v2 ((List.range n).map (stC zs)) ∧ Below w.heap.size w w' := by
  refine (signalboxlaw14_state.made n hn A1 c1 zs w hz hr).mono ?_
  rintro e w' ⟨v0, v1, v2, rfl, ⟨h1, h2, h3⟩, hb⟩
  exact ⟨v0, v1, v2, rfl, Kd.R_reads h1, Kd.R_reads h2, Kd.R_reads h3, hb⟩

end Go.Proofs.Ytlngcnijlijplaa.PBank
