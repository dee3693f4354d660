import Derived.Test.YtdgaklldijkoaaaPCodex0
import Derived.Test.YtdgaklldijkoaaaCodeG
import Derived.Test.YtdgaklldijkoaaaPCodex5
import Derived.BigQuiet
import Derived.IntWalk
import Derived.WalkMore
import Derived.Laws.EntriesVeiled
import Derived.StillTailTactics
import Derived.Laws.BitsAllLaws
import Derived.Laws.BitsLemmas
import Derived.Laws.Strings
namespace Go.Proofs.Ytdgaklldijkoaaa.PCode
open Go.RowKit Go.Proofs.YtdgaklldijkoaaaW.PrintWords Go.Proofs.YtdgaklldijkoaaaW.PrintLast Go.Proofs.YtdgaklldijkoaaaW.PrintMore
attribute [local go_sem] max2_int min2_int max_two min_two max_three min_three max_four min_four
set_option linter.unusedVariables false
set_option linter.unusedSimpArgs false
/-! Decode. -/
theorem le_byt : ∀ (k : Nat) (u : Int), Byt (le k u)
  | 0, _, x, hx => by cases hx
  | k + 1, u, x, hx => by
    rcases List.mem_cons.1 hx with rfl | hx
    · omega
    · exact le_byt k _ x hx
theorem nums8_byt (l : List Int) : Byt (nums8 l) := fun x hx => by
  obtain ⟨y, _, h⟩ := List.mem_flatMap.1 hx
  exact le_byt _ _ x h
theorem layB_byt (l : List (List Int)) : Byt (layB l) := fun x hx => by
  rcases List.mem_append.1 hx with hx | hx
  · exact le_byt _ _ x hx
  · obtain ⟨y, _, h⟩ := List.mem_flatMap.1 hx
    exact nums8_byt _ x h
theorem encB_byt (p : Pg) : Byt (encB p) := fun x hx => by
  unfold encB at hx
  simp only [List.mem_append] at hx
  rcases hx with ((((((((hx | hx) | hx) | hx) | hx) | hx) | hx) | hx) | hx) | hx
  · rcases List.mem_cons.1 hx with rfl | hx
    · decide
    · cases List.mem_singleton.1 hx; decide
  all_goals first | exact layB_byt _ x hx | exact le_byt _ _ x hx
def Pg.z : Pg := ⟨[], [], [], 0, [], [], [], [], 0⟩
def hd0 (r : List Int) : Int := r.getD 0 0
/-- The program that is read. -/
def decP (s : RS) : Pg :=
  let s1 := rlistS 3 s; let s2 := rlistS 3 s1; let s3 := rlistS 2 s2; let s4 := rnumS s3; let s5 := rlistS 1 s4; let s6 := rlistS 1 s5; let s7 := rlistS (rlistV 1 s5).length s6; let s8 := rlistS 2 s7
  ⟨(rlistV 3 s).map of44, (rlistV 3 s1).map of46, (rlistV 2 s2).map of56, rnumV s3, (rlistV 1 s4).map hd0, (rlistV 1 s5).map hd0, rlistV (rlistV 1 s5).length s6, (rlistV 2 s7).map of65, rnumV s8⟩
def dec (b : List Int) : Pg × Int := if b.length < 2 then (Pg.z, 5) else if (decP (b.drop 2, false)).may = true ∧ encB (decP (b.drop 2, false)) = b then (decP (b.drop 2, false), 0) else (Pg.z, 5)
theorem results_cell_row_tmp {P : Program} {fn : Func} {p u : Tmp} {ty : TypeId} (h : fn.results = #[.cell p ty, .tmp u]) (tmps : Array Value) (w : World) (g : Nat) (t : TypeId) (cs : Array Value) (fr : Nat × Nat) (d : TypeDesc)
    (hp : tmps.getD p undef = .pointer (some ⟨g, 0, none⟩)) (hg : w.heap[g]? = some (.cells cs t fr))
    (hu : P.underlying ty = some d) (hd : (match d with | .struct _ | .array _ _ => true | _ => false) = true) (hi : (P.info? ty).map (·.size) = some cs.size) :
    (results fn tmps).run P w = .ok (.tuple #[.agg cs, tmps.getD u undef]) w := by
  rw [results_cell_tmp h, hp]
  simp [asAddr, run_loadVar_row w g t ty cs fr d hg hu hd hi, Result.andThen]
theorem u8_inj : ∀ a b : List Int, Byt a → Byt b → a.map (fun n => UInt8.ofNat n.toNat) = b.map (fun n => UInt8.ofNat n.toNat) → a = b
  | [], [], _, _, _ => rfl
  | [], y :: b, _, _, h => by simp at h
  | x :: a, [], _, _, h => by simp at h
  | x :: a, y :: b, ha, hb, h => by
    rw [List.map_cons, List.map_cons, List.cons.injEq] at h
    have h1 := congrArg UInt8.toNat h.1
    rw [UInt8.toNat_ofNat', UInt8.toNat_ofNat'] at h1
    have hx := ha x (by simp)
    have hy := hb y (by simp)
    rw [u8_inj a b (fun z hz => ha z (by simp [hz])) (fun z hz => hb z (by simp [hz])) h.2, show x = y by omega]
theorem str_inj {a b : List Int} (ha : Byt a) (hb : Byt b) : ((strOfNums a).toList == (strOfNums b).toList) = decide (a = b) := by
  rw [ByteArray.toList_eq, ByteArray.toList_eq, strOfNums_data, strOfNums_data]
  by_cases q : a = b
  · subst q; simp
  · rw [decide_eq_false q]
    exact beq_false_of_ne (fun h => q (u8_inj a b ha hb h))
theorem equal_any {w : World} {A0 A1 : Option Addr} {c0 c1 : Nat} {a b : List Int} {t : Bool} (ht : decide (a = b) = t) (ha : Byt a) (hb : Byt b) (h0 : Kd.C (Kd.int .u8) w A0 a.length a) (k0 : a.length ≤ c0) (h1 : Kd.C (Kd.int .u8) w A1 b.length b) (k1 : b.length ≤ c1) :
    Calls Try.prog 48 #[.slice A0 a.length c0, .slice A1 b.length c1] w fun e w' => e = .returned (.bool t) ∧ Below w.heap.size w w' :=
  (bytes_Equal.calls A0 c0 a A1 c1 b t w h0 k0 h1 k1 (by unfold bytes_Equal.f; rw [str_inj ha hb, ht])).mono fun _ _ k => ⟨k.1, k.2.below⟩
theorem nilC {α : Type} (d : Kd α) (w : World) : Kd.C d w none 0 [] := (Kd.R_reads' (Kd.R_nil d 0 w 0 (fun _ => True))).2.2
theorem zPX (w : World) : PX w none 0 none 0 none 0 none 0 none 0 none 0 none 0 Pg.z := ⟨⟨Nat.le_refl _, nilC _ w⟩, ⟨Nat.le_refl _, nilC _ w⟩, ⟨Nat.le_refl _, nilC _ w⟩, ⟨Nat.le_refl _, nilC _ w⟩, ⟨Nat.le_refl _, nilC _ w⟩, ⟨Nat.le_refl _, nilC _ w⟩, ⟨Nat.le_refl _, nilC _ w⟩⟩

/-- The lists of a program, the call's own. -/
structure QX (base : Nat) (w : World) (A0 : Option Addr) (c0 : Nat) (A1 : Option Addr) (c1 : Nat) (A2 : Option Addr) (c2 : Nat) (A4 : Option Addr) (c4 : Nat) (A5 : Option Addr) (c5 : Nat) (A6 : Option Addr) (c6 : Nat) (A7 : Option Addr) (c7 : Nat) (p : Pg) : Prop where
  a : Kd.R k44 44 w base (fun _ => True) (.slice A0 p.a.length c0) p.a
  b : Kd.R k46 46 w base (fun _ => True) (.slice A1 p.b.length c1) p.b
  c : Kd.R k56 56 w base (fun _ => True) (.slice A2 p.c.length c2) p.c
  e : Kd.R (Kd.int .i64) 3 w base (fun _ => True) (.slice A4 p.e.length c4) p.e
  f : Kd.R (Kd.int .i64) 3 w base (fun _ => True) (.slice A5 p.f.length c5) p.f
  g : Kd.R (Kd.slice 3 (Kd.int .i64)) 25 w base (fun _ => True) (.slice A6 p.g.length c6) p.g
  h : Kd.R k65 65 w base (fun _ => True) (.slice A7 p.h.length c7) p.h
section
variable {base : Nat} {w w' : World} {A0 A1 A2 A4 A5 A6 A7 : Option Addr} {c0 c1 c2 c4 c5 c6 c7 : Nat} {p : Pg}
theorem QX.below (h : QX base w A0 c0 A1 c1 A2 c2 A4 c4 A5 c5 A6 c6 A7 c7 p) (hb : Below w.heap.size w w') : QX base w' A0 c0 A1 c1 A2 c2 A4 c4 A5 c5 A6 c6 A7 c7 p :=
  ⟨Kd.R_below h.a hb, Kd.R_below h.b hb, Kd.R_below h.c hb, Kd.R_below h.e hb, Kd.R_below h.f hb, Kd.R_below h.g hb, Kd.R_below h.h hb⟩
theorem R_off {α : Type} {d : Kd α} {e g t j : Nat} {cs : Array Value} {u v : Value} {xs : List α} (h : d.R e w base (fun _ => True) v xs) (hb : w.heap[g]? = some (.cells cs t (0, 0))) (ht : ∀ q, q ∈ e :: d.E → q ≠ t) : d.R e (w.setCell ⟨g, j, none⟩ u) base (fun _ => True) v xs :=
  Kd.R_mono (Kd.R_far (Kd.R_types h hb ht) (p := ⟨g, j, none⟩) (fun k hk => hk.2) u) (fun _ _ => trivial)
theorem QX.set {g j : Nat} {cs : Array Value} {u : Value} (h : QX base w A0 c0 A1 c1 A2 c2 A4 c4 A5 c5 A6 c6 A7 c7 p) (hb : w.heap[g]? = some (.cells cs 29 (0, 0))) : QX base (w.setCell ⟨g, j, none⟩ u) A0 c0 A1 c1 A2 c2 A4 c4 A5 c5 A6 c6 A7 c7 p := by
  refine ⟨R_off h.a hb ?_, R_off h.b hb ?_, R_off h.c hb ?_, R_off h.e hb ?_, R_off h.f hb ?_, R_off h.g hb ?_, R_off h.h hb ?_⟩ <;>
    (intro q hq; repeat (rcases List.mem_cons.1 hq with rfl | hq; exact (by decide))) <;> cases hq
theorem QX.px (h : QX base w A0 c0 A1 c1 A2 c2 A4 c4 A5 c5 A6 c6 A7 c7 p) : PX w A0 c0 A1 c1 A2 c2 A4 c4 A5 c5 A6 c6 A7 c7 p :=
  ⟨⟨(Kd.R_reads' h.a).2.1, (Kd.R_reads' h.a).2.2⟩, ⟨(Kd.R_reads' h.b).2.1, (Kd.R_reads' h.b).2.2⟩, ⟨(Kd.R_reads' h.c).2.1, (Kd.R_reads' h.c).2.2⟩, ⟨(Kd.R_reads' h.e).2.1, (Kd.R_reads' h.e).2.2⟩, ⟨(Kd.R_reads' h.f).2.1, (Kd.R_reads' h.f).2.2⟩, ⟨(Kd.R_reads' h.g).2.1, (Kd.R_reads' h.g).2.2⟩, ⟨(Kd.R_reads' h.h).2.1, (Kd.R_reads' h.h).2.2⟩⟩
end

theorem tk36 {w0 w : World} {g : Nat} {s s' : RS} {cl : Int} {q : List S44} (hq : q = (rlistV 3 s).map of44) (hs : s' = rlistS 3 s) (h : RDS w0 w g s cl) (hB : Byt s.1) : Calls Try.prog 36 #[.pointer (some ⟨g, 0, none⟩), .func (.func 37) #[] #[]] w fun e w' => (∃ A c, e = .returned (.slice A q.length c) ∧ Kd.R (k44) 44 w' w0.heap.size (fun _ => True) (.slice A q.length c) q) ∧ RDS w0 w' g s' cl ∧ Fr [73] w w' := by
  subst hq hs
  refine (take36 h hB).mono fun e w' ⟨⟨A, c, k1, k2⟩, k3, k4⟩ => ⟨⟨A, c, ?_, ?_⟩, k3, k4⟩
  · rw [k1]; rw [List.length_map]
  · have h := Kd.R_mono k2 (ok' := fun _ => True) (fun _ _ => trivial)
    first | exact h | (rw [List.length_map]; exact h)

theorem tk38 {w0 w : World} {g : Nat} {s s' : RS} {cl : Int} {q : List S46} (hq : q = (rlistV 3 s).map of46) (hs : s' = rlistS 3 s) (h : RDS w0 w g s cl) (hB : Byt s.1) : Calls Try.prog 38 #[.pointer (some ⟨g, 0, none⟩), .func (.func 39) #[] #[]] w fun e w' => (∃ A c, e = .returned (.slice A q.length c) ∧ Kd.R (k46) 46 w' w0.heap.size (fun _ => True) (.slice A q.length c) q) ∧ RDS w0 w' g s' cl ∧ Fr [73] w w' := by
  subst hq hs
  refine (take38 h hB).mono fun e w' ⟨⟨A, c, k1, k2⟩, k3, k4⟩ => ⟨⟨A, c, ?_, ?_⟩, k3, k4⟩
  · rw [k1]; rw [List.length_map]
  · have h := Kd.R_mono k2 (ok' := fun _ => True) (fun _ _ => trivial)
    first | exact h | (rw [List.length_map]; exact h)

theorem tk40 {w0 w : World} {g : Nat} {s s' : RS} {cl : Int} {q : List S56} (hq : q = (rlistV 2 s).map of56) (hs : s' = rlistS 2 s) (h : RDS w0 w g s cl) (hB : Byt s.1) : Calls Try.prog 40 #[.pointer (some ⟨g, 0, none⟩), .func (.func 41) #[] #[]] w fun e w' => (∃ A c, e = .returned (.slice A q.length c) ∧ Kd.R (k56) 56 w' w0.heap.size (fun _ => True) (.slice A q.length c) q) ∧ RDS w0 w' g s' cl ∧ Fr [73] w w' := by
  subst hq hs
  refine (take40 h hB).mono fun e w' ⟨⟨A, c, k1, k2⟩, k3, k4⟩ => ⟨⟨A, c, ?_, ?_⟩, k3, k4⟩
  · rw [k1]; rw [List.length_map]
  · have h := Kd.R_mono k2 (ok' := fun _ => True) (fun _ _ => trivial)
    first | exact h | (rw [List.length_map]; exact h)

theorem tk46 {w0 w : World} {g : Nat} {s s' : RS} {cl : Int} {q : List S65} (hq : q = (rlistV 2 s).map of65) (hs : s' = rlistS 2 s) (h : RDS w0 w g s cl) (hB : Byt s.1) : Calls Try.prog 46 #[.pointer (some ⟨g, 0, none⟩), .func (.func 47) #[] #[]] w fun e w' => (∃ A c, e = .returned (.slice A q.length c) ∧ Kd.R (k65) 65 w' w0.heap.size (fun _ => True) (.slice A q.length c) q) ∧ RDS w0 w' g s' cl ∧ Fr [73] w w' := by
  subst hq hs
  refine (take46 h hB).mono fun e w' ⟨⟨A, c, k1, k2⟩, k3, k4⟩ => ⟨⟨A, c, ?_, ?_⟩, k3, k4⟩
  · rw [k1]; rw [List.length_map]
  · have h := Kd.R_mono k2 (ok' := fun _ => True) (fun _ _ => trivial)
    first | exact h | (rw [List.length_map]; exact h)

theorem tk43 {w0 w : World} {g : Nat} {s s' : RS} {cl : Int} {q : List Int} (hq : q = (rlistV 1 s).map hd0) (hs : s' = rlistS 1 s) (h : RDS w0 w g s cl) (hB : Byt s.1) : Calls Try.prog 43 #[.pointer (some ⟨g, 0, none⟩), .func (.func 42) #[] #[]] w fun e w' => (∃ A c, e = .returned (.slice A q.length c) ∧ Kd.R (Kd.int .i64) 3 w' w0.heap.size (fun _ => True) (.slice A q.length c) q) ∧ RDS w0 w' g s' cl ∧ Fr [73] w w' := by
  subst hq hs
  refine (take43 h hB).mono fun e w' ⟨⟨A, c, k1, k2⟩, k3, k4⟩ => ⟨⟨A, c, ?_, ?_⟩, k3, k4⟩
  · rw [k1]; rw [List.length_map]
  · have h := Kd.R_mono k2 (ok' := fun _ => True) (fun _ _ => trivial)
    first | exact h | (rw [List.length_map]; exact h)

theorem tk44 {w0 w : World} {g : Nat} {s s' : RS} {m : Nat} (hm : m ≤ 65535) {q : List (List Int)} (hq : q = rlistV m s) (hs : s' = rlistS m s) (h : RDS w0 w g s (m : Int)) (hB : Byt s.1) : Calls Try.prog 44 #[.pointer (some ⟨g, 0, none⟩), .func (.func 45) #[] #[]] w fun e w' => (∃ A c, e = .returned (.slice A q.length c) ∧ Kd.R (Kd.slice 3 (Kd.int .i64)) 25 w' w0.heap.size (fun _ => True) (.slice A q.length c) q) ∧ RDS w0 w' g s' (m : Int) ∧ Fr [73] w w' := by
  subst hq hs
  refine (take44 h hB hm).mono fun e w' ⟨⟨A, c, k1, k2⟩, k3, k4⟩ => ⟨⟨A, c, ?_, ?_⟩, k3, k4⟩
  · rw [k1]
  · have h := Kd.R_mono k2 (ok' := fun _ => True) (fun _ _ => trivial)
    first | exact h | (rw [List.length_map]; exact h)

theorem nm42 {w0 w : World} {g : Nat} {s s' : RS} {cl x : Int} (hx : x = rnumV s) (hs : s' = rnumS s) (h : RDS w0 w g s cl) (hB : Byt s.1) : Calls Try.prog 42 #[.pointer (some ⟨g, 0, none⟩)] w fun e w' => e = .returned (.int .i64 x) ∧ RDS w0 w' g s' cl ∧ Fr [73] w w' := by
  subst hx hs
  exact rnum_any h hB

set_option maxHeartbeats 8000000 in
set_option maxRecDepth 100000 in
theorem decode_short {w : World} {A : Option Addr} {c : Nat} {b : List Int} (hs : b.length < 2) : Calls Try.prog 14 #[.slice A b.length c] w fun e w' => ∃ v, e = .returned (.tuple #[v, .int .i64 (dec b).2]) ∧ PR w' v (dec b).1 ∧ Below w.heap.size w w' := by
  have HB := Aside0.mk (Below.refl w.heap.size w)
  have hd : dec b = (Pg.z, 5) := by unfold dec; rw [if_pos hs]
  rw [hd]
  have hb1 : decide ((b.length : Int) < 2) = true := decide_eq_true (by omega)
  have hb2 : decide (b.length < 2) = true := decide_eq_true hs
  clear hd hs
  go_enter Try.func14, Try.ntmps14
  go_wp2_with (first | ((with_reducible refine gate_dst (N := 2) rfl ?_); refine box_event ?hg (N := 2) ?hd (cs := #[.slice none 0 0, .slice none 0 0, .slice none 0 0, .int .i64 0, .slice none 0 0, .slice none 0 0, .slice none 0 0, .slice none 0 0, .int .i64 0]) (t := 29) ?hr ?_; (case hd => rfl); (case hg => rfl); (case hr => first | (go_simp; done) | (go_simp; rfl)); intro g2 hg w2 hbox hb; have n0_ := Aside0.mk (below_step HB.out hb); have n1_ := Aside0.mk (hbox); have n2_ := Aside0.mk ((by rw [hg]; exact below_size HB.out : w.heap.size ≤ g2)); clear HB; have HB := n0_; have BR := n1_; have GR := n2_; clear n0_ n1_ n2_; have hcr0 : w2.cell? ⟨g2, 0, none⟩ = some (.slice none 0 0) := (blk_cell hbox 0).trans rfl; have hfr0 : w2.frozen? ⟨g2, 0, none⟩ = false := blk_frozen hbox 0; have hcr1 : w2.cell? ⟨g2, 1, none⟩ = some (.slice none 0 0) := (blk_cell hbox 1).trans rfl; have hfr1 : w2.frozen? ⟨g2, 1, none⟩ = false := blk_frozen hbox 1; have hcr2 : w2.cell? ⟨g2, 2, none⟩ = some (.slice none 0 0) := (blk_cell hbox 2).trans rfl; have hfr2 : w2.frozen? ⟨g2, 2, none⟩ = false := blk_frozen hbox 2; have hcr3 : w2.cell? ⟨g2, 3, none⟩ = some (.int .i64 0) := (blk_cell hbox 3).trans rfl; have hfr3 : w2.frozen? ⟨g2, 3, none⟩ = false := blk_frozen hbox 3; have hcr4 : w2.cell? ⟨g2, 4, none⟩ = some (.slice none 0 0) := (blk_cell hbox 4).trans rfl; have hfr4 : w2.frozen? ⟨g2, 4, none⟩ = false := blk_frozen hbox 4; have hcr5 : w2.cell? ⟨g2, 5, none⟩ = some (.slice none 0 0) := (blk_cell hbox 5).trans rfl; have hfr5 : w2.frozen? ⟨g2, 5, none⟩ = false := blk_frozen hbox 5; have hcr6 : w2.cell? ⟨g2, 6, none⟩ = some (.slice none 0 0) := (blk_cell hbox 6).trans rfl; have hfr6 : w2.frozen? ⟨g2, 6, none⟩ = false := blk_frozen hbox 6; have hcr7 : w2.cell? ⟨g2, 7, none⟩ = some (.slice none 0 0) := (blk_cell hbox 7).trans rfl; have hfr7 : w2.frozen? ⟨g2, 7, none⟩ = false := blk_frozen hbox 7; have hcr8 : w2.cell? ⟨g2, 8, none⟩ = some (.int .i64 0) := (blk_cell hbox 8).trans rfl; have hfr8 : w2.frozen? ⟨g2, 8, none⟩ = false := blk_frozen hbox 8; clear hg hbox hb))
  refine bodyPost_ret (results_cell_row_tmp rfl _ _ g2 29 #[.slice none 0 0, .slice none 0 0, .slice none 0 0, .int .i64 0, .slice none 0 0, .slice none 0 0, .slice none 0 0, .slice none 0 0, .int .i64 0] (0, 0) _ rfl (blk_put (blk_put (blk_put (blk_put (blk_put (blk_put (blk_put (blk_put (blk_put BR.out 0 (.slice none 0 0) rfl) 1 (.slice none 0 0) rfl) 2 (.slice none 0 0) rfl) 3 (.int .i64 0) rfl) 4 (.slice none 0 0) rfl) 5 (.slice none 0 0) rfl) 6 (.slice none 0 0) rfl) 7 (.slice none 0 0) rfl) 8 (.int .i64 0) rfl) Try.underlying29 rfl (by kernel_rfl)) rfl ?_
  exact ⟨_, rfl, (zPX _).pr, (below_set (j := 8) (v := .int .i64 0) (below_set (j := 7) (v := .slice none 0 0) (below_set (j := 6) (v := .slice none 0 0) (below_set (j := 5) (v := .slice none 0 0) (below_set (j := 4) (v := .slice none 0 0) (below_set (j := 3) (v := .int .i64 0) (below_set (j := 2) (v := .slice none 0 0) (below_set (j := 1) (v := .slice none 0 0) (below_set (j := 0) (v := .slice none 0 0) HB.out GR.out) GR.out) GR.out) GR.out) GR.out) GR.out) GR.out) GR.out) GR.out)⟩

set_option maxHeartbeats 32000000 in
set_option maxRecDepth 100000 in
theorem decode_long {w : World} {A : Option Addr} {c : Nat} {b : List Int} (hl : 2 ≤ b.length) (hy : Byt b) (hC : Kd.C (Kd.int .u8) w A b.length b) (hc : b.length ≤ c) : Calls Try.prog 14 #[.slice A b.length c] w fun e w' => ∃ v, e = .returned (.tuple #[v, .int .i64 (dec b).2]) ∧ PR w' v (dec b).1 ∧ Below w.heap.size w w' := by
  have HB := Aside0.mk (Below.refl w.heap.size w)
  have hb1 : decide ((b.length : Int) < 2) = false := decide_eq_false (by omega)
  have hb2 : decide (b.length < 2) = false := decide_eq_false (by omega)
  have HD : Aside0 (dec b = if (decP (b.drop 2, false)).may = true ∧ encB (decP (b.drop 2, false)) = b then (decP (b.drop 2, false), 0) else (Pg.z, 5)) := ⟨by unfold dec; rw [if_neg (by omega)]⟩
  have HYB := Aside0.mk hy
  have HCB := Aside0.mk hC
  have HKB := Aside0.mk hc
  obtain ⟨A9, e9⟩ : ∃ A9, A9 = (if c = (2 : Int).toNat then A else A.map (·.add ((2 : Int).toNat * 1))) := ⟨_, rfl⟩
  obtain ⟨i0, hi0_, _, hsz_, _⟩ := info_parts info5
  have hcut := cut_from (P := Try.prog) 32 5 .i64 Try.underlying32 hi0_ 1 hsz_ A b.length c 2 (by decide) (by omega)
  rw [← e9, show (2 : Int).toNat = 2 from rfl] at hcut
  rw [show (2 : Int).toNat = 2 from rfl, Nat.mul_one] at e9
  have HC9 : Aside0 (Kd.C (Kd.int .u8) w A9 (b.drop 2).length (b.drop 2)) := ⟨by rw [e9]; have h := Kd.C_drop hC hl hc; rwa [show (Kd.int .u8).sz = 1 from rfl, Nat.mul_one] at h⟩
  have HK9 : Aside0 ((b.drop 2).length ≤ c - 2) := ⟨by rw [List.length_drop]; omega⟩
  obtain ⟨l0, el0⟩ : ∃ l, l = b.drop 2 := ⟨_, rfl⟩
  have EN0 : Aside0 (b.length - 2 = l0.length) := ⟨by rw [el0, List.length_drop]⟩
  rw [← el0] at HC9 HK9 HD
  have HY0 : Aside0 (Byt l0) := ⟨by rw [el0]; exact hy.drop 2⟩
  obtain ⟨s0, es0⟩ : ∃ s : RS, s = (l0, false) := ⟨_, rfl⟩
  rw [← es0] at HD
  obtain ⟨p, ep⟩ : ∃ p : Pg, p = decP s0 := ⟨_, rfl⟩
  obtain ⟨s1, es1⟩ : ∃ s : RS, s = rlistS 3 s0 := ⟨_, rfl⟩
  obtain ⟨s2, es2⟩ : ∃ s : RS, s = rlistS 3 s1 := ⟨_, rfl⟩
  obtain ⟨s3, es3⟩ : ∃ s : RS, s = rlistS 2 s2 := ⟨_, rfl⟩
  obtain ⟨s4, es4⟩ : ∃ s : RS, s = rnumS s3 := ⟨_, rfl⟩
  obtain ⟨s5, es5⟩ : ∃ s : RS, s = rlistS 1 s4 := ⟨_, rfl⟩
  obtain ⟨s6, es6⟩ : ∃ s : RS, s = rlistS 1 s5 := ⟨_, rfl⟩
  obtain ⟨s7, es7⟩ : ∃ s : RS, s = rlistS p.f.length s6 := ⟨_, rfl⟩
  obtain ⟨s8, es8⟩ : ∃ s : RS, s = rlistS 2 s7 := ⟨_, rfl⟩
  obtain ⟨s9, es9⟩ : ∃ s : RS, s = rnumS s8 := ⟨_, rfl⟩
  have ef5 : p.f.length = (rlistV 1 s5).length := by rw [ep, es5, es4, es3, es2, es1]; exact List.length_map _
  have EV0 : Aside0 (p.a = (rlistV 3 s0).map of44) := ⟨by rw [ep]; rfl⟩
  have EV1 : Aside0 (p.b = (rlistV 3 s1).map of46) := ⟨by rw [ep, es1]; rfl⟩
  have EV2 : Aside0 (p.c = (rlistV 2 s2).map of56) := ⟨by rw [ep, es2, es1]; rfl⟩
  have EV3 : Aside0 (p.d = rnumV s3) := ⟨by rw [ep, es3, es2, es1]; rfl⟩
  have EV4 : Aside0 (p.e = (rlistV 1 s4).map hd0) := ⟨by rw [ep, es4, es3, es2, es1]; rfl⟩
  have EV5 : Aside0 (p.f = (rlistV 1 s5).map hd0) := ⟨by rw [ep, es5, es4, es3, es2, es1]; rfl⟩
  have EV6 : Aside0 (p.g = rlistV p.f.length s6) := ⟨by rw [ef5, ep, es6, es5, es4, es3, es2, es1]; rfl⟩
  have EV7 : Aside0 (p.h = (rlistV 2 s7).map of65) := ⟨by rw [es7, ef5, ep, es6, es5, es4, es3, es2, es1]; rfl⟩
  have EV8 : Aside0 (p.i = rnumV s8) := ⟨by rw [es8, es7, ef5, ep, es6, es5, es4, es3, es2, es1]; rfl⟩
  have ES1 := Aside0.mk es1
  have ES2 := Aside0.mk es2
  have ES3 := Aside0.mk es3
  have ES4 := Aside0.mk es4
  have ES5 := Aside0.mk es5
  have ES6 := Aside0.mk es6
  have ES7 := Aside0.mk es7
  have ES8 := Aside0.mk es8
  have ES9 := Aside0.mk es9
  have H65 : Aside0 (p.f.length ≤ 65535) := ⟨by rw [ef5]; exact rlist_len (by rw [es5, es4, es3, es2, es1, es0]; exact Byt.lists (Byt.num (Byt.lists (Byt.lists (Byt.lists (show Byt l0 from HY0.out) 3) 3) 2)) 1) 1⟩
  have ES0 := Aside0.mk es0
  rw [← ep] at HD
  clear hl hy hC hc e9 el0 ep ef5 es1 es2 es3 es4 es5 es6 es7 es8 es9 es0
  go_enter Try.func14, Try.ntmps14
  go_upto_region 5 with (first | ((with_reducible refine gate_dst (N := 2) rfl ?_); refine box_event ?hg (N := 2) ?hd (cs := #[.slice none 0 0, .slice none 0 0, .slice none 0 0, .int .i64 0, .slice none 0 0, .slice none 0 0, .slice none 0 0, .slice none 0 0, .int .i64 0]) (t := 29) ?hr ?_; (case hd => rfl); (case hg => rfl); (case hr => first | (go_simp; done) | (go_simp; rfl)); intro g2 hg w2 hbox hb; have n0_ := Aside0.mk (below_step HB.out hb); have n1_ := Aside0.mk (hbox); have n2_ := Aside0.mk ((by rw [hg]; exact below_size HB.out : w.heap.size ≤ g2)); clear HB; have HB := n0_; have BR := n1_; have GR := n2_; clear n0_ n1_ n2_; have hcr0 : w2.cell? ⟨g2, 0, none⟩ = some (.slice none 0 0) := (blk_cell hbox 0).trans rfl; have hfr0 : w2.frozen? ⟨g2, 0, none⟩ = false := blk_frozen hbox 0; have hcr1 : w2.cell? ⟨g2, 1, none⟩ = some (.slice none 0 0) := (blk_cell hbox 1).trans rfl; have hfr1 : w2.frozen? ⟨g2, 1, none⟩ = false := blk_frozen hbox 1; have hcr2 : w2.cell? ⟨g2, 2, none⟩ = some (.slice none 0 0) := (blk_cell hbox 2).trans rfl; have hfr2 : w2.frozen? ⟨g2, 2, none⟩ = false := blk_frozen hbox 2; have hcr3 : w2.cell? ⟨g2, 3, none⟩ = some (.int .i64 0) := (blk_cell hbox 3).trans rfl; have hfr3 : w2.frozen? ⟨g2, 3, none⟩ = false := blk_frozen hbox 3; have hcr4 : w2.cell? ⟨g2, 4, none⟩ = some (.slice none 0 0) := (blk_cell hbox 4).trans rfl; have hfr4 : w2.frozen? ⟨g2, 4, none⟩ = false := blk_frozen hbox 4; have hcr5 : w2.cell? ⟨g2, 5, none⟩ = some (.slice none 0 0) := (blk_cell hbox 5).trans rfl; have hfr5 : w2.frozen? ⟨g2, 5, none⟩ = false := blk_frozen hbox 5; have hcr6 : w2.cell? ⟨g2, 6, none⟩ = some (.slice none 0 0) := (blk_cell hbox 6).trans rfl; have hfr6 : w2.frozen? ⟨g2, 6, none⟩ = false := blk_frozen hbox 6; have hcr7 : w2.cell? ⟨g2, 7, none⟩ = some (.slice none 0 0) := (blk_cell hbox 7).trans rfl; have hfr7 : w2.frozen? ⟨g2, 7, none⟩ = false := blk_frozen hbox 7; have hcr8 : w2.cell? ⟨g2, 8, none⟩ = some (.int .i64 0) := (blk_cell hbox 8).trans rfl; have hfr8 : w2.frozen? ⟨g2, 8, none⟩ = false := blk_frozen hbox 8; clear hg hbox hb) | ((with_reducible refine gate_dst (N := 15) rfl ?_); refine box_event ?hg (N := 15) ?hd (cs := #[.slice A9 (b.length - 2) (c - 2), .int .i64 0, .bool false]) (t := 73) ?hr ?_; (case hd => rfl); (case hg => rfl); (case hr => first | (go_simp; done) | (go_simp; rfl)); intro g15 hg w15 hbox hb; have n0_ := Aside0.mk (below_step HB.out hb); have n1_ := Aside0.mk (blk_below BR.out hb); have n2_ := Aside0.mk (hbox); have n3_ := Aside0.mk ((by rw [hg]; exact below_size HB.out : w.heap.size ≤ g15)); clear HB BR; have HB := n0_; have BR := n1_; have BX := n2_; have GX := n3_; clear n0_ n1_ n2_ n3_; have HR : Aside0 (RDS w w15 g15 s0 0) := ⟨by rw [ES0.out]; refine ⟨A9, c - 2, ?_, HK9.out, HC9.out, GX.out, HB.out⟩; rw [← EN0.out]; exact BX.out⟩; have HY : Aside0 (Byt s0.1) := ⟨by rw [ES0.out]; exact HY0.out⟩; clear HB BX GX; clear hg hbox hb) | ((with_reducible refine gate_dst (N := 5) rfl ?_); refine box_event ?hg (N := 5) ?hd (cs := #[.slice none 0 0, .slice none 0 0, .slice none 0 0, .int .i64 0, .slice none 0 0, .slice none 0 0, .slice none 0 0, .slice none 0 0, .int .i64 0]) (t := 29) ?hr ?_; (case hd => rfl); (case hg => rfl); (case hr => first | (go_simp; done) | (go_simp; rfl)); intro g5 hg w5 hbox hb; have NBR := BR; have n0_ := Aside0.mk (HR.out.below hb); have n1_ := Aside0.mk (blk_below BR.out hb); have n2_ := Aside0.mk (hbox); have n3_ := Aside0.mk ((by rw [hg]; exact below_size HR.out.at : w.heap.size ≤ g5)); clear HR BR; have HR := n0_; have BR := n1_; have BP := n2_; have GP := n3_; clear n0_ n1_ n2_ n3_; have hNE : Aside0 (g2 ≠ g5) := ⟨by rw [hg]; have := blk_lt NBR.out; omega⟩; clear NBR; clear hg hbox hb))
  clear hcut hb1 hb2 hcr0 hfr0 hcr1 hfr1 hcr2 hfr2 hcr3 hfr3 hcr4 hfr4 hcr5 hfr5 hcr6 hfr6 hcr7 hfr7 hcr8 hfr8
  go_upto_region 6 with (first | (go_at_call 36; (with_reducible refine (tk36 EV0.out ES1.out HR.out HY.out).mono ?_); rintro e w0_ ⟨⟨A0, c0, rfl, hv⟩, hh, hf⟩; have n0_ := Aside0.mk hh; have n1_ := Aside0.mk (hf.cells BP.out (by decide)); have n2_ := Aside0.mk (hf.cells BR.out (by decide)); have n3_ : Aside0 (Byt s1.1) := ⟨by rw [ES1.out]; exact Byt.lists HY.out _⟩; clear HR BP BR HY hh hf; have HR := n0_; have BP := n1_; have BR := n2_; have HY := n3_; have HQ0 := Aside0.mk hv; clear n0_ n1_ n2_ n3_ hv; have hcz : w0_.cell? ⟨g5, 0, none⟩ = some (.slice none 0 0) := (blk_cell BP.out 0).trans rfl; have hfz : w0_.frozen? ⟨g5, 0, none⟩ = false := blk_frozen BP.out 0))
  have NE := Aside0.mk (RDB.ne HR.out BP.out (by decide))
  have n0_ : Aside0 (RDS w (w0_.setCell ⟨g5, 0, none⟩ (.slice A0 p.a.length c0)) g15 s1 0) := Aside0.mk (RDB.set_new HR.out NE.out GP.out)
  have n1_ := Aside0.mk (blk_put (cs' := #[.slice A0 p.a.length c0, .slice none 0 0, .slice none 0 0, .int .i64 0, .slice none 0 0, .slice none 0 0, .slice none 0 0, .slice none 0 0, .int .i64 0]) BP.out 0 (.slice A0 p.a.length c0) rfl)
  have n2_ := Aside0.mk (blk_far BR.out (p := ⟨g5, 0, none⟩) hNE.out (.slice A0 p.a.length c0))
  have m0_ := Aside0.mk (Kd.R_mono (Kd.R_far (Kd.R_types HQ0.out BP.out (by (intro q hq; rcases List.mem_cons.1 hq with rfl | hq; exact (by decide); cases hq))) (p := ⟨g5, 0, none⟩) (fun k hk => hk.2) (.slice A0 p.a.length c0)) (ok' := fun _ => True) (fun _ _ => trivial))
  clear HR BP BR NE hcz hfz HQ0
  generalize (w0_.setCell { block := g5, off := 0 } (.slice A0 p.a.length c0)) = W0 at n0_ n1_ n2_ m0_ ⊢
  have HR := n0_
  have BP := n1_
  have BR := n2_
  have HQ0 := m0_
  clear n0_ n1_ n2_ m0_
  go_upto_region 7 with (first | (go_at_call 38; (with_reducible refine (tk38 EV1.out ES2.out HR.out HY.out).mono ?_); rintro e w1_ ⟨⟨A1, c1, rfl, hv⟩, hh, hf⟩; have n0_ := Aside0.mk hh; have n1_ := Aside0.mk (hf.cells BP.out (by decide)); have n2_ := Aside0.mk (hf.cells BR.out (by decide)); have n3_ : Aside0 (Byt s2.1) := ⟨by rw [ES2.out]; exact Byt.lists HY.out _⟩; have m0_ := Aside0.mk (R_fr HQ0.out hf (by (intro q hq; rcases List.mem_cons.1 hq with rfl | hq; exact (by decide); cases hq))); clear HR BP BR HY HQ0 hh hf; have HR := n0_; have BP := n1_; have BR := n2_; have HY := n3_; have HQ0 := m0_; have HQ1 := Aside0.mk hv; clear n0_ n1_ n2_ n3_ m0_ hv; have hcz : w1_.cell? ⟨g5, 1, none⟩ = some (.slice none 0 0) := (blk_cell BP.out 1).trans rfl; have hfz : w1_.frozen? ⟨g5, 1, none⟩ = false := blk_frozen BP.out 1))
  have NE := Aside0.mk (RDB.ne HR.out BP.out (by decide))
  have n0_ : Aside0 (RDS w (w1_.setCell ⟨g5, 1, none⟩ (.slice A1 p.b.length c1)) g15 s2 0) := Aside0.mk (RDB.set_new HR.out NE.out GP.out)
  have n1_ := Aside0.mk (blk_put (cs' := #[.slice A0 p.a.length c0, .slice A1 p.b.length c1, .slice none 0 0, .int .i64 0, .slice none 0 0, .slice none 0 0, .slice none 0 0, .slice none 0 0, .int .i64 0]) BP.out 1 (.slice A1 p.b.length c1) rfl)
  have n2_ := Aside0.mk (blk_far BR.out (p := ⟨g5, 1, none⟩) hNE.out (.slice A1 p.b.length c1))
  have m0_ := Aside0.mk (Kd.R_mono (Kd.R_far (Kd.R_types HQ0.out BP.out (by (intro q hq; rcases List.mem_cons.1 hq with rfl | hq; exact (by decide); cases hq))) (p := ⟨g5, 1, none⟩) (fun k hk => hk.2) (.slice A1 p.b.length c1)) (ok' := fun _ => True) (fun _ _ => trivial))
  have m1_ := Aside0.mk (Kd.R_mono (Kd.R_far (Kd.R_types HQ1.out BP.out (by (intro q hq; rcases List.mem_cons.1 hq with rfl | hq; exact (by decide); cases hq))) (p := ⟨g5, 1, none⟩) (fun k hk => hk.2) (.slice A1 p.b.length c1)) (ok' := fun _ => True) (fun _ _ => trivial))
  clear HR BP BR NE hcz hfz HQ0 HQ1
  generalize (w1_.setCell { block := g5, off := 1 } (.slice A1 p.b.length c1)) = W1 at n0_ n1_ n2_ m0_ m1_ ⊢
  have HR := n0_
  have BP := n1_
  have BR := n2_
  have HQ0 := m0_
  have HQ1 := m1_
  clear n0_ n1_ n2_ m0_ m1_
  go_upto_region 8 with (first | (go_at_call 40; (with_reducible refine (tk40 EV2.out ES3.out HR.out HY.out).mono ?_); rintro e w2_ ⟨⟨A2, c2, rfl, hv⟩, hh, hf⟩; have n0_ := Aside0.mk hh; have n1_ := Aside0.mk (hf.cells BP.out (by decide)); have n2_ := Aside0.mk (hf.cells BR.out (by decide)); have n3_ : Aside0 (Byt s3.1) := ⟨by rw [ES3.out]; exact Byt.lists HY.out _⟩; have m0_ := Aside0.mk (R_fr HQ0.out hf (by (intro q hq; rcases List.mem_cons.1 hq with rfl | hq; exact (by decide); cases hq))); have m1_ := Aside0.mk (R_fr HQ1.out hf (by (intro q hq; rcases List.mem_cons.1 hq with rfl | hq; exact (by decide); cases hq))); clear HR BP BR HY HQ0 HQ1 hh hf; have HR := n0_; have BP := n1_; have BR := n2_; have HY := n3_; have HQ0 := m0_; have HQ1 := m1_; have HQ2 := Aside0.mk hv; clear n0_ n1_ n2_ n3_ m0_ m1_ hv; have hcz : w2_.cell? ⟨g5, 2, none⟩ = some (.slice none 0 0) := (blk_cell BP.out 2).trans rfl; have hfz : w2_.frozen? ⟨g5, 2, none⟩ = false := blk_frozen BP.out 2))
  have NE := Aside0.mk (RDB.ne HR.out BP.out (by decide))
  have n0_ : Aside0 (RDS w (w2_.setCell ⟨g5, 2, none⟩ (.slice A2 p.c.length c2)) g15 s3 0) := Aside0.mk (RDB.set_new HR.out NE.out GP.out)
  have n1_ := Aside0.mk (blk_put (cs' := #[.slice A0 p.a.length c0, .slice A1 p.b.length c1, .slice A2 p.c.length c2, .int .i64 0, .slice none 0 0, .slice none 0 0, .slice none 0 0, .slice none 0 0, .int .i64 0]) BP.out 2 (.slice A2 p.c.length c2) rfl)
  have n2_ := Aside0.mk (blk_far BR.out (p := ⟨g5, 2, none⟩) hNE.out (.slice A2 p.c.length c2))
  have m0_ := Aside0.mk (Kd.R_mono (Kd.R_far (Kd.R_types HQ0.out BP.out (by (intro q hq; rcases List.mem_cons.1 hq with rfl | hq; exact (by decide); cases hq))) (p := ⟨g5, 2, none⟩) (fun k hk => hk.2) (.slice A2 p.c.length c2)) (ok' := fun _ => True) (fun _ _ => trivial))
  have m1_ := Aside0.mk (Kd.R_mono (Kd.R_far (Kd.R_types HQ1.out BP.out (by (intro q hq; rcases List.mem_cons.1 hq with rfl | hq; exact (by decide); cases hq))) (p := ⟨g5, 2, none⟩) (fun k hk => hk.2) (.slice A2 p.c.length c2)) (ok' := fun _ => True) (fun _ _ => trivial))
  have m2_ := Aside0.mk (Kd.R_mono (Kd.R_far (Kd.R_types HQ2.out BP.out (by (intro q hq; rcases List.mem_cons.1 hq with rfl | hq; exact (by decide); cases hq))) (p := ⟨g5, 2, none⟩) (fun k hk => hk.2) (.slice A2 p.c.length c2)) (ok' := fun _ => True) (fun _ _ => trivial))
  clear HR BP BR NE hcz hfz HQ0 HQ1 HQ2
  generalize (w2_.setCell { block := g5, off := 2 } (.slice A2 p.c.length c2)) = W2 at n0_ n1_ n2_ m0_ m1_ m2_ ⊢
  have HR := n0_
  have BP := n1_
  have BR := n2_
  have HQ0 := m0_
  have HQ1 := m1_
  have HQ2 := m2_
  clear n0_ n1_ n2_ m0_ m1_ m2_
  go_upto_region 9 with (first | (go_at_call 42; (with_reducible refine (nm42 EV3.out ES4.out HR.out HY.out).mono ?_); rintro e w3_ ⟨rfl, hh, hf⟩; have n0_ := Aside0.mk hh; have n1_ := Aside0.mk (hf.cells BP.out (by decide)); have n2_ := Aside0.mk (hf.cells BR.out (by decide)); have n3_ : Aside0 (Byt s4.1) := ⟨by rw [ES4.out]; exact Byt.num HY.out⟩; have m0_ := Aside0.mk (R_fr HQ0.out hf (by (intro q hq; rcases List.mem_cons.1 hq with rfl | hq; exact (by decide); cases hq))); have m1_ := Aside0.mk (R_fr HQ1.out hf (by (intro q hq; rcases List.mem_cons.1 hq with rfl | hq; exact (by decide); cases hq))); have m2_ := Aside0.mk (R_fr HQ2.out hf (by (intro q hq; rcases List.mem_cons.1 hq with rfl | hq; exact (by decide); cases hq))); clear HR BP BR HY HQ0 HQ1 HQ2 hh hf; have HR := n0_; have BP := n1_; have BR := n2_; have HY := n3_; have HQ0 := m0_; have HQ1 := m1_; have HQ2 := m2_; clear n0_ n1_ n2_ n3_ m0_ m1_ m2_; have hcz : w3_.cell? ⟨g5, 3, none⟩ = some (.int .i64 0) := (blk_cell BP.out 3).trans rfl; have hfz : w3_.frozen? ⟨g5, 3, none⟩ = false := blk_frozen BP.out 3))
  have NE := Aside0.mk (RDB.ne HR.out BP.out (by decide))
  have n0_ : Aside0 (RDS w (w3_.setCell ⟨g5, 3, none⟩ (.int .i64 p.d)) g15 s4 0) := Aside0.mk (RDB.set_new HR.out NE.out GP.out)
  have n1_ := Aside0.mk (blk_put (cs' := #[.slice A0 p.a.length c0, .slice A1 p.b.length c1, .slice A2 p.c.length c2, .int .i64 p.d, .slice none 0 0, .slice none 0 0, .slice none 0 0, .slice none 0 0, .int .i64 0]) BP.out 3 (.int .i64 p.d) rfl)
  have n2_ := Aside0.mk (blk_far BR.out (p := ⟨g5, 3, none⟩) hNE.out (.int .i64 p.d))
  have m0_ := Aside0.mk (Kd.R_mono (Kd.R_far (Kd.R_types HQ0.out BP.out (by (intro q hq; rcases List.mem_cons.1 hq with rfl | hq; exact (by decide); cases hq))) (p := ⟨g5, 3, none⟩) (fun k hk => hk.2) (.int .i64 p.d)) (ok' := fun _ => True) (fun _ _ => trivial))
  have m1_ := Aside0.mk (Kd.R_mono (Kd.R_far (Kd.R_types HQ1.out BP.out (by (intro q hq; rcases List.mem_cons.1 hq with rfl | hq; exact (by decide); cases hq))) (p := ⟨g5, 3, none⟩) (fun k hk => hk.2) (.int .i64 p.d)) (ok' := fun _ => True) (fun _ _ => trivial))
  have m2_ := Aside0.mk (Kd.R_mono (Kd.R_far (Kd.R_types HQ2.out BP.out (by (intro q hq; rcases List.mem_cons.1 hq with rfl | hq; exact (by decide); cases hq))) (p := ⟨g5, 3, none⟩) (fun k hk => hk.2) (.int .i64 p.d)) (ok' := fun _ => True) (fun _ _ => trivial))
  clear HR BP BR NE hcz hfz HQ0 HQ1 HQ2
  generalize (w3_.setCell { block := g5, off := 3 } (.int .i64 p.d)) = W3 at n0_ n1_ n2_ m0_ m1_ m2_ ⊢
  have HR := n0_
  have BP := n1_
  have BR := n2_
  have HQ0 := m0_
  have HQ1 := m1_
  have HQ2 := m2_
  clear n0_ n1_ n2_ m0_ m1_ m2_
  go_upto_region 10 with (first | (go_at_call 43; (with_reducible refine (tk43 EV4.out ES5.out HR.out HY.out).mono ?_); rintro e w4_ ⟨⟨A4, c4, rfl, hv⟩, hh, hf⟩; have n0_ := Aside0.mk hh; have n1_ := Aside0.mk (hf.cells BP.out (by decide)); have n2_ := Aside0.mk (hf.cells BR.out (by decide)); have n3_ : Aside0 (Byt s5.1) := ⟨by rw [ES5.out]; exact Byt.lists HY.out _⟩; have m0_ := Aside0.mk (R_fr HQ0.out hf (by (intro q hq; rcases List.mem_cons.1 hq with rfl | hq; exact (by decide); cases hq))); have m1_ := Aside0.mk (R_fr HQ1.out hf (by (intro q hq; rcases List.mem_cons.1 hq with rfl | hq; exact (by decide); cases hq))); have m2_ := Aside0.mk (R_fr HQ2.out hf (by (intro q hq; rcases List.mem_cons.1 hq with rfl | hq; exact (by decide); cases hq))); clear HR BP BR HY HQ0 HQ1 HQ2 hh hf; have HR := n0_; have BP := n1_; have BR := n2_; have HY := n3_; have HQ0 := m0_; have HQ1 := m1_; have HQ2 := m2_; have HQ4 := Aside0.mk hv; clear n0_ n1_ n2_ n3_ m0_ m1_ m2_ hv; have hcz : w4_.cell? ⟨g5, 4, none⟩ = some (.slice none 0 0) := (blk_cell BP.out 4).trans rfl; have hfz : w4_.frozen? ⟨g5, 4, none⟩ = false := blk_frozen BP.out 4))
  have NE := Aside0.mk (RDB.ne HR.out BP.out (by decide))
  have n0_ : Aside0 (RDS w (w4_.setCell ⟨g5, 4, none⟩ (.slice A4 p.e.length c4)) g15 s5 0) := Aside0.mk (RDB.set_new HR.out NE.out GP.out)
  have n1_ := Aside0.mk (blk_put (cs' := #[.slice A0 p.a.length c0, .slice A1 p.b.length c1, .slice A2 p.c.length c2, .int .i64 p.d, .slice A4 p.e.length c4, .slice none 0 0, .slice none 0 0, .slice none 0 0, .int .i64 0]) BP.out 4 (.slice A4 p.e.length c4) rfl)
  have n2_ := Aside0.mk (blk_far BR.out (p := ⟨g5, 4, none⟩) hNE.out (.slice A4 p.e.length c4))
  have m0_ := Aside0.mk (Kd.R_mono (Kd.R_far (Kd.R_types HQ0.out BP.out (by (intro q hq; rcases List.mem_cons.1 hq with rfl | hq; exact (by decide); cases hq))) (p := ⟨g5, 4, none⟩) (fun k hk => hk.2) (.slice A4 p.e.length c4)) (ok' := fun _ => True) (fun _ _ => trivial))
  have m1_ := Aside0.mk (Kd.R_mono (Kd.R_far (Kd.R_types HQ1.out BP.out (by (intro q hq; rcases List.mem_cons.1 hq with rfl | hq; exact (by decide); cases hq))) (p := ⟨g5, 4, none⟩) (fun k hk => hk.2) (.slice A4 p.e.length c4)) (ok' := fun _ => True) (fun _ _ => trivial))
  have m2_ := Aside0.mk (Kd.R_mono (Kd.R_far (Kd.R_types HQ2.out BP.out (by (intro q hq; rcases List.mem_cons.1 hq with rfl | hq; exact (by decide); cases hq))) (p := ⟨g5, 4, none⟩) (fun k hk => hk.2) (.slice A4 p.e.length c4)) (ok' := fun _ => True) (fun _ _ => trivial))
  have m4_ := Aside0.mk (Kd.R_mono (Kd.R_far (Kd.R_types HQ4.out BP.out (by (intro q hq; rcases List.mem_cons.1 hq with rfl | hq; exact (by decide); cases hq))) (p := ⟨g5, 4, none⟩) (fun k hk => hk.2) (.slice A4 p.e.length c4)) (ok' := fun _ => True) (fun _ _ => trivial))
  clear HR BP BR NE hcz hfz HQ0 HQ1 HQ2 HQ4
  generalize (w4_.setCell { block := g5, off := 4 } (.slice A4 p.e.length c4)) = W4 at n0_ n1_ n2_ m0_ m1_ m2_ m4_ ⊢
  have HR := n0_
  have BP := n1_
  have BR := n2_
  have HQ0 := m0_
  have HQ1 := m1_
  have HQ2 := m2_
  have HQ4 := m4_
  clear n0_ n1_ n2_ m0_ m1_ m2_ m4_
  go_upto_region 11 with (first | (go_at_call 43; (with_reducible refine (tk43 EV5.out ES6.out HR.out HY.out).mono ?_); rintro e w5_ ⟨⟨A5, c5, rfl, hv⟩, hh, hf⟩; have n0_ := Aside0.mk hh; have n1_ := Aside0.mk (hf.cells BP.out (by decide)); have n2_ := Aside0.mk (hf.cells BR.out (by decide)); have n3_ : Aside0 (Byt s6.1) := ⟨by rw [ES6.out]; exact Byt.lists HY.out _⟩; have m0_ := Aside0.mk (R_fr HQ0.out hf (by (intro q hq; rcases List.mem_cons.1 hq with rfl | hq; exact (by decide); cases hq))); have m1_ := Aside0.mk (R_fr HQ1.out hf (by (intro q hq; rcases List.mem_cons.1 hq with rfl | hq; exact (by decide); cases hq))); have m2_ := Aside0.mk (R_fr HQ2.out hf (by (intro q hq; rcases List.mem_cons.1 hq with rfl | hq; exact (by decide); cases hq))); have m4_ := Aside0.mk (R_fr HQ4.out hf (by (intro q hq; rcases List.mem_cons.1 hq with rfl | hq; exact (by decide); cases hq))); clear HR BP BR HY HQ0 HQ1 HQ2 HQ4 hh hf; have HR := n0_; have BP := n1_; have BR := n2_; have HY := n3_; have HQ0 := m0_; have HQ1 := m1_; have HQ2 := m2_; have HQ4 := m4_; have HQ5 := Aside0.mk hv; clear n0_ n1_ n2_ n3_ m0_ m1_ m2_ m4_ hv; have hcz : w5_.cell? ⟨g5, 5, none⟩ = some (.slice none 0 0) := (blk_cell BP.out 5).trans rfl; have hfz : w5_.frozen? ⟨g5, 5, none⟩ = false := blk_frozen BP.out 5))
  have NE := Aside0.mk (RDB.ne HR.out BP.out (by decide))
  have n0_ : Aside0 (RDS w (w5_.setCell ⟨g5, 5, none⟩ (.slice A5 p.f.length c5)) g15 s6 0) := Aside0.mk (RDB.set_new HR.out NE.out GP.out)
  have n1_ := Aside0.mk (blk_put (cs' := #[.slice A0 p.a.length c0, .slice A1 p.b.length c1, .slice A2 p.c.length c2, .int .i64 p.d, .slice A4 p.e.length c4, .slice A5 p.f.length c5, .slice none 0 0, .slice none 0 0, .int .i64 0]) BP.out 5 (.slice A5 p.f.length c5) rfl)
  have n2_ := Aside0.mk (blk_far BR.out (p := ⟨g5, 5, none⟩) hNE.out (.slice A5 p.f.length c5))
  have m0_ := Aside0.mk (Kd.R_mono (Kd.R_far (Kd.R_types HQ0.out BP.out (by (intro q hq; rcases List.mem_cons.1 hq with rfl | hq; exact (by decide); cases hq))) (p := ⟨g5, 5, none⟩) (fun k hk => hk.2) (.slice A5 p.f.length c5)) (ok' := fun _ => True) (fun _ _ => trivial))
  have m1_ := Aside0.mk (Kd.R_mono (Kd.R_far (Kd.R_types HQ1.out BP.out (by (intro q hq; rcases List.mem_cons.1 hq with rfl | hq; exact (by decide); cases hq))) (p := ⟨g5, 5, none⟩) (fun k hk => hk.2) (.slice A5 p.f.length c5)) (ok' := fun _ => True) (fun _ _ => trivial))
  have m2_ := Aside0.mk (Kd.R_mono (Kd.R_far (Kd.R_types HQ2.out BP.out (by (intro q hq; rcases List.mem_cons.1 hq with rfl | hq; exact (by decide); cases hq))) (p := ⟨g5, 5, none⟩) (fun k hk => hk.2) (.slice A5 p.f.length c5)) (ok' := fun _ => True) (fun _ _ => trivial))
  have m4_ := Aside0.mk (Kd.R_mono (Kd.R_far (Kd.R_types HQ4.out BP.out (by (intro q hq; rcases List.mem_cons.1 hq with rfl | hq; exact (by decide); cases hq))) (p := ⟨g5, 5, none⟩) (fun k hk => hk.2) (.slice A5 p.f.length c5)) (ok' := fun _ => True) (fun _ _ => trivial))
  have m5_ := Aside0.mk (Kd.R_mono (Kd.R_far (Kd.R_types HQ5.out BP.out (by (intro q hq; rcases List.mem_cons.1 hq with rfl | hq; exact (by decide); cases hq))) (p := ⟨g5, 5, none⟩) (fun k hk => hk.2) (.slice A5 p.f.length c5)) (ok' := fun _ => True) (fun _ _ => trivial))
  clear HR BP BR NE hcz hfz HQ0 HQ1 HQ2 HQ4 HQ5
  generalize (w5_.setCell { block := g5, off := 5 } (.slice A5 p.f.length c5)) = W5 at n0_ n1_ n2_ m0_ m1_ m2_ m4_ m5_ ⊢
  have HR := n0_
  have BP := n1_
  have BR := n2_
  have HQ0 := m0_
  have HQ1 := m1_
  have HQ2 := m2_
  have HQ4 := m4_
  have HQ5 := m5_
  clear n0_ n1_ n2_ m0_ m1_ m2_ m4_ m5_
  have hcp5 : W5.cell? ⟨g5, 5, none⟩ = some (.slice A5 p.f.length c5) := (blk_cell BP.out 5).trans rfl
  obtain ⟨A10, c10, hbx, hx1, hx2, hx3, hx4⟩ := HR.out
  have BX := Aside0.mk hbx
  have hcx : W5.cell? ⟨g15, 1, none⟩ = some (.int .i64 0) := (blk_cell hbx 1).trans rfl
  have hfx : W5.frozen? ⟨g15, 1, none⟩ = false := blk_frozen hbx 1
  have NE := Aside0.mk (RDB.ne HR.out BP.out (by decide))
  have NR := Aside0.mk (RDB.ne HR.out BR.out (by decide))
  have n0_ : Aside0 (RDS w (W5.setCell ⟨g15, 1, none⟩ (.int .i64 (p.f.length : Int))) g15 s6 (p.f.length : Int)) := ⟨⟨A10, c10, blk_put BX.out 1 _ rfl, hx1, hx2, hx3, below_set hx4 hx3⟩⟩
  have n1_ := Aside0.mk (blk_far BP.out (p := ⟨g15, 1, none⟩) (fun e => NE.out e.symm) (.int .i64 (p.f.length : Int)))
  have n2_ := Aside0.mk (blk_far BR.out (p := ⟨g15, 1, none⟩) (fun e => NR.out e.symm) (.int .i64 (p.f.length : Int)))
  have m0_ := Aside0.mk (Kd.R_mono (Kd.R_far (Kd.R_types HQ0.out BX.out (by (intro q hq; rcases List.mem_cons.1 hq with rfl | hq; exact (by decide); cases hq))) (p := ⟨g15, 1, none⟩) (fun k hk => hk.2) (.int .i64 (p.f.length : Int))) (ok' := fun _ => True) (fun _ _ => trivial))
  have m1_ := Aside0.mk (Kd.R_mono (Kd.R_far (Kd.R_types HQ1.out BX.out (by (intro q hq; rcases List.mem_cons.1 hq with rfl | hq; exact (by decide); cases hq))) (p := ⟨g15, 1, none⟩) (fun k hk => hk.2) (.int .i64 (p.f.length : Int))) (ok' := fun _ => True) (fun _ _ => trivial))
  have m2_ := Aside0.mk (Kd.R_mono (Kd.R_far (Kd.R_types HQ2.out BX.out (by (intro q hq; rcases List.mem_cons.1 hq with rfl | hq; exact (by decide); cases hq))) (p := ⟨g15, 1, none⟩) (fun k hk => hk.2) (.int .i64 (p.f.length : Int))) (ok' := fun _ => True) (fun _ _ => trivial))
  have m4_ := Aside0.mk (Kd.R_mono (Kd.R_far (Kd.R_types HQ4.out BX.out (by (intro q hq; rcases List.mem_cons.1 hq with rfl | hq; exact (by decide); cases hq))) (p := ⟨g15, 1, none⟩) (fun k hk => hk.2) (.int .i64 (p.f.length : Int))) (ok' := fun _ => True) (fun _ _ => trivial))
  have m5_ := Aside0.mk (Kd.R_mono (Kd.R_far (Kd.R_types HQ5.out BX.out (by (intro q hq; rcases List.mem_cons.1 hq with rfl | hq; exact (by decide); cases hq))) (p := ⟨g15, 1, none⟩) (fun k hk => hk.2) (.int .i64 (p.f.length : Int))) (ok' := fun _ => True) (fun _ _ => trivial))
  clear hbx hx1 hx2 hx3 hx4
  go_upto_region 12 with (fail)
  clear HR BP BR NE NR BX hcp5 hcx hfx HQ0 HQ1 HQ2 HQ4 HQ5
  generalize (W5.setCell { block := g15, off := 1 } (.int .i64 (p.f.length : Int))) = W5b at n0_ n1_ n2_ m0_ m1_ m2_ m4_ m5_ ⊢
  have HR := n0_
  have BP := n1_
  have BR := n2_
  have HQ0 := m0_
  have HQ1 := m1_
  have HQ2 := m2_
  have HQ4 := m4_
  have HQ5 := m5_
  clear n0_ n1_ n2_ m0_ m1_ m2_ m4_ m5_
  go_upto_region 13 with (first | (go_at_call 44; (with_reducible refine (tk44 H65.out EV6.out ES7.out HR.out HY.out).mono ?_); rintro e w6_ ⟨⟨A6, c6, rfl, hv⟩, hh, hf⟩; have n0_ := Aside0.mk hh; have n1_ := Aside0.mk (hf.cells BP.out (by decide)); have n2_ := Aside0.mk (hf.cells BR.out (by decide)); have n3_ : Aside0 (Byt s7.1) := ⟨by rw [ES7.out]; exact Byt.lists HY.out _⟩; have m0_ := Aside0.mk (R_fr HQ0.out hf (by (intro q hq; rcases List.mem_cons.1 hq with rfl | hq; exact (by decide); cases hq))); have m1_ := Aside0.mk (R_fr HQ1.out hf (by (intro q hq; rcases List.mem_cons.1 hq with rfl | hq; exact (by decide); cases hq))); have m2_ := Aside0.mk (R_fr HQ2.out hf (by (intro q hq; rcases List.mem_cons.1 hq with rfl | hq; exact (by decide); cases hq))); have m4_ := Aside0.mk (R_fr HQ4.out hf (by (intro q hq; rcases List.mem_cons.1 hq with rfl | hq; exact (by decide); cases hq))); have m5_ := Aside0.mk (R_fr HQ5.out hf (by (intro q hq; rcases List.mem_cons.1 hq with rfl | hq; exact (by decide); cases hq))); clear HR BP BR HY HQ0 HQ1 HQ2 HQ4 HQ5 hh hf; have HR := n0_; have BP := n1_; have BR := n2_; have HY := n3_; have HQ0 := m0_; have HQ1 := m1_; have HQ2 := m2_; have HQ4 := m4_; have HQ5 := m5_; have HQ6 := Aside0.mk hv; clear n0_ n1_ n2_ n3_ m0_ m1_ m2_ m4_ m5_ hv; have hcz : w6_.cell? ⟨g5, 6, none⟩ = some (.slice none 0 0) := (blk_cell BP.out 6).trans rfl; have hfz : w6_.frozen? ⟨g5, 6, none⟩ = false := blk_frozen BP.out 6))
  have NE := Aside0.mk (RDB.ne HR.out BP.out (by decide))
  have n0_ : Aside0 (RDS w (w6_.setCell ⟨g5, 6, none⟩ (.slice A6 p.g.length c6)) g15 s7 (p.f.length : Int)) := Aside0.mk (RDB.set_new HR.out NE.out GP.out)
  have n1_ := Aside0.mk (blk_put (cs' := #[.slice A0 p.a.length c0, .slice A1 p.b.length c1, .slice A2 p.c.length c2, .int .i64 p.d, .slice A4 p.e.length c4, .slice A5 p.f.length c5, .slice A6 p.g.length c6, .slice none 0 0, .int .i64 0]) BP.out 6 (.slice A6 p.g.length c6) rfl)
  have n2_ := Aside0.mk (blk_far BR.out (p := ⟨g5, 6, none⟩) hNE.out (.slice A6 p.g.length c6))
  have m0_ := Aside0.mk (Kd.R_mono (Kd.R_far (Kd.R_types HQ0.out BP.out (by (intro q hq; rcases List.mem_cons.1 hq with rfl | hq; exact (by decide); cases hq))) (p := ⟨g5, 6, none⟩) (fun k hk => hk.2) (.slice A6 p.g.length c6)) (ok' := fun _ => True) (fun _ _ => trivial))
  have m1_ := Aside0.mk (Kd.R_mono (Kd.R_far (Kd.R_types HQ1.out BP.out (by (intro q hq; rcases List.mem_cons.1 hq with rfl | hq; exact (by decide); cases hq))) (p := ⟨g5, 6, none⟩) (fun k hk => hk.2) (.slice A6 p.g.length c6)) (ok' := fun _ => True) (fun _ _ => trivial))
  have m2_ := Aside0.mk (Kd.R_mono (Kd.R_far (Kd.R_types HQ2.out BP.out (by (intro q hq; rcases List.mem_cons.1 hq with rfl | hq; exact (by decide); cases hq))) (p := ⟨g5, 6, none⟩) (fun k hk => hk.2) (.slice A6 p.g.length c6)) (ok' := fun _ => True) (fun _ _ => trivial))
  have m4_ := Aside0.mk (Kd.R_mono (Kd.R_far (Kd.R_types HQ4.out BP.out (by (intro q hq; rcases List.mem_cons.1 hq with rfl | hq; exact (by decide); cases hq))) (p := ⟨g5, 6, none⟩) (fun k hk => hk.2) (.slice A6 p.g.length c6)) (ok' := fun _ => True) (fun _ _ => trivial))
  have m5_ := Aside0.mk (Kd.R_mono (Kd.R_far (Kd.R_types HQ5.out BP.out (by (intro q hq; rcases List.mem_cons.1 hq with rfl | hq; exact (by decide); cases hq))) (p := ⟨g5, 6, none⟩) (fun k hk => hk.2) (.slice A6 p.g.length c6)) (ok' := fun _ => True) (fun _ _ => trivial))
  have m6_ := Aside0.mk (Kd.R_mono (Kd.R_far (Kd.R_types HQ6.out BP.out (by (intro q hq; rcases List.mem_cons.1 hq with rfl | hq; exact (by decide); rcases List.mem_cons.1 hq with rfl | hq; exact (by decide); cases hq))) (p := ⟨g5, 6, none⟩) (fun k hk => hk.2) (.slice A6 p.g.length c6)) (ok' := fun _ => True) (fun _ _ => trivial))
  clear HR BP BR NE hcz hfz HQ0 HQ1 HQ2 HQ4 HQ5 HQ6
  generalize (w6_.setCell { block := g5, off := 6 } (.slice A6 p.g.length c6)) = W6 at n0_ n1_ n2_ m0_ m1_ m2_ m4_ m5_ m6_ ⊢
  have HR := n0_
  have BP := n1_
  have BR := n2_
  have HQ0 := m0_
  have HQ1 := m1_
  have HQ2 := m2_
  have HQ4 := m4_
  have HQ5 := m5_
  have HQ6 := m6_
  clear n0_ n1_ n2_ m0_ m1_ m2_ m4_ m5_ m6_
  go_upto_region 14 with (first | (go_at_call 46; (with_reducible refine (tk46 EV7.out ES8.out HR.out HY.out).mono ?_); rintro e w7_ ⟨⟨A7, c7, rfl, hv⟩, hh, hf⟩; have n0_ := Aside0.mk hh; have n1_ := Aside0.mk (hf.cells BP.out (by decide)); have n2_ := Aside0.mk (hf.cells BR.out (by decide)); have n3_ : Aside0 (Byt s8.1) := ⟨by rw [ES8.out]; exact Byt.lists HY.out _⟩; have m0_ := Aside0.mk (R_fr HQ0.out hf (by (intro q hq; rcases List.mem_cons.1 hq with rfl | hq; exact (by decide); cases hq))); have m1_ := Aside0.mk (R_fr HQ1.out hf (by (intro q hq; rcases List.mem_cons.1 hq with rfl | hq; exact (by decide); cases hq))); have m2_ := Aside0.mk (R_fr HQ2.out hf (by (intro q hq; rcases List.mem_cons.1 hq with rfl | hq; exact (by decide); cases hq))); have m4_ := Aside0.mk (R_fr HQ4.out hf (by (intro q hq; rcases List.mem_cons.1 hq with rfl | hq; exact (by decide); cases hq))); have m5_ := Aside0.mk (R_fr HQ5.out hf (by (intro q hq; rcases List.mem_cons.1 hq with rfl | hq; exact (by decide); cases hq))); have m6_ := Aside0.mk (R_fr HQ6.out hf (by (intro q hq; rcases List.mem_cons.1 hq with rfl | hq; exact (by decide); rcases List.mem_cons.1 hq with rfl | hq; exact (by decide); cases hq))); clear HR BP BR HY HQ0 HQ1 HQ2 HQ4 HQ5 HQ6 hh hf; have HR := n0_; have BP := n1_; have BR := n2_; have HY := n3_; have HQ0 := m0_; have HQ1 := m1_; have HQ2 := m2_; have HQ4 := m4_; have HQ5 := m5_; have HQ6 := m6_; have HQ7 := Aside0.mk hv; clear n0_ n1_ n2_ n3_ m0_ m1_ m2_ m4_ m5_ m6_ hv; have hcz : w7_.cell? ⟨g5, 7, none⟩ = some (.slice none 0 0) := (blk_cell BP.out 7).trans rfl; have hfz : w7_.frozen? ⟨g5, 7, none⟩ = false := blk_frozen BP.out 7))
  have NE := Aside0.mk (RDB.ne HR.out BP.out (by decide))
  have n0_ : Aside0 (RDS w (w7_.setCell ⟨g5, 7, none⟩ (.slice A7 p.h.length c7)) g15 s8 (p.f.length : Int)) := Aside0.mk (RDB.set_new HR.out NE.out GP.out)
  have n1_ := Aside0.mk (blk_put (cs' := #[.slice A0 p.a.length c0, .slice A1 p.b.length c1, .slice A2 p.c.length c2, .int .i64 p.d, .slice A4 p.e.length c4, .slice A5 p.f.length c5, .slice A6 p.g.length c6, .slice A7 p.h.length c7, .int .i64 0]) BP.out 7 (.slice A7 p.h.length c7) rfl)
  have n2_ := Aside0.mk (blk_far BR.out (p := ⟨g5, 7, none⟩) hNE.out (.slice A7 p.h.length c7))
  have m0_ := Aside0.mk (Kd.R_mono (Kd.R_far (Kd.R_types HQ0.out BP.out (by (intro q hq; rcases List.mem_cons.1 hq with rfl | hq; exact (by decide); cases hq))) (p := ⟨g5, 7, none⟩) (fun k hk => hk.2) (.slice A7 p.h.length c7)) (ok' := fun _ => True) (fun _ _ => trivial))
  have m1_ := Aside0.mk (Kd.R_mono (Kd.R_far (Kd.R_types HQ1.out BP.out (by (intro q hq; rcases List.mem_cons.1 hq with rfl | hq; exact (by decide); cases hq))) (p := ⟨g5, 7, none⟩) (fun k hk => hk.2) (.slice A7 p.h.length c7)) (ok' := fun _ => True) (fun _ _ => trivial))
  have m2_ := Aside0.mk (Kd.R_mono (Kd.R_far (Kd.R_types HQ2.out BP.out (by (intro q hq; rcases List.mem_cons.1 hq with rfl | hq; exact (by decide); cases hq))) (p := ⟨g5, 7, none⟩) (fun k hk => hk.2) (.slice A7 p.h.length c7)) (ok' := fun _ => True) (fun _ _ => trivial))
  have m4_ := Aside0.mk (Kd.R_mono (Kd.R_far (Kd.R_types HQ4.out BP.out (by (intro q hq; rcases List.mem_cons.1 hq with rfl | hq; exact (by decide); cases hq))) (p := ⟨g5, 7, none⟩) (fun k hk => hk.2) (.slice A7 p.h.length c7)) (ok' := fun _ => True) (fun _ _ => trivial))
  have m5_ := Aside0.mk (Kd.R_mono (Kd.R_far (Kd.R_types HQ5.out BP.out (by (intro q hq; rcases List.mem_cons.1 hq with rfl | hq; exact (by decide); cases hq))) (p := ⟨g5, 7, none⟩) (fun k hk => hk.2) (.slice A7 p.h.length c7)) (ok' := fun _ => True) (fun _ _ => trivial))
  have m6_ := Aside0.mk (Kd.R_mono (Kd.R_far (Kd.R_types HQ6.out BP.out (by (intro q hq; rcases List.mem_cons.1 hq with rfl | hq; exact (by decide); rcases List.mem_cons.1 hq with rfl | hq; exact (by decide); cases hq))) (p := ⟨g5, 7, none⟩) (fun k hk => hk.2) (.slice A7 p.h.length c7)) (ok' := fun _ => True) (fun _ _ => trivial))
  have m7_ := Aside0.mk (Kd.R_mono (Kd.R_far (Kd.R_types HQ7.out BP.out (by (intro q hq; rcases List.mem_cons.1 hq with rfl | hq; exact (by decide); cases hq))) (p := ⟨g5, 7, none⟩) (fun k hk => hk.2) (.slice A7 p.h.length c7)) (ok' := fun _ => True) (fun _ _ => trivial))
  clear HR BP BR NE hcz hfz HQ0 HQ1 HQ2 HQ4 HQ5 HQ6 HQ7
  generalize (w7_.setCell { block := g5, off := 7 } (.slice A7 p.h.length c7)) = W7 at n0_ n1_ n2_ m0_ m1_ m2_ m4_ m5_ m6_ m7_ ⊢
  have HR := n0_
  have BP := n1_
  have BR := n2_
  have HQ0 := m0_
  have HQ1 := m1_
  have HQ2 := m2_
  have HQ4 := m4_
  have HQ5 := m5_
  have HQ6 := m6_
  have HQ7 := m7_
  clear n0_ n1_ n2_ m0_ m1_ m2_ m4_ m5_ m6_ m7_
  go_upto_region 15 with (first | (go_at_call 42; (with_reducible refine (nm42 EV8.out ES9.out HR.out HY.out).mono ?_); rintro e w8_ ⟨rfl, hh, hf⟩; have n0_ := Aside0.mk hh; have n1_ := Aside0.mk (hf.cells BP.out (by decide)); have n2_ := Aside0.mk (hf.cells BR.out (by decide)); have n3_ : Aside0 (Byt s9.1) := ⟨by rw [ES9.out]; exact Byt.num HY.out⟩; have m0_ := Aside0.mk (R_fr HQ0.out hf (by (intro q hq; rcases List.mem_cons.1 hq with rfl | hq; exact (by decide); cases hq))); have m1_ := Aside0.mk (R_fr HQ1.out hf (by (intro q hq; rcases List.mem_cons.1 hq with rfl | hq; exact (by decide); cases hq))); have m2_ := Aside0.mk (R_fr HQ2.out hf (by (intro q hq; rcases List.mem_cons.1 hq with rfl | hq; exact (by decide); cases hq))); have m4_ := Aside0.mk (R_fr HQ4.out hf (by (intro q hq; rcases List.mem_cons.1 hq with rfl | hq; exact (by decide); cases hq))); have m5_ := Aside0.mk (R_fr HQ5.out hf (by (intro q hq; rcases List.mem_cons.1 hq with rfl | hq; exact (by decide); cases hq))); have m6_ := Aside0.mk (R_fr HQ6.out hf (by (intro q hq; rcases List.mem_cons.1 hq with rfl | hq; exact (by decide); rcases List.mem_cons.1 hq with rfl | hq; exact (by decide); cases hq))); have m7_ := Aside0.mk (R_fr HQ7.out hf (by (intro q hq; rcases List.mem_cons.1 hq with rfl | hq; exact (by decide); cases hq))); clear HR BP BR HY HQ0 HQ1 HQ2 HQ4 HQ5 HQ6 HQ7 hh hf; have HR := n0_; have BP := n1_; have BR := n2_; have HY := n3_; have HQ0 := m0_; have HQ1 := m1_; have HQ2 := m2_; have HQ4 := m4_; have HQ5 := m5_; have HQ6 := m6_; have HQ7 := m7_; clear n0_ n1_ n2_ n3_ m0_ m1_ m2_ m4_ m5_ m6_ m7_; have hcz : w8_.cell? ⟨g5, 8, none⟩ = some (.int .i64 0) := (blk_cell BP.out 8).trans rfl; have hfz : w8_.frozen? ⟨g5, 8, none⟩ = false := blk_frozen BP.out 8))
  have NE := Aside0.mk (RDB.ne HR.out BP.out (by decide))
  have n0_ : Aside0 (RDS w (w8_.setCell ⟨g5, 8, none⟩ (.int .i64 p.i)) g15 s9 (p.f.length : Int)) := Aside0.mk (RDB.set_new HR.out NE.out GP.out)
  have n1_ := Aside0.mk (blk_put (cs' := #[.slice A0 p.a.length c0, .slice A1 p.b.length c1, .slice A2 p.c.length c2, .int .i64 p.d, .slice A4 p.e.length c4, .slice A5 p.f.length c5, .slice A6 p.g.length c6, .slice A7 p.h.length c7, .int .i64 p.i]) BP.out 8 (.int .i64 p.i) rfl)
  have n2_ := Aside0.mk (blk_far BR.out (p := ⟨g5, 8, none⟩) hNE.out (.int .i64 p.i))
  have m0_ := Aside0.mk (Kd.R_mono (Kd.R_far (Kd.R_types HQ0.out BP.out (by (intro q hq; rcases List.mem_cons.1 hq with rfl | hq; exact (by decide); cases hq))) (p := ⟨g5, 8, none⟩) (fun k hk => hk.2) (.int .i64 p.i)) (ok' := fun _ => True) (fun _ _ => trivial))
  have m1_ := Aside0.mk (Kd.R_mono (Kd.R_far (Kd.R_types HQ1.out BP.out (by (intro q hq; rcases List.mem_cons.1 hq with rfl | hq; exact (by decide); cases hq))) (p := ⟨g5, 8, none⟩) (fun k hk => hk.2) (.int .i64 p.i)) (ok' := fun _ => True) (fun _ _ => trivial))
  have m2_ := Aside0.mk (Kd.R_mono (Kd.R_far (Kd.R_types HQ2.out BP.out (by (intro q hq; rcases List.mem_cons.1 hq with rfl | hq; exact (by decide); cases hq))) (p := ⟨g5, 8, none⟩) (fun k hk => hk.2) (.int .i64 p.i)) (ok' := fun _ => True) (fun _ _ => trivial))
  have m4_ := Aside0.mk (Kd.R_mono (Kd.R_far (Kd.R_types HQ4.out BP.out (by (intro q hq; rcases List.mem_cons.1 hq with rfl | hq; exact (by decide); cases hq))) (p := ⟨g5, 8, none⟩) (fun k hk => hk.2) (.int .i64 p.i)) (ok' := fun _ => True) (fun _ _ => trivial))
  have m5_ := Aside0.mk (Kd.R_mono (Kd.R_far (Kd.R_types HQ5.out BP.out (by (intro q hq; rcases List.mem_cons.1 hq with rfl | hq; exact (by decide); cases hq))) (p := ⟨g5, 8, none⟩) (fun k hk => hk.2) (.int .i64 p.i)) (ok' := fun _ => True) (fun _ _ => trivial))
  have m6_ := Aside0.mk (Kd.R_mono (Kd.R_far (Kd.R_types HQ6.out BP.out (by (intro q hq; rcases List.mem_cons.1 hq with rfl | hq; exact (by decide); rcases List.mem_cons.1 hq with rfl | hq; exact (by decide); cases hq))) (p := ⟨g5, 8, none⟩) (fun k hk => hk.2) (.int .i64 p.i)) (ok' := fun _ => True) (fun _ _ => trivial))
  have m7_ := Aside0.mk (Kd.R_mono (Kd.R_far (Kd.R_types HQ7.out BP.out (by (intro q hq; rcases List.mem_cons.1 hq with rfl | hq; exact (by decide); cases hq))) (p := ⟨g5, 8, none⟩) (fun k hk => hk.2) (.int .i64 p.i)) (ok' := fun _ => True) (fun _ _ => trivial))
  clear HR BP BR NE hcz hfz HQ0 HQ1 HQ2 HQ4 HQ5 HQ6 HQ7
  generalize (w8_.setCell { block := g5, off := 8 } (.int .i64 p.i)) = W8 at n0_ n1_ n2_ m0_ m1_ m2_ m4_ m5_ m6_ m7_ ⊢
  have HR := n0_
  have BP := n1_
  have BR := n2_
  have HQ0 := m0_
  have HQ1 := m1_
  have HQ2 := m2_
  have HQ4 := m4_
  have HQ5 := m5_
  have HQ6 := m6_
  have HQ7 := m7_
  clear n0_ n1_ n2_ m0_ m1_ m2_ m4_ m5_ m6_ m7_
  have hcp0 : W8.cell? ⟨g5, 0, none⟩ = some (.slice A0 p.a.length c0) := (blk_cell BP.out 0).trans rfl
  have hcp1 : W8.cell? ⟨g5, 1, none⟩ = some (.slice A1 p.b.length c1) := (blk_cell BP.out 1).trans rfl
  have hcp2 : W8.cell? ⟨g5, 2, none⟩ = some (.slice A2 p.c.length c2) := (blk_cell BP.out 2).trans rfl
  have hcp3 : W8.cell? ⟨g5, 3, none⟩ = some (.int .i64 p.d) := (blk_cell BP.out 3).trans rfl
  have hcp4 : W8.cell? ⟨g5, 4, none⟩ = some (.slice A4 p.e.length c4) := (blk_cell BP.out 4).trans rfl
  have hcp5 : W8.cell? ⟨g5, 5, none⟩ = some (.slice A5 p.f.length c5) := (blk_cell BP.out 5).trans rfl
  have hcp6 : W8.cell? ⟨g5, 6, none⟩ = some (.slice A6 p.g.length c6) := (blk_cell BP.out 6).trans rfl
  have hcp7 : W8.cell? ⟨g5, 7, none⟩ = some (.slice A7 p.h.length c7) := (blk_cell BP.out 7).trans rfl
  have hcp8 : W8.cell? ⟨g5, 8, none⟩ = some (.int .i64 p.i) := (blk_cell BP.out 8).trans rfl
  have HB := Aside0.mk HR.out.at
  have HQ : Aside0 (QX w.heap.size W8 A0 c0 A1 c1 A2 c2 A4 c4 A5 c5 A6 c6 A7 c7 p) := ⟨⟨HQ0.out, HQ1.out, HQ2.out, HQ4.out, HQ5.out, HQ6.out, HQ7.out⟩⟩
  clear HQ0 HQ1 HQ2 HQ4 HQ5 HQ6 HQ7 HR HY
  by_cases hm : p.may = true
  rotate_left
  · have HM : Aside0 (p.may = false) := ⟨by simpa using hm⟩
    have hd : dec b = (Pg.z, 5) := by rw [HD.out, if_neg (fun h => hm h.1)]
    have HD1 := Aside0.mk hd
    clear hm hd HD
    go_wp2_with (first | (go_at_call 10; (with_reducible refine (encode_no HQ.out.px.pr HM.out).mono ?_); rintro e w51 ⟨rfl, hb⟩; have n0_ := Aside0.mk (below_step HB.out hb); have n1_ := Aside0.mk (blk_below BP.out hb); have n2_ := Aside0.mk (blk_below BR.out hb); have n3_ := Aside0.mk (HQ.out.below hb); clear HB BP BR HQ hb; have HB := n0_; have BP := n1_; have BR := n2_; have HQ := n3_; clear n0_ n1_ n2_ n3_; have hcr0 : w51.cell? ⟨g2, 0, none⟩ = some (.slice none 0 0) := (blk_cell BR.out 0).trans rfl; have hfr0 : w51.frozen? ⟨g2, 0, none⟩ = false := blk_frozen BR.out 0; have hcr1 : w51.cell? ⟨g2, 1, none⟩ = some (.slice none 0 0) := (blk_cell BR.out 1).trans rfl; have hfr1 : w51.frozen? ⟨g2, 1, none⟩ = false := blk_frozen BR.out 1; have hcr2 : w51.cell? ⟨g2, 2, none⟩ = some (.slice none 0 0) := (blk_cell BR.out 2).trans rfl; have hfr2 : w51.frozen? ⟨g2, 2, none⟩ = false := blk_frozen BR.out 2; have hcr3 : w51.cell? ⟨g2, 3, none⟩ = some (.int .i64 0) := (blk_cell BR.out 3).trans rfl; have hfr3 : w51.frozen? ⟨g2, 3, none⟩ = false := blk_frozen BR.out 3; have hcr4 : w51.cell? ⟨g2, 4, none⟩ = some (.slice none 0 0) := (blk_cell BR.out 4).trans rfl; have hfr4 : w51.frozen? ⟨g2, 4, none⟩ = false := blk_frozen BR.out 4; have hcr5 : w51.cell? ⟨g2, 5, none⟩ = some (.slice none 0 0) := (blk_cell BR.out 5).trans rfl; have hfr5 : w51.frozen? ⟨g2, 5, none⟩ = false := blk_frozen BR.out 5; have hcr6 : w51.cell? ⟨g2, 6, none⟩ = some (.slice none 0 0) := (blk_cell BR.out 6).trans rfl; have hfr6 : w51.frozen? ⟨g2, 6, none⟩ = false := blk_frozen BR.out 6; have hcr7 : w51.cell? ⟨g2, 7, none⟩ = some (.slice none 0 0) := (blk_cell BR.out 7).trans rfl; have hfr7 : w51.frozen? ⟨g2, 7, none⟩ = false := blk_frozen BR.out 7; have hcr8 : w51.cell? ⟨g2, 8, none⟩ = some (.int .i64 0) := (blk_cell BR.out 8).trans rfl; have hfr8 : w51.frozen? ⟨g2, 8, none⟩ = false := blk_frozen BR.out 8))
    refine bodyPost_ret (results_cell_row_tmp rfl _ _ g2 29 #[.slice none 0 0, .slice none 0 0, .slice none 0 0, .int .i64 0, .slice none 0 0, .slice none 0 0, .slice none 0 0, .slice none 0 0, .int .i64 0] (0, 0) _ rfl (blk_put (blk_put (blk_put (blk_put (blk_put (blk_put (blk_put (blk_put (blk_put BR.out 0 (.slice none 0 0) rfl) 1 (.slice none 0 0) rfl) 2 (.slice none 0 0) rfl) 3 (.int .i64 0) rfl) 4 (.slice none 0 0) rfl) 5 (.slice none 0 0) rfl) 6 (.slice none 0 0) rfl) 7 (.slice none 0 0) rfl) 8 (.int .i64 0) rfl) Try.underlying29 rfl (by kernel_rfl)) rfl ?_
    rw [HD1.out]
    exact ⟨_, rfl, (zPX _).pr, (below_set (j := 8) (v := .int .i64 0) (below_set (j := 7) (v := .slice none 0 0) (below_set (j := 6) (v := .slice none 0 0) (below_set (j := 5) (v := .slice none 0 0) (below_set (j := 4) (v := .slice none 0 0) (below_set (j := 3) (v := .int .i64 0) (below_set (j := 2) (v := .slice none 0 0) (below_set (j := 1) (v := .slice none 0 0) (below_set (j := 0) (v := .slice none 0 0) HB.out GR.out) GR.out) GR.out) GR.out) GR.out) GR.out) GR.out) GR.out) GR.out)⟩
  have HM := Aside0.mk hm
  by_cases hq : encB p = b
  · have hd : dec b = (p, 0) := by rw [HD.out, if_pos ⟨hm, hq⟩]
    have HD1 := Aside0.mk hd
    have HT : Aside0 (decide (encB p = b) = true) := ⟨decide_eq_true hq⟩
    clear hm hd HD hq
    go_wp2_with (first | (go_at_call 10; (with_reducible refine (encode_yes HQ.out.px.pr HM.out).mono ?_); rintro e w51 ⟨⟨A11, c11, rfl, he⟩, hb⟩; have n0_ := Aside0.mk (below_step HB.out hb); have n1_ := Aside0.mk (blk_below BP.out hb); have n2_ := Aside0.mk (blk_below BR.out hb); have n3_ := Aside0.mk (HQ.out.below hb); clear HB BP BR HQ hb; have HB := n0_; have BP := n1_; have BR := n2_; have HQ := n3_; clear n0_ n1_ n2_ n3_; have HE := Aside0.mk he; clear he) | (go_at_call 48; (with_reducible refine (equal_any HT.out (encB_byt p) HYB.out (Kd.R_reads' HE.out).2.2 (Kd.R_reads' HE.out).2.1 (Kd.C_below HCB.out HB.out) HKB.out).mono ?_); rintro e w59 ⟨rfl, hb⟩; have n0_ := Aside0.mk (below_step HB.out hb); have n1_ := Aside0.mk (blk_below BP.out hb); have n2_ := Aside0.mk (blk_below BR.out hb); have n3_ := Aside0.mk (HQ.out.below hb); clear HB BP BR HQ HE hb; have HB := n0_; have BP := n1_; have BR := n2_; have HQ := n3_; clear n0_ n1_ n2_ n3_; have hcq0 : w59.cell? ⟨g5, 0, none⟩ = some (.slice A0 p.a.length c0) := (blk_cell BP.out 0).trans rfl; have hcq1 : w59.cell? ⟨g5, 1, none⟩ = some (.slice A1 p.b.length c1) := (blk_cell BP.out 1).trans rfl; have hcq2 : w59.cell? ⟨g5, 2, none⟩ = some (.slice A2 p.c.length c2) := (blk_cell BP.out 2).trans rfl; have hcq3 : w59.cell? ⟨g5, 3, none⟩ = some (.int .i64 p.d) := (blk_cell BP.out 3).trans rfl; have hcq4 : w59.cell? ⟨g5, 4, none⟩ = some (.slice A4 p.e.length c4) := (blk_cell BP.out 4).trans rfl; have hcq5 : w59.cell? ⟨g5, 5, none⟩ = some (.slice A5 p.f.length c5) := (blk_cell BP.out 5).trans rfl; have hcq6 : w59.cell? ⟨g5, 6, none⟩ = some (.slice A6 p.g.length c6) := (blk_cell BP.out 6).trans rfl; have hcq7 : w59.cell? ⟨g5, 7, none⟩ = some (.slice A7 p.h.length c7) := (blk_cell BP.out 7).trans rfl; have hcq8 : w59.cell? ⟨g5, 8, none⟩ = some (.int .i64 p.i) := (blk_cell BP.out 8).trans rfl; have hcr0 : w59.cell? ⟨g2, 0, none⟩ = some (.slice none 0 0) := (blk_cell BR.out 0).trans rfl; have hfr0 : w59.frozen? ⟨g2, 0, none⟩ = false := blk_frozen BR.out 0; have hcr1 : w59.cell? ⟨g2, 1, none⟩ = some (.slice none 0 0) := (blk_cell BR.out 1).trans rfl; have hfr1 : w59.frozen? ⟨g2, 1, none⟩ = false := blk_frozen BR.out 1; have hcr2 : w59.cell? ⟨g2, 2, none⟩ = some (.slice none 0 0) := (blk_cell BR.out 2).trans rfl; have hfr2 : w59.frozen? ⟨g2, 2, none⟩ = false := blk_frozen BR.out 2; have hcr3 : w59.cell? ⟨g2, 3, none⟩ = some (.int .i64 0) := (blk_cell BR.out 3).trans rfl; have hfr3 : w59.frozen? ⟨g2, 3, none⟩ = false := blk_frozen BR.out 3; have hcr4 : w59.cell? ⟨g2, 4, none⟩ = some (.slice none 0 0) := (blk_cell BR.out 4).trans rfl; have hfr4 : w59.frozen? ⟨g2, 4, none⟩ = false := blk_frozen BR.out 4; have hcr5 : w59.cell? ⟨g2, 5, none⟩ = some (.slice none 0 0) := (blk_cell BR.out 5).trans rfl; have hfr5 : w59.frozen? ⟨g2, 5, none⟩ = false := blk_frozen BR.out 5; have hcr6 : w59.cell? ⟨g2, 6, none⟩ = some (.slice none 0 0) := (blk_cell BR.out 6).trans rfl; have hfr6 : w59.frozen? ⟨g2, 6, none⟩ = false := blk_frozen BR.out 6; have hcr7 : w59.cell? ⟨g2, 7, none⟩ = some (.slice none 0 0) := (blk_cell BR.out 7).trans rfl; have hfr7 : w59.frozen? ⟨g2, 7, none⟩ = false := blk_frozen BR.out 7; have hcr8 : w59.cell? ⟨g2, 8, none⟩ = some (.int .i64 0) := (blk_cell BR.out 8).trans rfl; have hfr8 : w59.frozen? ⟨g2, 8, none⟩ = false := blk_frozen BR.out 8))
    refine bodyPost_ret (results_cell_row_tmp rfl _ _ g2 29 #[.slice A0 p.a.length c0, .slice A1 p.b.length c1, .slice A2 p.c.length c2, .int .i64 p.d, .slice A4 p.e.length c4, .slice A5 p.f.length c5, .slice A6 p.g.length c6, .slice A7 p.h.length c7, .int .i64 p.i] (0, 0) _ rfl (blk_put (blk_put (blk_put (blk_put (blk_put (blk_put (blk_put (blk_put (blk_put BR.out 0 (.slice A0 p.a.length c0) rfl) 1 (.slice A1 p.b.length c1) rfl) 2 (.slice A2 p.c.length c2) rfl) 3 (.int .i64 p.d) rfl) 4 (.slice A4 p.e.length c4) rfl) 5 (.slice A5 p.f.length c5) rfl) 6 (.slice A6 p.g.length c6) rfl) 7 (.slice A7 p.h.length c7) rfl) 8 (.int .i64 p.i) rfl) Try.underlying29 rfl (by kernel_rfl)) rfl ?_
    rw [HD1.out]
    exact ⟨_, rfl, (QX.set (j := 8) (u := .int .i64 p.i) (QX.set (j := 7) (u := .slice A7 p.h.length c7) (QX.set (j := 6) (u := .slice A6 p.g.length c6) (QX.set (j := 5) (u := .slice A5 p.f.length c5) (QX.set (j := 4) (u := .slice A4 p.e.length c4) (QX.set (j := 3) (u := .int .i64 p.d) (QX.set (j := 2) (u := .slice A2 p.c.length c2) (QX.set (j := 1) (u := .slice A1 p.b.length c1) (QX.set (j := 0) (u := .slice A0 p.a.length c0) HQ.out BR.out) (blk_put BR.out 0 (.slice A0 p.a.length c0) rfl)) (blk_put (blk_put BR.out 0 (.slice A0 p.a.length c0) rfl) 1 (.slice A1 p.b.length c1) rfl)) (blk_put (blk_put (blk_put BR.out 0 (.slice A0 p.a.length c0) rfl) 1 (.slice A1 p.b.length c1) rfl) 2 (.slice A2 p.c.length c2) rfl)) (blk_put (blk_put (blk_put (blk_put BR.out 0 (.slice A0 p.a.length c0) rfl) 1 (.slice A1 p.b.length c1) rfl) 2 (.slice A2 p.c.length c2) rfl) 3 (.int .i64 p.d) rfl)) (blk_put (blk_put (blk_put (blk_put (blk_put BR.out 0 (.slice A0 p.a.length c0) rfl) 1 (.slice A1 p.b.length c1) rfl) 2 (.slice A2 p.c.length c2) rfl) 3 (.int .i64 p.d) rfl) 4 (.slice A4 p.e.length c4) rfl)) (blk_put (blk_put (blk_put (blk_put (blk_put (blk_put BR.out 0 (.slice A0 p.a.length c0) rfl) 1 (.slice A1 p.b.length c1) rfl) 2 (.slice A2 p.c.length c2) rfl) 3 (.int .i64 p.d) rfl) 4 (.slice A4 p.e.length c4) rfl) 5 (.slice A5 p.f.length c5) rfl)) (blk_put (blk_put (blk_put (blk_put (blk_put (blk_put (blk_put BR.out 0 (.slice A0 p.a.length c0) rfl) 1 (.slice A1 p.b.length c1) rfl) 2 (.slice A2 p.c.length c2) rfl) 3 (.int .i64 p.d) rfl) 4 (.slice A4 p.e.length c4) rfl) 5 (.slice A5 p.f.length c5) rfl) 6 (.slice A6 p.g.length c6) rfl)) (blk_put (blk_put (blk_put (blk_put (blk_put (blk_put (blk_put (blk_put BR.out 0 (.slice A0 p.a.length c0) rfl) 1 (.slice A1 p.b.length c1) rfl) 2 (.slice A2 p.c.length c2) rfl) 3 (.int .i64 p.d) rfl) 4 (.slice A4 p.e.length c4) rfl) 5 (.slice A5 p.f.length c5) rfl) 6 (.slice A6 p.g.length c6) rfl) 7 (.slice A7 p.h.length c7) rfl)).px.pr, (below_set (j := 8) (v := .int .i64 p.i) (below_set (j := 7) (v := .slice A7 p.h.length c7) (below_set (j := 6) (v := .slice A6 p.g.length c6) (below_set (j := 5) (v := .slice A5 p.f.length c5) (below_set (j := 4) (v := .slice A4 p.e.length c4) (below_set (j := 3) (v := .int .i64 p.d) (below_set (j := 2) (v := .slice A2 p.c.length c2) (below_set (j := 1) (v := .slice A1 p.b.length c1) (below_set (j := 0) (v := .slice A0 p.a.length c0) HB.out GR.out) GR.out) GR.out) GR.out) GR.out) GR.out) GR.out) GR.out) GR.out)⟩
  · have hd : dec b = (Pg.z, 5) := by rw [HD.out, if_neg (fun h => hq h.2)]
    have HD1 := Aside0.mk hd
    have HT : Aside0 (decide (encB p = b) = false) := ⟨decide_eq_false hq⟩
    clear hm hd HD hq
    go_wp2_with (first | (go_at_call 10; (with_reducible refine (encode_yes HQ.out.px.pr HM.out).mono ?_); rintro e w51 ⟨⟨A11, c11, rfl, he⟩, hb⟩; have n0_ := Aside0.mk (below_step HB.out hb); have n1_ := Aside0.mk (blk_below BP.out hb); have n2_ := Aside0.mk (blk_below BR.out hb); have n3_ := Aside0.mk (HQ.out.below hb); clear HB BP BR HQ hb; have HB := n0_; have BP := n1_; have BR := n2_; have HQ := n3_; clear n0_ n1_ n2_ n3_; have HE := Aside0.mk he; clear he) | (go_at_call 48; (with_reducible refine (equal_any HT.out (encB_byt p) HYB.out (Kd.R_reads' HE.out).2.2 (Kd.R_reads' HE.out).2.1 (Kd.C_below HCB.out HB.out) HKB.out).mono ?_); rintro e w59 ⟨rfl, hb⟩; have n0_ := Aside0.mk (below_step HB.out hb); have n1_ := Aside0.mk (blk_below BP.out hb); have n2_ := Aside0.mk (blk_below BR.out hb); have n3_ := Aside0.mk (HQ.out.below hb); clear HB BP BR HQ HE hb; have HB := n0_; have BP := n1_; have BR := n2_; have HQ := n3_; clear n0_ n1_ n2_ n3_; have hcr0 : w59.cell? ⟨g2, 0, none⟩ = some (.slice none 0 0) := (blk_cell BR.out 0).trans rfl; have hfr0 : w59.frozen? ⟨g2, 0, none⟩ = false := blk_frozen BR.out 0; have hcr1 : w59.cell? ⟨g2, 1, none⟩ = some (.slice none 0 0) := (blk_cell BR.out 1).trans rfl; have hfr1 : w59.frozen? ⟨g2, 1, none⟩ = false := blk_frozen BR.out 1; have hcr2 : w59.cell? ⟨g2, 2, none⟩ = some (.slice none 0 0) := (blk_cell BR.out 2).trans rfl; have hfr2 : w59.frozen? ⟨g2, 2, none⟩ = false := blk_frozen BR.out 2; have hcr3 : w59.cell? ⟨g2, 3, none⟩ = some (.int .i64 0) := (blk_cell BR.out 3).trans rfl; have hfr3 : w59.frozen? ⟨g2, 3, none⟩ = false := blk_frozen BR.out 3; have hcr4 : w59.cell? ⟨g2, 4, none⟩ = some (.slice none 0 0) := (blk_cell BR.out 4).trans rfl; have hfr4 : w59.frozen? ⟨g2, 4, none⟩ = false := blk_frozen BR.out 4; have hcr5 : w59.cell? ⟨g2, 5, none⟩ = some (.slice none 0 0) := (blk_cell BR.out 5).trans rfl; have hfr5 : w59.frozen? ⟨g2, 5, none⟩ = false := blk_frozen BR.out 5; have hcr6 : w59.cell? ⟨g2, 6, none⟩ = some (.slice none 0 0) := (blk_cell BR.out 6).trans rfl; have hfr6 : w59.frozen? ⟨g2, 6, none⟩ = false := blk_frozen BR.out 6; have hcr7 : w59.cell? ⟨g2, 7, none⟩ = some (.slice none 0 0) := (blk_cell BR.out 7).trans rfl; have hfr7 : w59.frozen? ⟨g2, 7, none⟩ = false := blk_frozen BR.out 7; have hcr8 : w59.cell? ⟨g2, 8, none⟩ = some (.int .i64 0) := (blk_cell BR.out 8).trans rfl; have hfr8 : w59.frozen? ⟨g2, 8, none⟩ = false := blk_frozen BR.out 8))
    refine bodyPost_ret (results_cell_row_tmp rfl _ _ g2 29 #[.slice none 0 0, .slice none 0 0, .slice none 0 0, .int .i64 0, .slice none 0 0, .slice none 0 0, .slice none 0 0, .slice none 0 0, .int .i64 0] (0, 0) _ rfl (blk_put (blk_put (blk_put (blk_put (blk_put (blk_put (blk_put (blk_put (blk_put BR.out 0 (.slice none 0 0) rfl) 1 (.slice none 0 0) rfl) 2 (.slice none 0 0) rfl) 3 (.int .i64 0) rfl) 4 (.slice none 0 0) rfl) 5 (.slice none 0 0) rfl) 6 (.slice none 0 0) rfl) 7 (.slice none 0 0) rfl) 8 (.int .i64 0) rfl) Try.underlying29 rfl (by kernel_rfl)) rfl ?_
    rw [HD1.out]
    exact ⟨_, rfl, (zPX _).pr, (below_set (j := 8) (v := .int .i64 0) (below_set (j := 7) (v := .slice none 0 0) (below_set (j := 6) (v := .slice none 0 0) (below_set (j := 5) (v := .slice none 0 0) (below_set (j := 4) (v := .slice none 0 0) (below_set (j := 3) (v := .int .i64 0) (below_set (j := 2) (v := .slice none 0 0) (below_set (j := 1) (v := .slice none 0 0) (below_set (j := 0) (v := .slice none 0 0) HB.out GR.out) GR.out) GR.out) GR.out) GR.out) GR.out) GR.out) GR.out) GR.out)⟩

end Go.Proofs.Ytdgaklldijkoaaa.PCode
