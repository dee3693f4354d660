import Derived.Test.YtdgaklldijkoaaaPCodex0
import Derived.Test.YtdgaklldijkoaaaCodeK
import Derived.BigQuiet
import Derived.IntWalk
import Derived.WalkMore
import Derived.Laws.EntriesVeiled
import Derived.StillTailTactics
import Derived.Laws.BitsAllLaws
import Derived.Laws.BitsLemmas
import Derived.Laws.Strings
import Derived.Lib.SlBytesConst
import Derived.Deep.Matrix
import Derived.Deep.Slices
import Derived.Deep.Fields
import Derived.ChangeSame
import Derived.ChangeArms
import Derived.OpenShut
namespace Go.Proofs.Ytdgaklldijkoaaa.PCode
open Go.RowKit Go.Proofs.YtdgaklldijkoaaaW.PrintWords Go.Proofs.YtdgaklldijkoaaaW.PrintLast Go.Proofs.YtdgaklldijkoaaaW.PrintMore
attribute [local go_sem] max2_int min2_int max_two min_two max_three min_three max_four min_four
set_option linter.unusedVariables false
set_option linter.unusedSimpArgs false
/-! A program that came in. -/
section
open Go.ChangeShapes Go.WideShapes Go.Deep
section
variable {H : Type} {enc : TypeId × Value → H} {P : Program} {w : World} {base : Nat} {spare : Nat → Bool} {held : Bool}
theorem open_slice_fields {t e : TypeId} {fs : Array Field} {fuel : Nat} {cs : List Value} {x : DataW H × List MemPlace} (ht : P.underlying t = some (.slice e)) (he : P.underlying e = some (.struct fs))
    (hone : oneCellFields P fs = true) (hC : P.cellsOf e = fs.size) (h : DataW.trod enc P w base spare held fuel t cs = some x) :
    (cs = [.slice none 0 0] ∧ x = (.nil, [])) ∨
    ∃ (a : Addr) (len cap m : Nat) (D : Nat → DataW H) (Pl : Nat → List MemPlace), cs = [.slice (some a) len cap] ∧ base ≤ a.block ∧ len ≤ cap ∧ cap ≤ maxLen ∧ m = (if spare a.block then cap else len) ∧
      x = (.slice ((List.range len).map D) ((List.range (m - len)).map fun j => D (len + j)), MemPlace.row a (m * fs.size) ++ (List.range m).flatMap Pl) ∧
      ∀ i, i < m → ∃ (ys : List (DataW H × List MemPlace)) (n : Nat), D i = .agg (ys.map (·.1)) ∧ Pl i = ys.flatMap (·.2) ∧ ys.length = fs.size ∧
        ∀ (j : Nat) (f : Field), fs[j]? = some f → ∃ (v : Value) (y : DataW H × List MemPlace), w.cell? (a.add (i * fs.size + j)) = some v ∧ ys[j]? = some y ∧ DataW.trod enc P w base spare held n f.type [v] = some y := by
  rcases open_slice ht h with h0 | ⟨a, len, cap, m, n, D, Pl, hcs, hb, hl, hm, hmm, hx, hi⟩
  · exact .inl h0
  · refine .inr ⟨a, len, cap, m, D, Pl, hcs, hb, hl, hm, hmm, by rw [hC] at hx; exact hx, fun i him => ?_⟩
    obtain ⟨cs', hc, ht'⟩ := hi i him
    rw [hC] at hc
    obtain ⟨ys, n', hn', hy, hlen, hyl, hf⟩ := DataW.trod_struct he ht'
    obtain ⟨_, hcl, hat⟩ := World.cells?_some hc
    simp only [Prod.mk.injEq] at hy
    refine ⟨ys, n', hy.1, hy.2, hyl, fun j f hj => ?_⟩
    obtain ⟨ho, hk⟩ := hone_of hone j f hj
    have hjl : j < fs.size := (Array.getElem?_eq_some_iff.1 hj).1
    have hcell := hat j hjl
    have hv : cs'[j]? = some (cs'[j]'(by omega)) := List.getElem?_eq_getElem (by omega)
    have h1 := hf j f hj
    rw [ho, hk] at h1
    have hone' : (cs'.drop j).take 1 = [cs'[j]'(by omega)] := by
      rw [List.drop_eq_getElem_cons (by omega)]
      rfl
    rw [hone'] at h1
    have hys : ys[j]? = some (ys[j]'(by omega)) := List.getElem?_eq_getElem (by omega)
    refine ⟨_, _, ?_, hys, h1.trans hys⟩
    rw [← Go.Deep.add_add, hcell, hv]
end
theorem wf_W64 {x : Int} (h : (Lit.int .i64 x).wf = true) : W64 x := by
  have := bounds_i64 h
  exact ⟨this.1, this.2⟩
section
variable {H : Type} {enc : TypeId × Value → H} {W : World} {base fuel : Nat} {held : Bool} {x : DataW H × List MemPlace} {v : Value}

end
/-- A list of lists that came in. -/
def IsRowsP (w : World) (a : Option Addr) (len cap : Nat) (zs : List (List Int)) : Prop := Kd.C (Kd.slice 3 (Kd.int .i64)) w a len zs ∧ zs.length = len ∧ len ≤ cap ∧ len ≤ maxLen ∧ ∀ x ∈ zs, x.length ≤ maxLen ∧ ∀ n ∈ x, (Lit.int .i64 n).wf = true
theorem IsRowsP.of {H : Type} {enc : TypeId × Value → H} {P : Program} {W : World} {base : Nat} {held : Bool} {t e : TypeId} {a : Option Addr} {len cap : Nat} {d : DataW H} {ps : List MemPlace} (ht : P.underlying t = some (.slice e)) (he : P.underlying e = some (.slice 3)) (hq : P.underlying 3 = some (.int .i64)) (ce : P.cellsOf e = 1) (cq : P.cellsOf 3 = 1)
    (h : DataW.Trod enc P W base (fun _ => true) held t (.slice a len cap) d ps) : ∃ zs, IsRowsP W a len cap zs := by
  obtain ⟨fuel, hf⟩ := h
  rcases open_int_rows ht he hq ce cq hf with ⟨hcs, _⟩ | ⟨x, l, c, A, L, C, Z, hcs, _, hl, hm, _, hr⟩
  · simp [Value.cells] at hcs
    obtain ⟨rfl, rfl, rfl⟩ := hcs
    exact ⟨[], ⟨rfl, by omega, fun h => absurd h (Nat.lt_irrefl 0)⟩, rfl, Nat.le_refl _, Nat.zero_le _, fun x hx => by cases hx⟩
  · simp [Value.cells] at hcs
    obtain ⟨rfl, rfl, rfl⟩ := hcs
    refine ⟨(List.range len).map fun r => (Z r).take (L r), ⟨by simp, by unfold maxLen at hm; omega, fun _ => ⟨x, rfl, fun j p hj => ?_⟩⟩, by simp, hl, Nat.le_trans hl hm, fun y hy => ?_⟩
    · rw [List.getElem?_map] at hj
      have hjl : j < len := by
        rcases Nat.lt_or_ge j len with q | q
        · exact q
        · rw [List.getElem?_eq_none (by simpa using q)] at hj
          cases hj
      rw [List.getElem?_range hjl] at hj
      obtain rfl := Option.some.inj hj
      obtain ⟨h1, h2, h3, h4, h5, h6, h7⟩ := hr j (by omega)
      have hlen : ((Z j).take (L j)).length = L j := by rw [List.length_take]; omega
      refine ⟨[.slice (A j) ((Z j).take (L j)).length (C j)], rfl, ⟨A j, C j, rfl, by rw [hlen]; exact h2, ⟨rfl, by rw [hlen]; unfold maxLen at h3; omega, fun hp => ?_⟩⟩, fun i u hu => ?_⟩
      · cases hA : A j with
        | none => rw [hlen] at hp; have := h6 hA; omega
        | some ad =>
          obtain ⟨_, hcell⟩ := h7 ad hA
          refine ⟨ad, rfl, fun i p hi => ⟨[.int .i64 p], rfl, rfl, fun i' u hu => ?_⟩⟩
          have hil : i < L j := by
            rcases Nat.lt_or_ge i (L j) with q | q
            · exact q
            · rw [List.getElem?_eq_none (by rw [hlen]; exact q)] at hi
              cases hi
          have e1 : i' = 0 ∧ u = .int .i64 p := by
            cases i' with
            | zero => exact ⟨rfl, (Option.some.inj hu).symm⟩
            | succ m => simp at hu
          obtain ⟨rfl, rfl⟩ := e1
          have e2 := hcell i (by omega)
          have e3 : (Z j).getD i 0 = p := by
            rw [List.getElem?_take] at hi
            rw [if_pos hil] at hi
            rw [List.getD_eq_getElem?_getD, hi]
            rfl
          rw [e3] at e2
          have e4 : i * (Kd.int IntKind.i64).sz + 0 = i := Nat.mul_one i
          rw [e4]
          exact e2
      · have e1 : i = 0 ∧ u = .slice (A j) ((Z j).take (L j)).length (C j) := by
          cases i with
          | zero => exact ⟨rfl, (Option.some.inj hu).symm⟩
          | succ m => simp at hu
        obtain ⟨rfl, rfl⟩ := e1
        have e4 : j * (Kd.slice 3 (Kd.int IntKind.i64)).sz + 0 = j := Nat.mul_one j
        rw [e4, hlen]
        exact h1
    · obtain ⟨r, hrl, rfl⟩ := List.mem_map.1 hy
      obtain ⟨h1, h2, h3, h4, h5, h6, h7⟩ := hr r (by have := List.mem_range.1 hrl; omega)
      exact ⟨by rw [List.length_take]; omega, fun n hn => h5 n (List.mem_of_mem_take hn)⟩
section
variable {H : Type} {enc : TypeId × Value → H} {W : World} {base fuel : Nat} {held : Bool} {x : DataW H × List MemPlace} {v : Value}

theorem openS44 (h : DataW.trod enc Try.prog W base (fun _ => true) held fuel 22 [v] = some x) : ∃ (A : Option Addr) (c : Nat) (xs : List S44), v = .slice A xs.length c ∧ xs.length ≤ c ∧ Kd.C k44 W A xs.length xs ∧ ∀ x ∈ xs, W64 x.f0 ∧ W64 x.f1 ∧ W64 x.f2 := by
  rcases open_slice_fields Try.underlying22 Try.underlying44 (by kernel_rfl) (by kernel_rfl) h with ⟨hcs, _⟩ | ⟨a, len, cap, m, D, Pl, hcs, _, hl, hm0, hm, _, hi⟩
  · injection hcs with hcs _
    exact ⟨none, 0, [], hcs, Nat.le_refl _, nilC _ W, fun x hx => (by cases hx)⟩
  · injection hcs with hcs _
    simp only [if_true] at hm
    subst hm
    have hz : ∀ i, i < len → ∀ j, j < 3 → ∃ q : Int, W.cell? (a.add (i * 3 + j)) = some (.int .i64 q) ∧ (Lit.int .i64 q).wf = true := by
      intro i hi' j hj
      obtain ⟨ys, k, _, _, _, hg⟩ := hi i (by omega)
      match j, hj with
      | 0, hj =>
        obtain ⟨u, y, hc, _, htr⟩ := hg 0 _ rfl
        obtain ⟨q, hq, _, hw⟩ := DataW.trod_int Try.underlying3 htr
        injection hq with hq _
        subst hq
        exact ⟨q, hc, hw⟩
      | 1, hj =>
        obtain ⟨u, y, hc, _, htr⟩ := hg 1 _ rfl
        obtain ⟨q, hq, _, hw⟩ := DataW.trod_int Try.underlying3 htr
        injection hq with hq _
        subst hq
        exact ⟨q, hc, hw⟩
      | 2, hj =>
        obtain ⟨u, y, hc, _, htr⟩ := hg 2 _ rfl
        obtain ⟨q, hq, _, hw⟩ := DataW.trod_int Try.underlying3 htr
        injection hq with hq _
        subst hq
        exact ⟨q, hc, hw⟩
      | j + 3, hj => omega
    have hz2 : ∃ z : Nat → Nat → Int, ∀ i, i < len → ∀ j, j < 3 → W.cell? (a.add (i * 3 + j)) = some (.int .i64 (z i j)) ∧ (Lit.int .i64 (z i j)).wf = true := by
      refine ⟨fun i j => if h : i < len ∧ j < 3 then (hz i h.1 j h.2).choose else 0, fun i hi j hj => ?_⟩
      have e : (if h : i < len ∧ j < 3 then (hz i h.1 j h.2).choose else 0) = (hz i hi j hj).choose := dif_pos ⟨hi, hj⟩
      simp only [e]
      exact (hz i hi j hj).choose_spec
    obtain ⟨z, hz⟩ := hz2
    have hlen : ((List.range len).map fun i => (⟨z i 0, z i 1, z i 2⟩ : S44)).length = len := by simp
    refine ⟨some a, m, (List.range len).map fun i => ⟨z i 0, z i 1, z i 2⟩, by rw [hlen]; exact hcs, by rw [hlen]; exact hl, ⟨rfl, by rw [hlen]; unfold maxLen at hm0; omega, fun _ => ⟨a, rfl, fun j p hj => ?_⟩⟩, fun x hx => ?_⟩
    · rw [List.getElem?_map] at hj
      have hjl : j < len := by
        rcases Nat.lt_or_ge j len with q | q
        · exact q
        · rw [List.getElem?_eq_none (by simpa using q)] at hj; cases hj
      rw [List.getElem?_range hjl] at hj
      obtain rfl := Option.some.inj hj
      refine ⟨[.int .i64 (z j 0), .int .i64 (z j 1), .int .i64 (z j 2)], rfl, ⟨[.int .i64 (z j 0)], [.int .i64 (z j 1), .int .i64 (z j 2)], rfl, rfl, [.int .i64 (z j 1)], [.int .i64 (z j 2)], rfl, rfl, rfl⟩, fun i u hu => ?_⟩
      match i, hu with
      | 0, hu => cases hu; exact (hz j hjl 0 (by decide)).1
      | 1, hu => cases hu; exact (hz j hjl 1 (by decide)).1
      | 2, hu => cases hu; exact (hz j hjl 2 (by decide)).1
      | i + 3, hu => simp at hu
    · obtain ⟨i, hi2, rfl⟩ := List.mem_map.1 hx
      have hil := List.mem_range.1 hi2
      exact ⟨wf_W64 (hz i hil 0 (by decide)).2, wf_W64 (hz i hil 1 (by decide)).2, wf_W64 (hz i hil 2 (by decide)).2⟩

theorem openS46 (h : DataW.trod enc Try.prog W base (fun _ => true) held fuel 23 [v] = some x) : ∃ (A : Option Addr) (c : Nat) (xs : List S46), v = .slice A xs.length c ∧ xs.length ≤ c ∧ Kd.C k46 W A xs.length xs ∧ ∀ x ∈ xs, W64 x.f0 ∧ W64 x.f1 ∧ W64 x.f2 := by
  rcases open_slice_fields Try.underlying23 Try.underlying46 (by kernel_rfl) (by kernel_rfl) h with ⟨hcs, _⟩ | ⟨a, len, cap, m, D, Pl, hcs, _, hl, hm0, hm, _, hi⟩
  · injection hcs with hcs _
    exact ⟨none, 0, [], hcs, Nat.le_refl _, nilC _ W, fun x hx => (by cases hx)⟩
  · injection hcs with hcs _
    simp only [if_true] at hm
    subst hm
    have hz : ∀ i, i < len → ∀ j, j < 3 → ∃ q : Int, W.cell? (a.add (i * 3 + j)) = some (.int .i64 q) ∧ (Lit.int .i64 q).wf = true := by
      intro i hi' j hj
      obtain ⟨ys, k, _, _, _, hg⟩ := hi i (by omega)
      match j, hj with
      | 0, hj =>
        obtain ⟨u, y, hc, _, htr⟩ := hg 0 _ rfl
        obtain ⟨q, hq, _, hw⟩ := DataW.trod_int Try.underlying3 htr
        injection hq with hq _
        subst hq
        exact ⟨q, hc, hw⟩
      | 1, hj =>
        obtain ⟨u, y, hc, _, htr⟩ := hg 1 _ rfl
        obtain ⟨q, hq, _, hw⟩ := DataW.trod_int Try.underlying3 htr
        injection hq with hq _
        subst hq
        exact ⟨q, hc, hw⟩
      | 2, hj =>
        obtain ⟨u, y, hc, _, htr⟩ := hg 2 _ rfl
        obtain ⟨q, hq, _, hw⟩ := DataW.trod_int Try.underlying3 htr
        injection hq with hq _
        subst hq
        exact ⟨q, hc, hw⟩
      | j + 3, hj => omega
    have hz2 : ∃ z : Nat → Nat → Int, ∀ i, i < len → ∀ j, j < 3 → W.cell? (a.add (i * 3 + j)) = some (.int .i64 (z i j)) ∧ (Lit.int .i64 (z i j)).wf = true := by
      refine ⟨fun i j => if h : i < len ∧ j < 3 then (hz i h.1 j h.2).choose else 0, fun i hi j hj => ?_⟩
      have e : (if h : i < len ∧ j < 3 then (hz i h.1 j h.2).choose else 0) = (hz i hi j hj).choose := dif_pos ⟨hi, hj⟩
      simp only [e]
      exact (hz i hi j hj).choose_spec
    obtain ⟨z, hz⟩ := hz2
    have hlen : ((List.range len).map fun i => (⟨z i 0, z i 1, z i 2⟩ : S46)).length = len := by simp
    refine ⟨some a, m, (List.range len).map fun i => ⟨z i 0, z i 1, z i 2⟩, by rw [hlen]; exact hcs, by rw [hlen]; exact hl, ⟨rfl, by rw [hlen]; unfold maxLen at hm0; omega, fun _ => ⟨a, rfl, fun j p hj => ?_⟩⟩, fun x hx => ?_⟩
    · rw [List.getElem?_map] at hj
      have hjl : j < len := by
        rcases Nat.lt_or_ge j len with q | q
        · exact q
        · rw [List.getElem?_eq_none (by simpa using q)] at hj; cases hj
      rw [List.getElem?_range hjl] at hj
      obtain rfl := Option.some.inj hj
      refine ⟨[.int .i64 (z j 0), .int .i64 (z j 1), .int .i64 (z j 2)], rfl, ⟨[.int .i64 (z j 0)], [.int .i64 (z j 1), .int .i64 (z j 2)], rfl, rfl, [.int .i64 (z j 1)], [.int .i64 (z j 2)], rfl, rfl, rfl⟩, fun i u hu => ?_⟩
      match i, hu with
      | 0, hu => cases hu; exact (hz j hjl 0 (by decide)).1
      | 1, hu => cases hu; exact (hz j hjl 1 (by decide)).1
      | 2, hu => cases hu; exact (hz j hjl 2 (by decide)).1
      | i + 3, hu => simp at hu
    · obtain ⟨i, hi2, rfl⟩ := List.mem_map.1 hx
      have hil := List.mem_range.1 hi2
      exact ⟨wf_W64 (hz i hil 0 (by decide)).2, wf_W64 (hz i hil 1 (by decide)).2, wf_W64 (hz i hil 2 (by decide)).2⟩

theorem openS56 (h : DataW.trod enc Try.prog W base (fun _ => true) held fuel 24 [v] = some x) : ∃ (A : Option Addr) (c : Nat) (xs : List S56), v = .slice A xs.length c ∧ xs.length ≤ c ∧ Kd.C k56 W A xs.length xs ∧ ∀ x ∈ xs, W64 x.f0 ∧ W64 x.f1 := by
  rcases open_slice_fields Try.underlying24 Try.underlying56 (by kernel_rfl) (by kernel_rfl) h with ⟨hcs, _⟩ | ⟨a, len, cap, m, D, Pl, hcs, _, hl, hm0, hm, _, hi⟩
  · injection hcs with hcs _
    exact ⟨none, 0, [], hcs, Nat.le_refl _, nilC _ W, fun x hx => (by cases hx)⟩
  · injection hcs with hcs _
    simp only [if_true] at hm
    subst hm
    have hz : ∀ i, i < len → ∀ j, j < 2 → ∃ q : Int, W.cell? (a.add (i * 2 + j)) = some (.int .i64 q) ∧ (Lit.int .i64 q).wf = true := by
      intro i hi' j hj
      obtain ⟨ys, k, _, _, _, hg⟩ := hi i (by omega)
      match j, hj with
      | 0, hj =>
        obtain ⟨u, y, hc, _, htr⟩ := hg 0 _ rfl
        obtain ⟨q, hq, _, hw⟩ := DataW.trod_int Try.underlying3 htr
        injection hq with hq _
        subst hq
        exact ⟨q, hc, hw⟩
      | 1, hj =>
        obtain ⟨u, y, hc, _, htr⟩ := hg 1 _ rfl
        obtain ⟨q, hq, _, hw⟩ := DataW.trod_int Try.underlying3 htr
        injection hq with hq _
        subst hq
        exact ⟨q, hc, hw⟩
      | j + 2, hj => omega
    have hz2 : ∃ z : Nat → Nat → Int, ∀ i, i < len → ∀ j, j < 2 → W.cell? (a.add (i * 2 + j)) = some (.int .i64 (z i j)) ∧ (Lit.int .i64 (z i j)).wf = true := by
      refine ⟨fun i j => if h : i < len ∧ j < 2 then (hz i h.1 j h.2).choose else 0, fun i hi j hj => ?_⟩
      have e : (if h : i < len ∧ j < 2 then (hz i h.1 j h.2).choose else 0) = (hz i hi j hj).choose := dif_pos ⟨hi, hj⟩
      simp only [e]
      exact (hz i hi j hj).choose_spec
    obtain ⟨z, hz⟩ := hz2
    have hlen : ((List.range len).map fun i => (⟨z i 0, z i 1⟩ : S56)).length = len := by simp
    refine ⟨some a, m, (List.range len).map fun i => ⟨z i 0, z i 1⟩, by rw [hlen]; exact hcs, by rw [hlen]; exact hl, ⟨rfl, by rw [hlen]; unfold maxLen at hm0; omega, fun _ => ⟨a, rfl, fun j p hj => ?_⟩⟩, fun x hx => ?_⟩
    · rw [List.getElem?_map] at hj
      have hjl : j < len := by
        rcases Nat.lt_or_ge j len with q | q
        · exact q
        · rw [List.getElem?_eq_none (by simpa using q)] at hj; cases hj
      rw [List.getElem?_range hjl] at hj
      obtain rfl := Option.some.inj hj
      refine ⟨[.int .i64 (z j 0), .int .i64 (z j 1)], rfl, ⟨[.int .i64 (z j 0)], [.int .i64 (z j 1)], rfl, rfl, rfl⟩, fun i u hu => ?_⟩
      match i, hu with
      | 0, hu => cases hu; exact (hz j hjl 0 (by decide)).1
      | 1, hu => cases hu; exact (hz j hjl 1 (by decide)).1
      | i + 2, hu => simp at hu
    · obtain ⟨i, hi2, rfl⟩ := List.mem_map.1 hx
      have hil := List.mem_range.1 hi2
      exact ⟨wf_W64 (hz i hil 0 (by decide)).2, wf_W64 (hz i hil 1 (by decide)).2⟩

theorem openS65 (h : DataW.trod enc Try.prog W base (fun _ => true) held fuel 27 [v] = some x) : ∃ (A : Option Addr) (c : Nat) (xs : List S65), v = .slice A xs.length c ∧ xs.length ≤ c ∧ Kd.C k65 W A xs.length xs ∧ ∀ x ∈ xs, W64 x.f0 ∧ W64 x.f1 := by
  rcases open_slice_fields Try.underlying27 Try.underlying65 (by kernel_rfl) (by kernel_rfl) h with ⟨hcs, _⟩ | ⟨a, len, cap, m, D, Pl, hcs, _, hl, hm0, hm, _, hi⟩
  · injection hcs with hcs _
    exact ⟨none, 0, [], hcs, Nat.le_refl _, nilC _ W, fun x hx => (by cases hx)⟩
  · injection hcs with hcs _
    simp only [if_true] at hm
    subst hm
    have hz : ∀ i, i < len → ∀ j, j < 2 → ∃ q : Int, W.cell? (a.add (i * 2 + j)) = some (.int .i64 q) ∧ (Lit.int .i64 q).wf = true := by
      intro i hi' j hj
      obtain ⟨ys, k, _, _, _, hg⟩ := hi i (by omega)
      match j, hj with
      | 0, hj =>
        obtain ⟨u, y, hc, _, htr⟩ := hg 0 _ rfl
        obtain ⟨q, hq, _, hw⟩ := DataW.trod_int Try.underlying3 htr
        injection hq with hq _
        subst hq
        exact ⟨q, hc, hw⟩
      | 1, hj =>
        obtain ⟨u, y, hc, _, htr⟩ := hg 1 _ rfl
        obtain ⟨q, hq, _, hw⟩ := DataW.trod_int Try.underlying3 htr
        injection hq with hq _
        subst hq
        exact ⟨q, hc, hw⟩
      | j + 2, hj => omega
    have hz2 : ∃ z : Nat → Nat → Int, ∀ i, i < len → ∀ j, j < 2 → W.cell? (a.add (i * 2 + j)) = some (.int .i64 (z i j)) ∧ (Lit.int .i64 (z i j)).wf = true := by
      refine ⟨fun i j => if h : i < len ∧ j < 2 then (hz i h.1 j h.2).choose else 0, fun i hi j hj => ?_⟩
      have e : (if h : i < len ∧ j < 2 then (hz i h.1 j h.2).choose else 0) = (hz i hi j hj).choose := dif_pos ⟨hi, hj⟩
      simp only [e]
      exact (hz i hi j hj).choose_spec
    obtain ⟨z, hz⟩ := hz2
    have hlen : ((List.range len).map fun i => (⟨z i 0, z i 1⟩ : S65)).length = len := by simp
    refine ⟨some a, m, (List.range len).map fun i => ⟨z i 0, z i 1⟩, by rw [hlen]; exact hcs, by rw [hlen]; exact hl, ⟨rfl, by rw [hlen]; unfold maxLen at hm0; omega, fun _ => ⟨a, rfl, fun j p hj => ?_⟩⟩, fun x hx => ?_⟩
    · rw [List.getElem?_map] at hj
      have hjl : j < len := by
        rcases Nat.lt_or_ge j len with q | q
        · exact q
        · rw [List.getElem?_eq_none (by simpa using q)] at hj; cases hj
      rw [List.getElem?_range hjl] at hj
      obtain rfl := Option.some.inj hj
      refine ⟨[.int .i64 (z j 0), .int .i64 (z j 1)], rfl, ⟨[.int .i64 (z j 0)], [.int .i64 (z j 1)], rfl, rfl, rfl⟩, fun i u hu => ?_⟩
      match i, hu with
      | 0, hu => cases hu; exact (hz j hjl 0 (by decide)).1
      | 1, hu => cases hu; exact (hz j hjl 1 (by decide)).1
      | i + 2, hu => simp at hu
    · obtain ⟨i, hi2, rfl⟩ := List.mem_map.1 hx
      have hil := List.mem_range.1 hi2
      exact ⟨wf_W64 (hz i hil 0 (by decide)).2, wf_W64 (hz i hil 1 (by decide)).2⟩

theorem openInts (h : DataW.trod enc Try.prog W base (fun _ => true) held fuel 25 [v] = some x) : ∃ (A : Option Addr) (c : Nat) (xs : List Int), v = .slice A xs.length c ∧ xs.length ≤ c ∧ Kd.C (Kd.int .i64) W A xs.length xs ∧ ∀ x ∈ xs, W64 x := by
  rcases open_ints Try.underlying25 Try.underlying3 (by kernel_rfl) h with ⟨hcs, _⟩ | ⟨a, len, cap, zs, hcs, _, hl, hm, hz, _, hcell, hwz⟩
  · injection hcs with hcs _
    exact ⟨none, 0, [], hcs, Nat.le_refl _, nilC _ W, fun x hx => (by cases hx)⟩
  · injection hcs with hcs _
    simp only [if_true] at hz
    obtain ⟨l, rfl, hr, hm2, hw, hc⟩ := ReadsInt.ofRowC (k := .i64) (w := W) (a := some a) (len := len) (cap := cap) (zs := zs) (.inr ⟨a, rfl, hl, hm, hz, hcell, hwz⟩)
    exact ⟨some a, cap, l, hcs, hc, Kd.C_of_reads (d := (0 : Int)) (h1 := fun _ => rfl) hr, fun x hx => wf_W64 (hw x hx)⟩

theorem open_bytes {a : Option Addr} {len cap : Nat} (h : DataW.trod enc Try.prog W base (fun _ => true) held fuel 32 (Value.slice a len cap).cells.toList = some x) : ∃ l : List Int, len = l.length ∧ Kd.C (Kd.int .u8) W a l.length l ∧ l.length ≤ cap ∧ Byt l := by
  rcases open_ints Try.underlying32 Try.underlying5 (by kernel_rfl) h with ⟨hcs, _⟩ | ⟨a', len', cap', zs, hcs, _, hl, hm, hz, _, hcell, hwz⟩
  · simp [Value.cells] at hcs
    obtain ⟨rfl, rfl, rfl⟩ := hcs
    exact ⟨[], rfl, nilC _ W, Nat.le_refl _, fun x hx => (by cases hx)⟩
  · simp [Value.cells] at hcs
    obtain ⟨rfl, rfl, rfl⟩ := hcs
    simp only [if_true] at hz
    obtain ⟨l, rfl, hr, hm2, hw, hc⟩ := ReadsInt.ofRowC (k := .u8) (w := W) (a := some a') (len := len) (cap := cap) (zs := zs) (.inr ⟨a', rfl, hl, hm, hz, hcell, hwz⟩)
    exact ⟨l, rfl, Kd.C_of_reads (d := (0 : Int)) (h1 := fun _ => rfl) hr, hc, fun x hx => bounds_u8 (hw x hx)⟩
theorem openRows (h : DataW.trod enc Try.prog W base (fun _ => true) held fuel 26 [v] = some x) : ∃ (A : Option Addr) (c : Nat) (xs : List (List Int)), v = .slice A xs.length c ∧ xs.length ≤ c ∧ Kd.C (Kd.slice 3 (Kd.int .i64)) W A xs.length xs ∧ ∀ x ∈ xs, ∀ y ∈ x, W64 y := by
  have hv : ∃ A n c, v = .slice A n c := by
    rcases Go.Deep.open_int_rows Try.underlying26 Try.underlying25 Try.underlying3 (by kernel_rfl) (by kernel_rfl) h with ⟨hcs, _⟩ | ⟨a, l, c, A, L, C, Z, hcs, _⟩
    · injection hcs with hcs _; exact ⟨_, _, _, hcs⟩
    · injection hcs with hcs _; exact ⟨_, _, _, hcs⟩
  obtain ⟨A, n, c, rfl⟩ := hv
  have h' : DataW.Trod enc Try.prog W base (fun _ => true) held 26 (.slice A n c) x.1 x.2 := ⟨fuel, by simpa [Value.cells] using h⟩
  obtain ⟨zs, hC, hl, hc, hm, hw⟩ := IsRowsP.of Try.underlying26 Try.underlying25 Try.underlying3 (by kernel_rfl) (by kernel_rfl) h'
  subst hl
  exact ⟨A, c, zs, rfl, hc, hC, fun x hx y hy => wf_W64 ((hw x hx).2 y hy)⟩
set_option maxRecDepth 100000 in
theorem open_prog {cs : List Value} (h : DataW.trod enc Try.prog W base (fun _ => true) held fuel 29 cs = some x) : ∃ p, PR W (.agg cs.toArray) p ∧ p.Wf := by
  obtain ⟨xs, n, _, _, hl, hx, hf⟩ := DataW.trod_struct Try.underlying29 h
  have hl9 : cs.length = 9 := hl.trans (by kernel_rfl)
  have hx9 : xs.length = 9 := hx
  obtain ⟨v0, v1, v2, v3, v4, v5, v6, v7, v8, rfl⟩ : ∃ v0 v1 v2 v3 v4 v5 v6 v7 v8, cs = [v0, v1, v2, v3, v4, v5, v6, v7, v8] := by
    match cs, hl9 with
    | [a, b, c, d, e, f, g, h, i], _ => exact ⟨a, b, c, d, e, f, g, h, i, rfl⟩
  obtain ⟨y0, y1, y2, y3, y4, y5, y6, y7, y8, rfl⟩ : ∃ y0 y1 y2 y3 y4 y5 y6 y7 y8, xs = [y0, y1, y2, y3, y4, y5, y6, y7, y8] := by
    match xs, hx9 with
    | [a, b, c, d, e, f, g, h, i], _ => exact ⟨a, b, c, d, e, f, g, h, i, rfl⟩
  have c22 : Try.prog.cellsOf 22 = 1 := by kernel_rfl
  have c23 : Try.prog.cellsOf 23 = 1 := by kernel_rfl
  have c24 : Try.prog.cellsOf 24 = 1 := by kernel_rfl
  have c3 : Try.prog.cellsOf 3 = 1 := by kernel_rfl
  have c25 : Try.prog.cellsOf 25 = 1 := by kernel_rfl
  have c26 : Try.prog.cellsOf 26 = 1 := by kernel_rfl
  have c27 : Try.prog.cellsOf 27 = 1 := by kernel_rfl
  have g0 : DataW.trod enc Try.prog W base (fun _ => true) held n 22 [v0] = some y0 := by
    have h : DataW.trod enc Try.prog W base (fun _ => true) held n 22 (([v0, v1, v2, v3, v4, v5, v6, v7, v8].drop 0).take (Try.prog.cellsOf 22)) = some y0 := hf 0 _ rfl
    rw [c22] at h
    exact h
  have g1 : DataW.trod enc Try.prog W base (fun _ => true) held n 23 [v1] = some y1 := by
    have h : DataW.trod enc Try.prog W base (fun _ => true) held n 23 (([v0, v1, v2, v3, v4, v5, v6, v7, v8].drop 1).take (Try.prog.cellsOf 23)) = some y1 := hf 1 _ rfl
    rw [c23] at h
    exact h
  have g2 : DataW.trod enc Try.prog W base (fun _ => true) held n 24 [v2] = some y2 := by
    have h : DataW.trod enc Try.prog W base (fun _ => true) held n 24 (([v0, v1, v2, v3, v4, v5, v6, v7, v8].drop 2).take (Try.prog.cellsOf 24)) = some y2 := hf 2 _ rfl
    rw [c24] at h
    exact h
  have g3 : DataW.trod enc Try.prog W base (fun _ => true) held n 3 [v3] = some y3 := by
    have h : DataW.trod enc Try.prog W base (fun _ => true) held n 3 (([v0, v1, v2, v3, v4, v5, v6, v7, v8].drop 3).take (Try.prog.cellsOf 3)) = some y3 := hf 3 _ rfl
    rw [c3] at h
    exact h
  have g4 : DataW.trod enc Try.prog W base (fun _ => true) held n 25 [v4] = some y4 := by
    have h : DataW.trod enc Try.prog W base (fun _ => true) held n 25 (([v0, v1, v2, v3, v4, v5, v6, v7, v8].drop 4).take (Try.prog.cellsOf 25)) = some y4 := hf 4 _ rfl
    rw [c25] at h
    exact h
  have g5 : DataW.trod enc Try.prog W base (fun _ => true) held n 25 [v5] = some y5 := by
    have h : DataW.trod enc Try.prog W base (fun _ => true) held n 25 (([v0, v1, v2, v3, v4, v5, v6, v7, v8].drop 5).take (Try.prog.cellsOf 25)) = some y5 := hf 5 _ rfl
    rw [c25] at h
    exact h
  have g6 : DataW.trod enc Try.prog W base (fun _ => true) held n 26 [v6] = some y6 := by
    have h : DataW.trod enc Try.prog W base (fun _ => true) held n 26 (([v0, v1, v2, v3, v4, v5, v6, v7, v8].drop 6).take (Try.prog.cellsOf 26)) = some y6 := hf 6 _ rfl
    rw [c26] at h
    exact h
  have g7 : DataW.trod enc Try.prog W base (fun _ => true) held n 27 [v7] = some y7 := by
    have h : DataW.trod enc Try.prog W base (fun _ => true) held n 27 (([v0, v1, v2, v3, v4, v5, v6, v7, v8].drop 7).take (Try.prog.cellsOf 27)) = some y7 := hf 7 _ rfl
    rw [c27] at h
    exact h
  have g8 : DataW.trod enc Try.prog W base (fun _ => true) held n 3 [v8] = some y8 := by
    have h : DataW.trod enc Try.prog W base (fun _ => true) held n 3 (([v0, v1, v2, v3, v4, v5, v6, v7, v8].drop 8).take (Try.prog.cellsOf 3)) = some y8 := hf 8 _ rfl
    rw [c3] at h
    exact h
  obtain ⟨A0, d0, p0_, e0, k0, r0, w0⟩ := openS44 (v := v0) g0
  obtain ⟨A1, d1, p1_, e1, k1, r1, w1⟩ := openS46 (v := v1) g1
  obtain ⟨A2, d2, p2_, e2, k2, r2, w2⟩ := openS56 (v := v2) g2
  obtain ⟨z3, e3, _, w3⟩ := DataW.trod_int Try.underlying3 g3
  obtain ⟨A4, d4, p4_, e4, k4, r4, w4⟩ := openInts (v := v4) g4
  obtain ⟨A5, d5, p5_, e5, k5, r5, w5⟩ := openInts (v := v5) g5
  obtain ⟨A6, d6, p6_, e6, k6, r6, w6⟩ := openRows (v := v6) g6
  obtain ⟨A7, d7, p7_, e7, k7, r7, w7⟩ := openS65 (v := v7) g7
  obtain ⟨z8, e8, _, w8⟩ := DataW.trod_int Try.underlying3 g8
  have e3' : v3 = .int .i64 z3 := by injection e3
  have e8' : v8 = .int .i64 z8 := by injection e8
  subst e0 e1 e2 e3' e4 e5 e6 e7 e8'
  refine ⟨⟨p0_, p1_, p2_, z3, p4_, p5_, p6_, p7_, z8⟩, ⟨A0, d0, A1, d1, A2, d2, A4, d4, A5, d5, A6, d6, A7, d7, rfl, ⟨⟨k0, r0⟩, ⟨k1, r1⟩, ⟨k2, r2⟩, ⟨k4, r4⟩, ⟨k5, r5⟩, ⟨k6, r6⟩, ⟨k7, r7⟩⟩⟩, ⟨w0, w1, w2, wf_W64 w3, w4, w5, w6, w7, wf_W64 w8⟩⟩
end
end

end Go.Proofs.Ytdgaklldijkoaaa.PCode
