-- Written by a program of this session.
import Derived.Test.YtdbcmmckjlbffaaPHoltx8
import Derived.Deep.Matrix
namespace Go.Proofs.Ytdbcmmckjlbffaa.PHolt
open Go.RowKit Go.Proofs.YtdbcmmckjlbffaaW.PrintWords Go.Proofs.YtdbcmmckjlbffaaW.PrintLast Go.ChangeShapes Go.WideShapes Go.Deep
set_option linter.unusedVariables false
set_option linter.unusedSimpArgs false
def IsRowHoltAsks (k : IntKind) (w : World) (a : Option Addr) (len cap : Nat) (zs : List Int) : Prop :=
  (a = none ∧ len = 0 ∧ cap = 0 ∧ zs = []) ∨
  ∃ x, a = some x ∧ len ≤ cap ∧ cap ≤ maxLen ∧ zs.length = cap ∧ (∀ i, i < zs.length → w.cell? (x.add i) = some (.int k (zs.getD i 0))) ∧ ∀ n ∈ zs, (Lit.int k n).wf = true
/-- A list of lists that came in. -/
def IsRowsHoltAsks (w : World) (a : Option Addr) (len cap : Nat) (zs : List (List Int)) : Prop := Kd.C (Kd.slice 3 (Kd.int .i64)) w a len zs ∧ zs.length = len ∧ len ≤ cap ∧ len ≤ maxLen ∧ ∀ x ∈ zs, x.length ≤ maxLen ∧ ∀ n ∈ x, (Lit.int .i64 n).wf = true
theorem IsRowsHoltAsks.of {H : Type} {enc : TypeId × Value → H} {P : Program} {W : World} {base : Nat} {held : Bool} {t e : TypeId} {a : Option Addr} {len cap : Nat} {d : DataW H} {ps : List MemPlace} (ht : P.underlying t = some (.slice e)) (he : P.underlying e = some (.slice 3)) (hq : P.underlying 3 = some (.int .i64)) (ce : P.cellsOf e = 1) (cq : P.cellsOf 3 = 1)
    (h : DataW.Trod enc P W base (fun _ => true) held t (.slice a len cap) d ps) : ∃ zs, IsRowsHoltAsks W a len cap zs := by
  obtain ⟨fuel, hf⟩ := h
  rcases open_int_rows ht he hq ce cq hf with ⟨hcs, _⟩ | ⟨x, l, c, A, L, C, Z, hcs, _, hl, hm, _, hr⟩
  · simp [Value.cells] at hcs
    obtain ⟨rfl, rfl, rfl⟩ := hcs
    exact ⟨[], ⟨rfl, by omega, fun h => absurd h (Nat.lt_irrefl 0)⟩, rfl, Nat.le_refl _, Nat.zero_le _, fun x hx => by cases hx⟩
  · simp [Value.cells] at hcs
    obtain ⟨rfl, rfl, rfl⟩ := hcs
    refine ⟨(List.range len).map fun r => (Z r).take (L r), ⟨by simp, by unfold maxLen at hm; omega, fun _ => ⟨x, rfl, fun j p hj => ?_⟩⟩, by simp, hl, Nat.le_trans hl hm, fun y hy => ?_⟩
    · rw [List.getElem?_map] at hj
      have hjl : j < len := by
        rcases Nat.lt_or_ge j len with q | q
        · exact q
        · rw [List.getElem?_eq_none (by simpa using q)] at hj
          cases hj
      rw [List.getElem?_range hjl] at hj
      obtain rfl := Option.some.inj hj
      obtain ⟨h1, h2, h3, h4, h5, h6, h7⟩ := hr j (by omega)
      have hlen : ((Z j).take (L j)).length = L j := by rw [List.length_take]; omega
      refine ⟨[.slice (A j) ((Z j).take (L j)).length (C j)], rfl, ⟨A j, C j, rfl, by rw [hlen]; exact h2, ⟨rfl, by rw [hlen]; unfold maxLen at h3; omega, fun hp => ?_⟩⟩, fun i u hu => ?_⟩
      · cases hA : A j with
        | none => rw [hlen] at hp; have := h6 hA; omega
        | some ad =>
          obtain ⟨_, hcell⟩ := h7 ad hA
          refine ⟨ad, rfl, fun i p hi => ⟨[.int .i64 p], rfl, rfl, fun i' u hu => ?_⟩⟩
          have hil : i < L j := by
            rcases Nat.lt_or_ge i (L j) with q | q
            · exact q
            · rw [List.getElem?_eq_none (by rw [hlen]; exact q)] at hi
              cases hi
          have e1 : i' = 0 ∧ u = .int .i64 p := by
            cases i' with
            | zero => exact ⟨rfl, (Option.some.inj hu).symm⟩
            | succ m => simp at hu
          obtain ⟨rfl, rfl⟩ := e1
          have e2 := hcell i (by omega)
          have e3 : (Z j).getD i 0 = p := by
            rw [List.getElem?_take] at hi
            rw [if_pos hil] at hi
            rw [List.getD_eq_getElem?_getD, hi]
            rfl
          rw [e3] at e2
          have e4 : i * (Kd.int IntKind.i64).sz + 0 = i := Nat.mul_one i
          rw [e4]
          exact e2
      · have e1 : i = 0 ∧ u = .slice (A j) ((Z j).take (L j)).length (C j) := by
          cases i with
          | zero => exact ⟨rfl, (Option.some.inj hu).symm⟩
          | succ m => simp at hu
        obtain ⟨rfl, rfl⟩ := e1
        have e4 : j * (Kd.slice 3 (Kd.int IntKind.i64)).sz + 0 = j := Nat.mul_one j
        rw [e4, hlen]
        exact h1
    · obtain ⟨r, hrl, rfl⟩ := List.mem_map.1 hy
      obtain ⟨h1, h2, h3, h4, h5, h6, h7⟩ := hr r (by have := List.mem_range.1 hrl; omega)
      exact ⟨by rw [List.length_take]; omega, fun n hn => h5 n (List.mem_of_mem_take hn)⟩
/-- The pure statement of signalboxlaw15_HoltAsks. -/
def signalboxlaw15_HoltAsks.Pure : Prop := ∀ (l0 : List Int) (l1 : List (List Int)) (l2 : List (List Int)), l0.length ≤ maxLen → l0.length * 8 ≤ 140737488351232 → (∀ x ∈ l0, (Lit.int .i64 x).wf = true) → l1.length ≤ maxLen → (∀ x ∈ l1, x.length ≤ maxLen ∧ ∀ n ∈ x, (Lit.int .i64 n).wf = true) → l2.length ≤ maxLen → (∀ x ∈ l2, x.length ≤ maxLen ∧ ∀ n ∈ x, (Lit.int .i64 n).wf = true) → ∃ k, signalboxlaw15_HoltAsks.f k l0 l1 l2 = some true
theorem signalboxlaw15_HoltAsks.walk (P : signalboxlaw15_HoltAsks.Pure) (a0 : Option Addr) (len0 cap0 : Nat) (z0 : List Int) (a1 : Option Addr) (len1 cap1 : Nat) (z1 : List (List Int)) (a2 : Option Addr) (len2 cap2 : Nat) (z2 : List (List Int)) (w : World) (w0 : IsRowHoltAsks .i64 w a0 len0 cap0 z0) (y0 : len0 * 8 ≤ 140737488351232) (w1 : IsRowsHoltAsks w a1 len1 cap1 z1) (w2 : IsRowsHoltAsks w a2 len2 cap2 z2) :
    Calls Try.prog 3 #[.slice a0 len0 cap0, .slice a1 len1 cap1, .slice a2 len2 cap2] w fun e w' => e = .returned (.bool true) ∧ Below w.heap.size w w' := by
  obtain ⟨l0, rfl, hr0, hm0, hw0, hc0⟩ := ReadsInt.ofRowC w0
  obtain ⟨hr1, hl1, hc1, hm1, hw1⟩ := w1
  subst hl1
  obtain ⟨hr2, hl2, hc2, hm2, hw2⟩ := w2
  subst hl2
  obtain ⟨k, h⟩ := P l0 z1 z2 hm0 y0 hw0 hm1 hw1 hm2 hw2
  refine (signalboxlaw15_HoltAsks.calls k _ _ l0 _ _ z1 _ _ z2 true w (Kd.C_of_reads (d := (0 : Int)) (h1 := fun _ => rfl) hr0) hc0 hr1 hc1 hr2 hc2 h).mono ?_
  rintro e w' ⟨rfl, hd⟩
  exact ⟨rfl, hd⟩
end Go.Proofs.Ytdbcmmckjlbffaa.PHolt
