import Derived.Test.YtdgaklldijkoaaaPCodex0
import Derived.Test.YtdgaklldijkoaaaCodeK
import Derived.BigQuiet
import Derived.IntWalk
import Derived.WalkMore
import Derived.Laws.EntriesVeiled
import Derived.StillTailTactics
import Derived.Laws.BitsAllLaws
import Derived.Laws.BitsLemmas
import Derived.Laws.Strings
import Derived.Lib.SlBytesConst
import Derived.Deep.Matrix
import Derived.Deep.Slices
import Derived.Deep.Fields
import Derived.ChangeSame
import Derived.ChangeArms
import Derived.OpenShut
namespace Go.Proofs.Ytdgaklldijkoaaa.PCode
open Go.RowKit Go.Proofs.YtdgaklldijkoaaaW.PrintWords Go.Proofs.YtdgaklldijkoaaaW.PrintLast Go.Proofs.YtdgaklldijkoaaaW.PrintMore
attribute [local go_sem] max2_int min2_int max_two min_two max_three min_three max_four min_four
set_option linter.unusedVariables false
set_option linter.unusedSimpArgs false
/-! A program that came in. -/
section
open Go.ChangeShapes Go.WideShapes Go.Deep
section
variable {H : Type} {enc : TypeId × Value → H} {P : Program} {w : World} {base : Nat} {spare : Nat → Bool} {held : Bool}
end
section
variable {H : Type} {enc : TypeId × Value → H} {W : World} {base fuel : Nat} {held : Bool} {x : DataW H × List MemPlace} {v : Value}

end
/-- A list of lists that came in. -/
def IsRowsP (w : World) (a : Option Addr) (len cap : Nat) (zs : List (List Int)) : Prop := Kd.C (Kd.slice 3 (Kd.int .i64)) w a len zs ∧ zs.length = len ∧ len ≤ cap ∧ len ≤ maxLen ∧ ∀ x ∈ zs, x.length ≤ maxLen ∧ ∀ n ∈ x, (Lit.int .i64 n).wf = true
theorem IsRowsP.of {H : Type} {enc : TypeId × Value → H} {P : Program} {W : World} {base : Nat} {held : Bool} {t e : TypeId} {a : Option Addr} {len cap : Nat} {d : DataW H} {ps : List MemPlace} (ht : P.underlying t = some (.slice e)) (he : P.underlying e = some (.slice 3)) (hq : P.underlying 3 = some (.int .i64)) (ce : P.cellsOf e = 1) (cq : P.cellsOf 3 = 1)
    (h : DataW.Trod enc P W base (fun _ => true) held t (.slice a len cap) d ps) : ∃ zs, IsRowsP W a len cap zs := by
  obtain ⟨fuel, hf⟩ := h
  rcases open_int_rows ht he hq ce cq hf with ⟨hcs, _⟩ | ⟨x, l, c, A, L, C, Z, hcs, _, hl, hm, _, hr⟩
  · simp [Value.cells] at hcs
    obtain ⟨rfl, rfl, rfl⟩ := hcs
    exact ⟨[], ⟨rfl, by omega, fun h => absurd h (Nat.lt_irrefl 0)⟩, rfl, Nat.le_refl _, Nat.zero_le _, fun x hx => by cases hx⟩
  · simp [Value.cells] at hcs
    obtain ⟨rfl, rfl, rfl⟩ := hcs
    refine ⟨(List.range len).map fun r => (Z r).take (L r), ⟨by simp, by unfold maxLen at hm; omega, fun _ => ⟨x, rfl, fun j p hj => ?_⟩⟩, by simp, hl, Nat.le_trans hl hm, fun y hy => ?_⟩
    · rw [List.getElem?_map] at hj
      have hjl : j < len := by
        rcases Nat.lt_or_ge j len with q | q
        · exact q
        · rw [List.getElem?_eq_none (by simpa using q)] at hj
          cases hj
      rw [List.getElem?_range hjl] at hj
      obtain rfl := Option.some.inj hj
      obtain ⟨h1, h2, h3, h4, h5, h6, h7⟩ := hr j (by omega)
      have hlen : ((Z j).take (L j)).length = L j := by rw [List.length_take]; omega
      refine ⟨[.slice (A j) ((Z j).take (L j)).length (C j)], rfl, ⟨A j, C j, rfl, by rw [hlen]; exact h2, ⟨rfl, by rw [hlen]; unfold maxLen at h3; omega, fun hp => ?_⟩⟩, fun i u hu => ?_⟩
      · cases hA : A j with
        | none => rw [hlen] at hp; have := h6 hA; omega
        | some ad =>
          obtain ⟨_, hcell⟩ := h7 ad hA
          refine ⟨ad, rfl, fun i p hi => ⟨[.int .i64 p], rfl, rfl, fun i' u hu => ?_⟩⟩
          have hil : i < L j := by
            rcases Nat.lt_or_ge i (L j) with q | q
            · exact q
            · rw [List.getElem?_eq_none (by rw [hlen]; exact q)] at hi
              cases hi
          have e1 : i' = 0 ∧ u = .int .i64 p := by
            cases i' with
            | zero => exact ⟨rfl, (Option.some.inj hu).symm⟩
            | succ m => simp at hu
          obtain ⟨rfl, rfl⟩ := e1
          have e2 := hcell i (by omega)
          have e3 : (Z j).getD i 0 = p := by
            rw [List.getElem?_take] at hi
            rw [if_pos hil] at hi
            rw [List.getD_eq_getElem?_getD, hi]
            rfl
          rw [e3] at e2
          have e4 : i * (Kd.int IntKind.i64).sz + 0 = i := Nat.mul_one i
          rw [e4]
          exact e2
      · have e1 : i = 0 ∧ u = .slice (A j) ((Z j).take (L j)).length (C j) := by
          cases i with
          | zero => exact ⟨rfl, (Option.some.inj hu).symm⟩
          | succ m => simp at hu
        obtain ⟨rfl, rfl⟩ := e1
        have e4 : j * (Kd.slice 3 (Kd.int IntKind.i64)).sz + 0 = j := Nat.mul_one j
        rw [e4, hlen]
        exact h1
    · obtain ⟨r, hrl, rfl⟩ := List.mem_map.1 hy
      obtain ⟨h1, h2, h3, h4, h5, h6, h7⟩ := hr r (by have := List.mem_range.1 hrl; omega)
      exact ⟨by rw [List.length_take]; omega, fun n hn => h5 n (List.mem_of_mem_take hn)⟩
section
variable {H : Type} {enc : TypeId × Value → H} {W : World} {base fuel : Nat} {held : Bool} {x : DataW H × List MemPlace} {v : Value}

theorem open_bytes {a : Option Addr} {len cap : Nat} (h : DataW.trod enc Try.prog W base (fun _ => true) held fuel 32 (Value.slice a len cap).cells.toList = some x) : ∃ l : List Int, len = l.length ∧ Kd.C (Kd.int .u8) W a l.length l ∧ l.length ≤ cap ∧ Byt l := by
  rcases open_ints Try.underlying32 Try.underlying5 (by kernel_rfl) h with ⟨hcs, _⟩ | ⟨a', len', cap', zs, hcs, _, hl, hm, hz, _, hcell, hwz⟩
  · simp [Value.cells] at hcs
    obtain ⟨rfl, rfl, rfl⟩ := hcs
    exact ⟨[], rfl, nilC _ W, Nat.le_refl _, fun x hx => (by cases hx)⟩
  · simp [Value.cells] at hcs
    obtain ⟨rfl, rfl, rfl⟩ := hcs
    simp only [if_true] at hz
    obtain ⟨l, rfl, hr, hm2, hw, hc⟩ := ReadsInt.ofRowC (k := .u8) (w := W) (a := some a') (len := len) (cap := cap) (zs := zs) (.inr ⟨a', rfl, hl, hm, hz, hcell, hwz⟩)
    exact ⟨l, rfl, Kd.C_of_reads (d := (0 : Int)) (h1 := fun _ => rfl) hr, hc, fun x hx => bounds_u8 (hw x hx)⟩
end
end

end Go.Proofs.Ytdgaklldijkoaaa.PCode
