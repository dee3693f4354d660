import Derived.Test.YtdgaklldijkoaaaPCodex0
import Derived.Test.YtdgaklldijkoaaaCodeL
import Derived.Test.YtdgaklldijkoaaaPCodex5
import Derived.Test.YtdgaklldijkoaaaEv
import Derived.BigQuiet
import Derived.IntWalk
import Derived.WalkMore
import Derived.Laws.EntriesVeiled
import Derived.StillTailTactics
import Derived.Laws.BitsAllLaws
import Derived.Laws.BitsLemmas
import Derived.Laws.Strings
import Derived.Lib.SlBytesConst
import Derived.Deep.Matrix
import Derived.Deep.Slices
import Derived.Deep.Fields
import Derived.ChangeSame
import Derived.ChangeArms
import Derived.OpenShut
namespace Go.Proofs.Ytdgaklldijkoaaa.PCode
open Go.RowKit Go.Proofs.YtdgaklldijkoaaaW.PrintWords Go.Proofs.YtdgaklldijkoaaaW.PrintLast Go.Proofs.YtdgaklldijkoaaaW.PrintMore
attribute [local go_sem] max2_int min2_int max_two min_two max_three min_three max_four min_four
set_option linter.unusedVariables false
set_option linter.unusedSimpArgs false
/-! The reference's May and Encode, and Small, out of their printed forms. -/
section
open Go.Proofs.Ytdgaklldijkoaaa.EvKit
theorem drop_cons' {α : Type} (l : List α) {i : Nat} (h : i < l.length) : l.drop i = l[i] :: l.drop (i + 1) := List.drop_eq_getElem_cons h
theorem rdX {α : Type} {l : List α} {d : α} {i : Nat} (h : i < l.length) : l.getD ((i : Int)).toNat d = l[i] := by
  rw [Int.toNat_natCast, List.getD_eq_getElem?_getD, List.getElem?_eq_getElem h]; rfl
end
/-! The contracts of the printed ones. -/
/-- The worlds in which what stood in W still stands. -/
structure QW (W : World) where
  w : World
  h : Below W.heap.size W w
theorem QW.calls {P : Program} {f : FuncId} {args : Array Value} {W : World} {q : QW W} {v : Value} (h : Calls P f args q.w fun e w' => e = .returned v ∧ Below q.w.heap.size q.w w') : Calls P f args q.w fun e w'' => e = .returned v ∧ ∃ m : QW W, w'' = m.w :=
  h.mono fun _ w' ⟨he, hb⟩ => ⟨he, ⟨w', below_step q.h hb⟩, rfl⟩
end Go.Proofs.Ytdgaklldijkoaaa.PCode
