import Derived.Test.YtdgaklldijkoaaaPCodex0
import Derived.Test.YtdgaklldijkoaaaCodeL
import Derived.Test.YtdgaklldijkoaaaPCodex5
import Derived.Test.YtdgaklldijkoaaaEv
import Derived.BigQuiet
import Derived.IntWalk
import Derived.WalkMore
import Derived.Laws.EntriesVeiled
import Derived.StillTailTactics
import Derived.Laws.BitsAllLaws
import Derived.Laws.BitsLemmas
import Derived.Laws.Strings
import Derived.Lib.SlBytesConst
import Derived.Deep.Matrix
import Derived.Deep.Slices
import Derived.Deep.Fields
import Derived.ChangeSame
import Derived.ChangeArms
import Derived.OpenShut
namespace Go.Proofs.Ytdgaklldijkoaaa.PCode
open Go.RowKit Go.Proofs.YtdgaklldijkoaaaW.PrintWords Go.Proofs.YtdgaklldijkoaaaW.PrintLast Go.Proofs.YtdgaklldijkoaaaW.PrintMore
attribute [local go_sem] max2_int min2_int max_two min_two max_three min_three max_four min_four
set_option linter.unusedVariables false
set_option linter.unusedSimpArgs false
/-! The reference's May and Encode, and Small, out of their printed forms. -/
section
open Go.Proofs.Ytdgaklldijkoaaa.EvKit
theorem drop_cons' {α : Type} (l : List α) {i : Nat} (h : i < l.length) : l.drop i = l[i] :: l.drop (i + 1) := List.drop_eq_getElem_cons h
theorem rdX {α : Type} {l : List α} {d : α} {i : Nat} (h : i < l.length) : l.getD ((i : Int)).toNat d = l[i] := by
  rw [Int.toNat_natCast, List.getD_eq_getElem?_getD, List.getElem?_eq_getElem h]; rfl
theorem small_l {p : Pg} {most : Int} (hg : p.g.length ≤ 9223372036854775807) : ∀ (d i : Nat) (n : Int), p.g.length - i = d → i ≤ p.g.length → ∃ r, Ev (fun k => signalboxmake_Small.l0 k most n (i : Int) p.a p.b p.c p.d p.e p.f p.g p.h p.i) r
  | 0, i, n, hd, hi => by
    refine ⟨true, ?_⟩
    refine Ev.step (fun k => by rw [signalboxmake_Small.l0]) ?_
    exact neg (by omega) (somec rfl)
  | d + 1, i, n, hd, hi => by
    have hil : i < p.g.length := by omega
    by_cases q : (wrap64 (n + ((rd_L1 p.g (i : Int)).length : Int))) > most
    · refine ⟨false, ?_⟩
      refine Ev.step (fun k => by rw [signalboxmake_Small.l0]) ?_
      exact pos (by omega) (pos (by omega) (pos q (somec rfl)))
    · obtain ⟨r, hr⟩ := small_l hg d (i + 1) (wrap64 (n + ((rd_L1 p.g (i : Int)).length : Int))) (by omega) (by omega)
      refine ⟨r, ?_⟩
      refine Ev.step (fun k => by rw [signalboxmake_Small.l0]) ?_
      refine pos (by omega) (pos (by omega) (neg q ?_))
      rw [w64 (x := (i : Int) + 1) (by omega) (by omega), show ((i : Int) + 1) = ((i + 1 : Nat) : Int) by omega]
      exact hr
theorem small_ev (p : Pg) (most : Int) (hg : p.g.length ≤ 9223372036854775807) : ∃ r, Ev (fun k => signalboxmake_Small.f k p.a p.b p.c p.d p.e p.f p.g p.h p.i most) r := by
  unfold signalboxmake_Small.f
  generalize (wrap64 ((wrap64 ((wrap64 ((wrap64 ((wrap64 ((wrap64 ((p.a.length : Int) + (p.b.length : Int))) + (p.c.length : Int))) + (p.e.length : Int))) + (p.f.length : Int))) + (p.g.length : Int))) + (p.h.length : Int))) = n
  by_cases q : n > most
  · exact ⟨false, pos q (somec rfl)⟩
  · obtain ⟨r, hr⟩ := small_l (p := p) (most := most) hg p.g.length 0 n (by omega) (by omega)
    exact ⟨r, neg q hr⟩
end
/-! The contracts of the printed ones. -/
theorem small_any {w : World} {v : Value} {p : Pg} {most : Int} {r : Bool} (h : PR w v p) (hr : Ev (fun k => signalboxmake_Small.f k p.a p.b p.c p.d p.e p.f p.g p.h p.i most) r) : Calls Try.prog 8 #[v, .int .i64 most] w fun e w' => e = .returned (.bool r) ∧ Below w.heap.size w w' := by
  obtain ⟨A0, c0, A1, c1, A2, c2, A4, c4, A5, c5, A6, c6, A7, c7, rfl, x⟩ := h
  obtain ⟨k, hk⟩ := Ev.rounds hr
  exact signalboxmake_Small.calls k A0 c0 p.a A1 c1 p.b A2 c2 p.c p.d A4 c4 p.e A5 c5 p.f A6 c6 p.g A7 c7 p.h p.i most r w x.a.2 x.a.1 x.b.2 x.b.1 x.c.2 x.c.1 x.e.2 x.e.1 x.f.2 x.f.1 x.g.2 x.g.1 x.h.2 x.h.1 hk
/-- The worlds in which what stood in W still stands. -/
structure QW (W : World) where
  w : World
  h : Below W.heap.size W w
theorem wp_region_quiet_q {P : Program} {id : Nat} {Q : Exit → Act → World → Prop} {a : Act} {W : World} {l : List Oper} (hm : P.follows .mixedOrders = true) (hB : Region.lexB .any l.toArray = true)
    (h : wpQuiet P l.toArray (fun w' => ∃ q : QW W, w' = q.w) (fun a' => ∀ w', (∃ q : QW W, w' = q.w) → Q .normal a' w') l a) : (Code.region id l.toArray true).wp P Q a W :=
  wp_region_quiet (C := fun w' => ∃ q : QW W, w' = q.w) hm hB ⟨⟨W.drew, below_drew1 (Below.refl _ _)⟩, rfl⟩ (by simpa using h)
theorem QW.calls {P : Program} {f : FuncId} {args : Array Value} {W : World} {q : QW W} {v : Value} (h : Calls P f args q.w fun e w' => e = .returned v ∧ Below q.w.heap.size q.w w') : Calls P f args q.w fun e w'' => e = .returned v ∧ ∃ m : QW W, w'' = m.w :=
  h.mono fun _ w' ⟨he, hb⟩ => ⟨he, ⟨w', below_step q.h hb⟩, rfl⟩
theorem enc_e {w : World} {v : Value} {p : Pg} {bs : List Int} {cd : Int} (he : encP p = (bs, cd)) (h : PR w v p) : Calls Try.prog 10 #[v] w fun e w' => (∃ A c, e = .returned (.tuple #[.slice A bs.length c, .int .i64 cd]) ∧ bs.length ≤ c ∧ Kd.C (Kd.int .u8) w' A bs.length bs) ∧ Below w.heap.size w w' := by
  have H := encode_any h
  rw [he] at H
  exact H
theorem str_of {w : World} {A : Option Addr} {n c : Nat} {l : List Int} (h : Kd.C (Kd.int .u8) w A n l) : (convert 32 9 (.slice A n c)).run Try.prog w = .ok (.string (strOfNums l)) w := Kd.C_string Try.underlying32 Try.underlying5 Try.underlying9 h

end Go.Proofs.Ytdgaklldijkoaaa.PCode
