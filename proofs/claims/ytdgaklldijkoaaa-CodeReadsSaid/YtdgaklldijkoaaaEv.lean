/-
  Small lemmas on 'Ev' (from some number of rounds on a printed function answers r), used by the pure statements of this seat.
-/
import Derived.Test.YtdgaklldijkoaaaWWords
namespace Go.Proofs.Ytdgaklldijkoaaa.EvKit
open Go.RowKit Go.Proofs.YtdgaklldijkoaaaW.PrintWords

theorem pos {α : Type} {c : Prop} [Decidable c] {f g : Nat → Option α} {r : α} (h : c) (k : Ev f r) : Ev (fun n => if c then f n else g n) r :=
  Ev.congr (fun _ => if_pos h) k
theorem neg {α : Type} {c : Prop} [Decidable c] {f g : Nat → Option α} {r : α} (h : ¬ c) (k : Ev g r) : Ev (fun n => if c then f n else g n) r :=
  Ev.congr (fun _ => if_neg h) k
theorem ite {α : Type} {c : Prop} [Decidable c] {f g : Nat → Option α} {r : α} (h : c → Ev f r) (k : ¬ c → Ev g r) : Ev (fun n => if c then f n else g n) r := by
  by_cases hc : c
  · exact pos hc (h hc)
  · exact neg hc (k hc)
theorem bnd {α β : Type} {g : Nat → Option α} {f : Nat → α → Option β} {a : α} {r : β} (h : Ev g a) (k : Ev (fun n => f n a) r) : Ev (fun n => (g n).bind (f n)) r := Ev.bind h k
theorem somec {α : Type} {a r : α} (h : a = r) : Ev (fun _ => some a) r := by rw [h]; exact Ev.now r
theorem eqr {α : Type} {f : Nat → Option α} {a r : α} (k : Ev f a) (h : a = r) : Ev f r := by rw [← h]; exact k
theorem at_ {α : Type} {g : Nat → Option α} {r : α} (hg : ∀ k, LeO (g k) (g (k + 1))) (K : Nat) (h : g K = some r) : Ev g r := Ev.of hg h
theorem w64 {x : Int} (h0 : -9223372036854775808 ≤ x) (h1 : x ≤ 9223372036854775807) : wrap64 x = x := by unfold wrap64; omega
theorem rd_at {l : List Int} {i : Nat} (h : i < l.length) : rd l (i : Int) = l[i] := by simp [rd, h]
end Go.Proofs.Ytdgaklldijkoaaa.EvKit
