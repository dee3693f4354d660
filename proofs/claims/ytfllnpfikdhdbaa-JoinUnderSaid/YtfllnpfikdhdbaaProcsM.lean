import Derived.Test.YtfllnpfikdhdbaaPProcsx0
import Derived.Test.YtfllnpfikdhdbaaProcsA
import Derived.Test.YtfllnpfikdhdbaaProcsB
import Derived.Test.YtfllnpfikdhdbaaProcsC
import Derived.Test.YtfllnpfikdhdbaaProcsD
import Derived.Test.YtfllnpfikdhdbaaProcsE
import Derived.Test.YtfllnpfikdhdbaaProcsF
import Derived.Test.YtfllnpfikdhdbaaProcsG
import Derived.Test.YtfllnpfikdhdbaaProcsZ
import Derived.Test.YtfllnpfikdhdbaaProcsH
import Derived.Test.YtfllnpfikdhdbaaProcsI
import Derived.StillTailTactics
import Derived.Laws.LoneSync
import Derived.Laws.EntriesVeiled
namespace Go.Proofs.Ytfllnpfikdhdbaa.PProcs
open Go.RowKit Go.Proofs.YtfllnpfikdhdbaaW.PrintWords Go.Proofs.YtfllnpfikdhdbaaW.PrintLast Go.Proofs.YtfllnpfikdhdbaaW.PrintMore
attribute [local go_sem] max2_int min2_int max_two min_two max_three min_three max_four min_four
set_option linter.unusedVariables false
set_option linter.unusedSimpArgs false
/-! Counting. -/
theorem thoseN_take (f : Row → Bool) (rs : List Row) : ∀ i, i ≤ rs.length → (thoseN f rs i).length = (rs.take i).countP f
  | 0, _ => by simp [thoseN]
  | i + 1, h => by
    have ih := thoseN_take f rs i (by omega)
    have e : rs.take (i + 1) = rs.take i ++ [rs.getD i Row.z] := by
      rw [List.take_add_one, List.getD_eq_getElem?_getD, List.getElem?_eq_getElem (show i < rs.length by omega)]; rfl
    rw [e, List.countP_append, ← ih]
    show (if f (rs.getD i Row.z) = true then thoseN f rs i ++ [(i : Int) + 1] else thoseN f rs i).length = _
    generalize rs.getD i Row.z = r
    by_cases q : f r = true
    · rw [if_pos q, List.length_append, List.countP_cons_of_pos q]; rfl
    · rw [if_neg q, List.countP_cons_of_neg q]; rfl
theorem those_cnt (f : Row → Bool) (rs : List Row) : (thoseL f rs).length = rs.countP f := by
  have := thoseN_take f rs rs.length (Nat.le_refl _)
  rw [List.take_length] at this
  exact this
theorem thoseN_congr {f g : Row → Bool} {rs : List Row} (h : ∀ i, i < rs.length → f (rs.getD i Row.z) = g (rs.getD i Row.z)) : ∀ i, i ≤ rs.length → thoseN f rs i = thoseN g rs i
  | 0, _ => rfl
  | i + 1, q => by
    have ih := thoseN_congr h i (by omega)
    unfold thoseN
    rw [ih, h i (by omega)]
theorem thoseN_at (f : Row → Bool) (rs : List Row) : ∀ i, i ≤ rs.length → ∀ x ∈ thoseN f rs i, ∃ j : Nat, j < rs.length ∧ x = (j : Int) + 1 ∧ f (rs.getD j Row.z) = true
  | 0, _, x, hx => by cases hx
  | i + 1, q, x, hx => by
    have ih := thoseN_at f rs i (by omega)
    unfold thoseN at hx
    by_cases p : f (rs.getD i Row.z) = true
    · rw [if_pos p] at hx
      rcases List.mem_append.1 hx with hx | hx
      · exact ih x hx
      · cases List.mem_singleton.1 hx
        exact ⟨i, by omega, rfl, p⟩
    · rw [if_neg p] at hx
      exact ih x hx
theorem those_rd {f : Row → Bool} {rs : List Row} {k : Int} (h0 : 0 ≤ k) (h1 : k < ((thoseL f rs).length : Int)) : ∃ j : Nat, j < rs.length ∧ rd (thoseL f rs) k = (j : Int) + 1 ∧ f (rs.getD j Row.z) = true := by
  have hk : k.toNat < (thoseL f rs).length := by omega
  have e : rd (thoseL f rs) k = (thoseL f rs)[k.toNat] := by
    show (thoseL f rs).getD k.toNat 0 = _
    rw [List.getD_eq_getElem?_getD, List.getElem?_eq_getElem hk]; rfl
  obtain ⟨j, a, b, c⟩ := thoseN_at f rs rs.length (Nat.le_refl _) _ (show (thoseL f rs)[k.toNat] ∈ thoseL f rs from List.getElem_mem hk)
  exact ⟨j, a, e.trans b, c⟩
theorem getD_lt {rs : List Row} {i : Nat} (h : i < rs.length) : rs.getD i Row.z = rs[i] := by
  rw [List.getD_eq_getElem?_getD, List.getElem?_eq_getElem h]; rfl
/-- Live ones: at most `most`; the others have ended; none is blocked. -/
def NumR (most : Int) (i : Nat) (rs : List Row) : Prop := (∀ r ∈ rs, r.st = 1 ∨ r.st = 3) ∧ rs.length = rs.countP liveB + i ∧ (rs.countP liveB : Int) ≤ most
theorem NumR.ready {most : Int} {i : Nat} {rs : List Row} (h : NumR most i rs) : thoseL (isB 1) rs = thoseL liveB rs :=
  thoseN_congr (fun j hj => by
    have := h.1 (rs.getD j Row.z) (by rw [getD_lt hj]; exact List.getElem_mem hj)
    generalize rs.getD j Row.z = r at this ⊢
    rcases this with q | q
    · simp [isB, liveB, q]
    · simp [isB, liveB, q]) _ (Nat.le_refl _)
theorem NumR.more {most : Int} {i : Nat} {rs : List Row} (h : NumR most i rs) (q : (rs.countP liveB : Int) < most) : NumR most i (rs ++ [⟨1, 0, 0, 0, 0⟩]) := by
  obtain ⟨a, b, c⟩ := h
  refine ⟨fun r hr => ?_, ?_, ?_⟩
  · rcases List.mem_append.1 hr with hr | hr
    · exact a r hr
    · cases List.mem_singleton.1 hr; exact .inl rfl
  · rw [List.length_append, List.countP_append, b, show List.countP liveB [⟨1, 0, 0, 0, 0⟩] = 1 from rfl]; simp; omega
  · rw [List.countP_append, show List.countP liveB [⟨1, 0, 0, 0, 0⟩] = 1 from rfl]; omega
theorem NumR.less {most : Int} {i j : Nat} {rs : List Row} (h : NumR most i rs) (hj : j < rs.length) (q : liveB (rs.getD j Row.z) = true) : NumR most (i + 1) (rs.set j (endR (rs.getD j Row.z) 0)) := by
  obtain ⟨a, b, c⟩ := h
  have e0 : liveB (endR (rs.getD j Row.z) 0) = false := rfl
  have hp : 0 < rs.countP liveB := List.countP_pos_iff.2 ⟨rs[j], List.getElem_mem hj, by rw [← getD_lt hj]; exact q⟩
  have e : (rs.set j (endR (rs.getD j Row.z) 0)).countP liveB = rs.countP liveB - 1 := by
    rw [List.countP_set hj, e0, ← getD_lt hj, q]; simp
  refine ⟨fun r hr => ?_, ?_, ?_⟩
  · rcases List.mem_or_eq_of_mem_set hr with hr | rfl
    · exact a r hr
    · exact .inr rfl
  · rw [List.length_set, e]; omega
  · rw [e]; omega
def LK (w : World) (A : Option Addr) (n c : Nat) (xs : List Int) : Prop := ∃ base, Kd.R (Kd.int .i64) 3 w base (fun _ => True) (.slice A n c) xs
theorem LK.fr {w w' : World} {A : Option Addr} {n c : Nat} {xs : List Int} (h : LK w A n c xs) (hf : Fr [73, 79] w w') : LK w' A n c xs := by
  obtain ⟨base, h⟩ := h
  exact ⟨base, R_fr h hf (by intro q hq; rcases List.mem_cons.1 hq with rfl | hq; exact (by decide); cases hq)⟩
theorem LK.below {w w' : World} {A : Option Addr} {n c : Nat} {xs : List Int} (h : LK w A n c xs) (hb : Below w.heap.size w w') : LK w' A n c xs := h.fr (Fr.of_below hb _)
theorem LK.at_ {w : World} {A : Option Addr} {n c : Nat} {xs : List Int} (h : LK w A n c xs) (k : Int) (h0 : 0 ≤ k) (h1 : k < (xs.length : Int)) : ∃ ad, A = some ad ∧ w.cell? (ad.add k.toNat) = some (.int .i64 (rd xs k)) := by
  obtain ⟨base, h⟩ := h
  exact Kd.at_int (Kd.R_reads' h).2.2 k h0 h1
def Num (w0 w : World) (b : Nat) (most : Int) (i : Nat) (rs : List Row) : Prop := TB w b w0.heap.size most rs ∧ Below w0.heap.size w0 w ∧ NumR most i rs ∧ most ≤ 32 ∧ i ≤ 60
section
variable {w0 w : World} {b i : Nat} {most : Int} {rs : List Row}
theorem Num.len (h : Num w0 w b most i rs) : rs.length ≤ 92 := by
  obtain ⟨_, _, ⟨_, x, y⟩, z, t⟩ := h
  omega
theorem Num.L (h : Num w0 w b most i rs) : rs.length ≤ 1000000 := Nat.le_trans h.len (by decide)
theorem Num.below (h : Num w0 w b most i rs) {w1 : World} (hb : Below w.heap.size w w1) : Num w0 w1 b most i rs := ⟨h.1.below hb, below_step h.2.1 hb, h.2.2⟩
theorem nu_live (h : Num w0 w b most i rs) : Calls Try.prog 22 #[.pointer (some ⟨b, 0, none⟩)] w fun e w' => e = .returned (.int .i64 (rs.countP liveB : Int)) ∧ Num w0 w' b most i rs :=
  (nlive_any h.1.tv h.L).mono fun _ _ k => ⟨by rw [k.1, those_cnt], h.below k.2⟩
theorem nu_spawn (h : Num w0 w b most i rs) (q : (rs.countP liveB : Int) < most) : Calls Try.prog 13 #[.pointer (some ⟨b, 0, none⟩), .int .i64 0] w fun e w' => e = .returned (.tuple #[.int .i64 ((rs.length : Int) + 1), .int .i64 0]) ∧ Num w0 w' b most i (rs ++ [⟨1, 0, 0, 0, 0⟩]) :=
  (spawn_ok w0 b 0 h.2.1 h.1 h.L (.inl rfl) (by rw [those_cnt]; exact q)).mono fun _ _ k => ⟨k.1, k.2.1, k.2.2.2, h.2.2.1.more q, h.2.2.2⟩
theorem nu_full (h : Num w0 w b most i rs) (q : most ≤ (rs.countP liveB : Int)) : Calls Try.prog 13 #[.pointer (some ⟨b, 0, none⟩), .int .i64 0] w fun e w' => e = .returned (.tuple #[.int .i64 0, .int .i64 42]) ∧ Num w0 w' b most i rs :=
  (spawn_full b 0 h.1 h.L (.inl rfl) (by rw [those_cnt]; exact q)).mono fun _ _ k => ⟨k.1, h.below k.2⟩
theorem nu_ready (h : Num w0 w b most i rs) (q : (rs.countP liveB : Int) = most) : Calls Try.prog 23 #[.pointer (some ⟨b, 0, none⟩)] w fun e w' => (∃ A n c, e = .returned (.slice A n c) ∧ (n : Int) = most ∧ n = (thoseL liveB rs).length ∧ LK w' A n c (thoseL liveB rs)) ∧ Num w0 w' b most i rs :=
  (lready_any h.1.tv h.L).mono fun _ _ ⟨v, k1, k2, k3⟩ => ⟨by
    rw [h.2.2.1.ready] at k2
    obtain ⟨A, c, rfl⟩ := Kd.R_slice k2
    exact ⟨A, _, c, k1, by rw [those_cnt]; exact q, rfl, _, k2⟩, h.below k3⟩
theorem nu_end (j : Nat) (h : Num w0 w b most i rs) (hi : i < 60) (hj : j < rs.length) (q : liveB (rs.getD j Row.z) = true) : Calls Try.prog 19 #[.pointer (some ⟨b, 0, none⟩), .int .i64 ((j : Int) + 1), .int .i64 0] w fun e w' => e = .returned (.bool true) ∧ Fr [73, 79] w w' ∧ Num w0 w' b most (i + 1) (rs.set j (endR (rs.getD j Row.z) 0)) :=
  (end_yes w0 b j 0 h.2.1 h.1 h.L hj q).mono fun _ _ k => ⟨k.1, k.2.2.1, k.2.1, k.2.2.2, h.2.2.1.less hj q, h.2.2.2.1, by omega⟩
theorem row_set {j : Nat} {x : Row} (hj : j < rs.length) : rowAt (rs.set j x) ((j : Int) + 1) = x := by
  rw [rowAt_in (by rw [List.length_set]; exact hj), getD_set hj]
theorem nu_gone {j : Nat} {x : Row} (h : Num w0 w b most i (rs.set j (endR x 0))) (hj : j < rs.length) : Calls Try.prog 19 #[.pointer (some ⟨b, 0, none⟩), .int .i64 ((j : Int) + 1), .int .i64 0] w fun e w' => e = .returned (.bool false) ∧ Below w.heap.size w w' ∧ Num w0 w' b most i (rs.set j (endR x 0)) :=
  (end_no _ 0 h.1.tv h.L (by rw [row_set hj]; rfl)).mono fun _ _ k => ⟨k.1, k.2, h.below k.2⟩
theorem nu_state {j : Nat} {x : Row} (h : Num w0 w b most i (rs.set j (endR x 0))) (hj : j < rs.length) : Calls Try.prog 24 #[.pointer (some ⟨b, 0, none⟩), .int .i64 ((j : Int) + 1)] w fun e w' => e = .returned (.int .i64 3) ∧ Num w0 w' b most i (rs.set j (endR x 0)) :=
  (state_any _ h.1.tv h.L).mono fun _ _ k => ⟨by rw [k.1, row_set hj]; rfl, h.below k.2⟩
end

end Go.Proofs.Ytfllnpfikdhdbaa.PProcs
