import Derived.Test.YtdgaklldijkoaaaPCodex0
import Derived.Test.YtdgaklldijkoaaaCodeL
import Derived.Test.YtdgaklldijkoaaaPCodex9
import Derived.Test.YtdgaklldijkoaaaPCodex7
import Derived.Test.YtdgaklldijkoaaaPCodex5
import Derived.Test.YtdgaklldijkoaaaEv
import Derived.BigQuiet
import Derived.IntWalk
import Derived.WalkMore
import Derived.Laws.EntriesVeiled
import Derived.StillTailTactics
import Derived.Laws.BitsAllLaws
import Derived.Laws.BitsLemmas
import Derived.Laws.Strings
import Derived.Lib.SlBytesConst
namespace Go.Proofs.Ytdgaklldijkoaaa.PCode
open Go.RowKit Go.Proofs.YtdgaklldijkoaaaW.PrintWords Go.Proofs.YtdgaklldijkoaaaW.PrintLast Go.Proofs.YtdgaklldijkoaaaW.PrintMore
attribute [local go_sem] max2_int min2_int max_two min_two max_three min_three max_four min_four
set_option linter.unusedVariables false
set_option linter.unusedSimpArgs false
/-! The reference's May and Encode, and Small, out of their printed forms. -/
section
open Go.Proofs.Ytdgaklldijkoaaa.EvKit
theorem put_l (n : Nat) (hn : n ≤ 8) : ∀ (d i : Nat) (b : List Int) (u : Int), n - i = d → i ≤ n → b.length + d ≤ 1000000000 → Ev (fun k => signalboxref1_put.l0 k b (n : Int) u (i : Int)) (b ++ le d u)
  | 0, i, b, u, hd, hi, hb => by
    refine Ev.step (fun k => by rw [signalboxref1_put.l0]) ?_
    exact neg (by omega) (somec (by rw [le, List.append_nil]))
  | d + 1, i, b, u, hd, hi, hb => by
    refine Ev.step (fun k => by rw [signalboxref1_put.l0]) ?_
    refine pos (by omega) (pos (by omega) ?_)
    rw [w64 (by omega) (by omega), show ((i : Int) + 1) = ((i + 1 : Nat) : Int) by omega]
    refine eqr (put_l n hn d (i + 1) (b ++ [u % 256]) (u / 256) (by omega) (by omega) (by rw [List.length_append]; simp; omega)) ?_
    rw [le, List.append_assoc]; rfl
theorem put8 {b : List Int} (x : Int) (hb : b.length ≤ 900000000) : Ev (fun k => signalboxref1_put.f k b x 8) (b ++ num8 x) := put_l 8 (by decide) 8 0 b _ rfl (by decide) (by omega)
theorem put2 {b : List Int} {n : Nat} (hn : n ≤ 1000000) (hb : b.length ≤ 900000000) : Ev (fun k => signalboxref1_put.f k b (n : Int) 2) (b ++ le 2 (n : Int)) := by
  have h := put_l 2 (by decide) 2 0 b (IntKind.u64.wrap (n : Int)) rfl (by decide) (by omega)
  have e : IntKind.u64.wrap (n : Int) = (n : Int) := by
    have e : IntKind.u64.wrap (n : Int) = (n : Int) % 18446744073709551616 := rfl
    rw [e]; omega
  rw [e] at h
  unfold signalboxref1_put.f
  rw [e]
  exact h
theorem rowsB_cons {α : Type} (f : α → List Int) (x : α) (l : List α) : rowsB ((x :: l).map f) = nums8 (f x) ++ rowsB (l.map f) := rfl
theorem rowsB_cons0 (x : List Int) (l : List (List Int)) : rowsB (x :: l) = nums8 x ++ rowsB l := rfl
theorem n1 (a : Int) : nums8 [a] = num8 a := by simp [nums8]
theorem n2 (a b : Int) : nums8 [a, b] = num8 a ++ num8 b := by simp [nums8]
theorem n3 (a b c : Int) : nums8 [a, b, c] = num8 a ++ (num8 b ++ num8 c) := by simp [nums8]
theorem drop_cons' {α : Type} (l : List α) {i : Nat} (h : i < l.length) : l.drop i = l[i] :: l.drop (i + 1) := List.drop_eq_getElem_cons h
theorem puts_l {l : List Int} (hl : l.length ≤ 1000000) : ∀ (d i : Nat) (b : List Int), l.length - i = d → i ≤ l.length → b.length + 8 * d ≤ 900000000 → Ev (fun k => signalboxref1_puts.l0 k b l (i : Int)) (b ++ rowsB ((l.drop i).map (fun x => [x])))
  | 0, i, b, hd, hi, hb => by
    refine Ev.step (fun k => by rw [signalboxref1_puts.l0]) ?_
    exact neg (by omega) (somec (by rw [List.drop_of_length_le (by omega)]; simp [rowsB]))
  | d + 1, i, b, hd, hi, hb => by
    have hil : i < l.length := by omega
    refine Ev.step (fun k => by rw [signalboxref1_puts.l0]) ?_
    refine pos (by omega) (pos (by omega) (bnd (put8 _ (by omega)) ?_))
    rw [w64 (by omega) (by omega), show ((i : Int) + 1) = ((i + 1 : Nat) : Int) by omega]
    refine eqr (puts_l hl d (i + 1) _ (by omega) (by omega) (by rw [List.length_append, num8_len]; omega)) ?_
    rw [drop_cons' l hil, rd_at hil, rowsB_cons, n1, List.append_assoc]
theorem puts_ev {l b : List Int} (hl : l.length ≤ 1000000) (hb : b.length + 2 + 8 * l.length ≤ 900000000) : Ev (fun k => signalboxref1_puts.f k b l) (b ++ layB (l.map (fun x => [x]))) := by
  unfold signalboxref1_puts.f
  refine bnd (put2 hl (by omega)) ?_
  refine eqr (puts_l hl l.length 0 _ (by omega) (by omega) (by rw [List.length_append, le_len]; omega)) ?_
  unfold layB
  rw [List.drop_zero, List.append_assoc, List.length_map]
theorem rdX {α : Type} {l : List α} {d : α} {i : Nat} (h : i < l.length) : l.getD ((i : Int)).toNat d = l[i] := by
  rw [Int.toNat_natCast, List.getD_eq_getElem?_getD, List.getElem?_eq_getElem h]; rfl
section
variable (p : Pg) (hk : p.Ok)
include hk
theorem enc_l5 : ∀ (d i : Nat) (b : List Int), p.h.length - i = d → i ≤ p.h.length → b.length + 16 * d ≤ 800000000 → Ev (fun k => signalboxref1_Encode.l5 k b (i : Int) p.a p.b p.c p.d p.e p.f p.g p.h p.i) (b ++ (rowsB ((p.h.drop i).map toL65) ++ num8 p.i), 0)
  | 0, i, b, hd, hi, hb => by
    have h1 := hk.a
    have h2 := hk.b
    have h3 := hk.c
    have h4 := hk.e
    have h5 := hk.f
    have h6 := hk.g
    refine Ev.step (fun k => by rw [signalboxref1_Encode.l5]) ?_
    refine neg (by omega) (bnd (put8 _ (by omega)) (somec ?_))
    rw [List.drop_of_length_le (show p.h.length ≤ i by omega)]
    simp [rowsB]
  | d + 1, i, b, hd, hi, hb => by
    have h1 := hk.a
    have h2 := hk.b
    have h3 := hk.c
    have h7 := hk.h
    have hil : i < p.h.length := by omega
    have e : rd_T65 p.h (i : Int) = p.h[i] := rdX hil
    refine Ev.step (fun k => by rw [signalboxref1_Encode.l5]) ?_
    rw [e]
    refine pos (by omega) (pos (by omega) (bnd (put8 _ (by omega)) (bnd (put8 _ (by rw [List.length_append, num8_len]; omega)) ?_)))
    rw [w64 (by omega) (by omega), show ((i : Int) + 1) = ((i + 1 : Nat) : Int) by omega]
    refine eqr (enc_l5 d (i + 1) _ (by omega) (by omega) (by simp only [List.length_append, num8_len]; omega)) ?_
    rw [drop_cons' _ hil, rowsB_cons, toL65, n2]
    simp only [List.append_assoc]
theorem enc_l4 {j : Nat} (hj : j < p.g.length) (r : List Int × Int) : ∀ (d i : Nat) (b : List Int), (p.g[j]).length - i = d → i ≤ (p.g[j]).length → b.length + 8 * d ≤ 800000000 → Ev (fun k => signalboxref1_Encode.l3 k (b ++ nums8 ((p.g[j]).drop i)) ((j + 1 : Nat) : Int) p.a p.b p.c p.d p.e p.f p.g p.h p.i) r → Ev (fun k => signalboxref1_Encode.l4 k b (j : Int) (i : Int) p.a p.b p.c p.d p.e p.f p.g p.h p.i) r
  | 0, i, b, hd, hi, hb, hr => by
    have e : rd_L1 p.g (j : Int) = p.g[j] := rdX hj
    have hg := hk.g
    refine Ev.step (fun k => by rw [signalboxref1_Encode.l4]) ?_
    rw [e]
    refine pos (by omega) (pos (by omega) (neg (by omega) ?_))
    rw [w64 (by omega) (by omega), show ((j : Int) + 1) = ((j + 1 : Nat) : Int) by omega]
    rw [List.drop_of_length_le (by omega), show nums8 [] = [] from rfl, List.append_nil] at hr
    exact hr
  | d + 1, i, b, hd, hi, hb, hr => by
    have e : rd_L1 p.g (j : Int) = p.g[j] := rdX hj
    have hg := hk.g
    have hl : (p.g[j]).length ≤ 6 := by rw [hk.v _ (List.getElem_mem hj)]; exact hk.f
    have hil : i < (p.g[j]).length := by omega
    refine Ev.step (fun k => by rw [signalboxref1_Encode.l4]) ?_
    rw [e]
    refine pos (by omega) (pos (by omega) (pos (by omega) (pos (by omega) (bnd (put8 _ (by omega)) ?_))))
    rw [w64 (by omega) (by omega), show ((i : Int) + 1) = ((i + 1 : Nat) : Int) by omega]
    refine enc_l4 hj r d (i + 1) _ (by omega) (by omega) (by rw [List.length_append, num8_len]; omega) ?_
    rw [rd_at hil, List.append_assoc]
    rw [drop_cons' _ hil] at hr
    exact hr
theorem enc_l3 : ∀ (d i : Nat) (b : List Int), p.g.length - i = d → i ≤ p.g.length → b.length + 48 * d ≤ 700000000 → Ev (fun k => signalboxref1_Encode.l3 k b (i : Int) p.a p.b p.c p.d p.e p.f p.g p.h p.i) (b ++ (rowsB (p.g.drop i) ++ (layB (p.h.map toL65) ++ num8 p.i)), 0)
  | 0, i, b, hd, hi, hb => by
    have hh := hk.h
    refine Ev.step (fun k => by rw [signalboxref1_Encode.l3]) ?_
    refine neg (by omega) (bnd (put2 (n := p.h.length) (by omega) (by omega)) ?_)
    refine eqr (enc_l5 p hk p.h.length 0 _ (by omega) (by omega) (by rw [List.length_append, le_len]; omega)) ?_
    rw [List.drop_of_length_le (show p.g.length ≤ i by omega), List.drop_zero]
    unfold layB
    rw [List.length_map]
    simp [rowsB]
  | d + 1, i, b, hd, hi, hb => by
    have hg := hk.g
    have hil : i < p.g.length := by omega
    have hl : (p.g[i]).length ≤ 6 := by rw [hk.v _ (List.getElem_mem hil)]; exact hk.f
    refine Ev.step (fun k => by rw [signalboxref1_Encode.l3]) ?_
    refine pos (by omega) ?_
    refine enc_l4 p hk hil _ (p.g[i]).length 0 b (by omega) (by omega) (by omega) ?_
    refine eqr (enc_l3 d (i + 1) _ (by omega) (by omega) (by rw [List.length_append, nums8_len, List.length_drop]; omega)) ?_
    rw [List.drop_zero, drop_cons' _ hil, rowsB_cons0]
    simp only [List.append_assoc]
theorem enc_l2 : ∀ (d i : Nat) (b : List Int), p.c.length - i = d → i ≤ p.c.length → b.length + 16 * d ≤ 600000000 → Ev (fun k => signalboxref1_Encode.l2 k b (i : Int) p.a p.b p.c p.d p.e p.f p.g p.h p.i) (b ++ (rowsB ((p.c.drop i).map toL56) ++ (num8 p.d ++ (layB (p.e.map (fun x => [x])) ++ (layB (p.f.map (fun x => [x])) ++ (layB p.g ++ (layB (p.h.map toL65) ++ num8 p.i)))))), 0)
  | 0, i, b, hd, hi, hb => by
    have h1 := hk.a
    have h2 := hk.b
    have h3 := hk.c
    have h4 := hk.e
    have h5 := hk.f
    have h6 := hk.g
    refine Ev.step (fun k => by rw [signalboxref1_Encode.l2]) ?_
    have l1 := layB_len 1 _ (map_le (fun x : Int => [x]) 1 (fun _ => rfl) p.e)
    have l2 := layB_len 1 _ (map_le (fun x : Int => [x]) 1 (fun _ => rfl) p.f)
    rw [List.length_map] at l1 l2
    refine neg (by omega) (bnd (put8 _ (by omega)) (bnd (puts_ev (by omega) (by rw [List.length_append, num8_len]; omega)) (bnd (puts_ev (by omega) (by rw [List.length_append, List.length_append, num8_len]; omega)) (bnd (put2 (n := p.g.length) (by omega) (by rw [List.length_append, List.length_append, List.length_append, num8_len]; omega)) ?_))))
    refine eqr (enc_l3 p hk p.g.length 0 _ (by omega) (by omega) (by rw [List.length_append, List.length_append, List.length_append, List.length_append, num8_len, le_len]; omega)) ?_
    rw [List.drop_of_length_le (show p.c.length ≤ i by omega), List.drop_zero]
    conv => rhs; unfold layB
    conv => lhs; unfold layB
    simp [rowsB]
  | d + 1, i, b, hd, hi, hb => by
    have h1 := hk.a
    have h2 := hk.b
    have h3 := hk.c
    have h7 := hk.h
    have hil : i < p.c.length := by omega
    have e : rd_T56 p.c (i : Int) = p.c[i] := rdX hil
    refine Ev.step (fun k => by rw [signalboxref1_Encode.l2]) ?_
    rw [e]
    refine pos (by omega) (pos (by omega) (bnd (put8 _ (by omega)) (bnd (put8 _ (by rw [List.length_append, num8_len]; omega)) ?_)))
    rw [w64 (by omega) (by omega), show ((i : Int) + 1) = ((i + 1 : Nat) : Int) by omega]
    refine eqr (enc_l2 d (i + 1) _ (by omega) (by omega) (by simp only [List.length_append, num8_len]; omega)) ?_
    rw [drop_cons' _ hil, rowsB_cons, toL56, n2]
    simp only [List.append_assoc]
theorem enc_l1 : ∀ (d i : Nat) (b : List Int), p.b.length - i = d → i ≤ p.b.length → b.length + 24 * d ≤ 500000000 → Ev (fun k => signalboxref1_Encode.l1 k b (i : Int) p.a p.b p.c p.d p.e p.f p.g p.h p.i) (b ++ (rowsB ((p.b.drop i).map toL46) ++ (layB (p.c.map toL56) ++ (num8 p.d ++ (layB (p.e.map (fun x => [x])) ++ (layB (p.f.map (fun x => [x])) ++ (layB p.g ++ (layB (p.h.map toL65) ++ num8 p.i))))))), 0)
  | 0, i, b, hd, hi, hb => by
    have h1 := hk.a
    have h2 := hk.b
    have h3 := hk.c
    have h4 := hk.e
    have h5 := hk.f
    have h6 := hk.g
    refine Ev.step (fun k => by rw [signalboxref1_Encode.l1]) ?_
    refine neg (by omega) (bnd (put2 (n := p.c.length) (by omega) (by omega)) ?_)
    refine eqr (enc_l2 p hk p.c.length 0 _ (by omega) (by omega) (by rw [List.length_append, le_len]; omega)) ?_
    rw [List.drop_of_length_le (show p.b.length ≤ i by omega), List.drop_zero]
    conv => rhs; rw [show layB (p.c.map toL56) = le 2 (p.c.length : Int) ++ rowsB (p.c.map toL56) by unfold layB; rw [List.length_map]]
    simp [rowsB]
  | d + 1, i, b, hd, hi, hb => by
    have h1 := hk.a
    have h2 := hk.b
    have h3 := hk.c
    have h7 := hk.h
    have hil : i < p.b.length := by omega
    have e : rd_T46 p.b (i : Int) = p.b[i] := rdX hil
    refine Ev.step (fun k => by rw [signalboxref1_Encode.l1]) ?_
    rw [e]
    refine pos (by omega) (pos (by omega) (bnd (put8 _ (by omega)) (bnd (put8 _ (by rw [List.length_append, num8_len]; omega)) (bnd (put8 _ (by rw [List.length_append, List.length_append, num8_len, num8_len]; omega)) ?_))))
    rw [w64 (by omega) (by omega), show ((i : Int) + 1) = ((i + 1 : Nat) : Int) by omega]
    refine eqr (enc_l1 d (i + 1) _ (by omega) (by omega) (by simp only [List.length_append, num8_len]; omega)) ?_
    rw [drop_cons' _ hil, rowsB_cons, toL46, n3]
    simp only [List.append_assoc]
theorem enc_l0 : ∀ (d i : Nat) (b : List Int), p.a.length - i = d → i ≤ p.a.length → b.length + 24 * d ≤ 400000000 → Ev (fun k => signalboxref1_Encode.l0 k b (i : Int) p.a p.b p.c p.d p.e p.f p.g p.h p.i) (b ++ (rowsB ((p.a.drop i).map toL44) ++ (layB (p.b.map toL46) ++ (layB (p.c.map toL56) ++ (num8 p.d ++ (layB (p.e.map (fun x => [x])) ++ (layB (p.f.map (fun x => [x])) ++ (layB p.g ++ (layB (p.h.map toL65) ++ num8 p.i)))))))), 0)
  | 0, i, b, hd, hi, hb => by
    have h1 := hk.a
    have h2 := hk.b
    have h3 := hk.c
    have h4 := hk.e
    have h5 := hk.f
    have h6 := hk.g
    refine Ev.step (fun k => by rw [signalboxref1_Encode.l0]) ?_
    refine neg (by omega) (bnd (put2 (n := p.b.length) (by omega) (by omega)) ?_)
    refine eqr (enc_l1 p hk p.b.length 0 _ (by omega) (by omega) (by rw [List.length_append, le_len]; omega)) ?_
    rw [List.drop_of_length_le (show p.a.length ≤ i by omega), List.drop_zero]
    conv => rhs; rw [show layB (p.b.map toL46) = le 2 (p.b.length : Int) ++ rowsB (p.b.map toL46) by unfold layB; rw [List.length_map]]
    simp [rowsB]
  | d + 1, i, b, hd, hi, hb => by
    have h1 := hk.a
    have h2 := hk.b
    have h3 := hk.c
    have h7 := hk.h
    have hil : i < p.a.length := by omega
    have e : rd_T44 p.a (i : Int) = p.a[i] := rdX hil
    refine Ev.step (fun k => by rw [signalboxref1_Encode.l0]) ?_
    rw [e]
    refine pos (by omega) (pos (by omega) (bnd (put8 _ (by omega)) (bnd (put8 _ (by rw [List.length_append, num8_len]; omega)) (bnd (put8 _ (by rw [List.length_append, List.length_append, num8_len, num8_len]; omega)) ?_))))
    rw [w64 (by omega) (by omega), show ((i : Int) + 1) = ((i + 1 : Nat) : Int) by omega]
    refine eqr (enc_l0 d (i + 1) _ (by omega) (by omega) (by simp only [List.length_append, num8_len]; omega)) ?_
    rw [drop_cons' _ hil, rowsB_cons, toL44, n3]
    simp only [List.append_assoc]
end
theorem may_l {p : Pg} (hg : p.g.length ≤ 1000) : ∀ (d i : Nat), p.g.length - i = d → i ≤ p.g.length → Ev (fun k => signalboxref1_May.l0 k (i : Int) p.a p.b p.c p.d p.e p.f p.g p.h p.i) (!oddB p.f.length (p.g.drop i))
  | 0, i, hd, hi => by
    refine Ev.step (fun k => by rw [signalboxref1_May.l0]) ?_
    exact neg (by omega) (somec (by rw [List.drop_of_length_le (by omega)]; rfl))
  | d + 1, i, hd, hi => by
    have hil : i < p.g.length := by omega
    have e : rd_L1 p.g (i : Int) = p.g[i] := rdX hil
    refine Ev.step (fun k => by rw [signalboxref1_May.l0]) ?_
    rw [e]
    have hs : oddB p.f.length (p.g.drop i) = (decide ((p.g[i]).length ≠ p.f.length) || oddB p.f.length (p.g.drop (i + 1))) := by rw [drop_cons' _ hil]; rfl
    refine pos (by omega) (pos (by omega) (ite (fun h => ?_) (fun h => ?_)))
    · rw [w64 (by omega) (by omega), show ((i : Int) + 1) = ((i + 1 : Nat) : Int) by omega]
      refine eqr (may_l hg d (i + 1) (by omega) (by omega)) ?_
      rw [hs, decide_eq_false (by omega), Bool.false_or]
    · refine somec ?_
      rw [hs, decide_eq_true (by omega), Bool.true_or]; rfl
theorem rmay (p : Pg) : Ev (fun k => signalboxref1_May.f k p.a p.b p.c p.d p.e p.f p.g p.h p.i) p.may := by
  have far : p.may = false → Ev (fun k => signalboxref1_May.j0 k true p.a p.b p.c p.d p.e p.f p.g p.h p.i) p.may := fun h => by
    refine Ev.step (fun k => by rw [signalboxref1_May.j0]) ?_
    exact pos rfl (somec h.symm)
  unfold signalboxref1_May.f
  refine ite (fun h => far (by simp [Pg.may]; intros; omega)) (fun h1 => ite (fun h => far (by simp [Pg.may]; intros; omega)) (fun h2 => ite (fun h => far (by simp [Pg.may]; intros; omega)) (fun h3 => ite (fun h => far (by simp [Pg.may]; intros; omega)) (fun h4 => ite (fun h => far (by simp [Pg.may]; intros; omega)) (fun h5 => ite (fun h => far (by simp [Pg.may]; intros; omega)) (fun h6 => ite (fun h => far (by simp [Pg.may]; intros; omega)) (fun h7 => ?_)))))))
  by_cases h8 : (p.h.length : Int) > 1000
  · rw [decide_eq_true h8]
    exact far (by simp [Pg.may]; intros; omega)
  · rw [decide_eq_false h8]
    refine Ev.step (fun k => by rw [signalboxref1_May.j0]) ?_
    refine neg (by decide) ?_
    refine eqr (may_l (by omega) p.g.length 0 (by omega) (by omega)) ?_
    rw [List.drop_zero]
    unfold Pg.may
    rw [decide_eq_true (show p.a.length ≤ 5000 by omega), decide_eq_true (show 1 ≤ p.b.length by omega), decide_eq_true (show p.b.length ≤ 13 by omega), decide_eq_true (show p.c.length ≤ 16 by omega), decide_eq_true (show p.e.length ≤ 8 by omega), decide_eq_true (show p.f.length ≤ 6 by omega), decide_eq_true (show p.g.length ≤ 1000 by omega), decide_eq_true (show p.h.length ≤ 1000 by omega)]
    rfl
theorem rencode (p : Pg) : Ev (fun k => signalboxref1_Encode.f k p.a p.b p.c p.d p.e p.f p.g p.h p.i) (encP p) := by
  unfold signalboxref1_Encode.f encP
  refine bnd (rmay p) ?_
  by_cases hm : p.may = true
  · rw [if_pos hm]
    have hk := Pg.may_ok.1 hm
    have h1 := hk.a
    refine pos hm (bnd (put2 (n := p.a.length) (by omega) (by decide)) ?_)
    refine eqr (enc_l0 p hk p.a.length 0 _ (by omega) (by omega) (by rw [List.length_append, le_len]; simp; omega)) ?_
    rw [List.drop_zero]
    unfold encB
    conv => rhs; rw [show layB (p.a.map toL44) = le 2 (p.a.length : Int) ++ rowsB (p.a.map toL44) by unfold layB; rw [List.length_map]]
    simp only [List.append_assoc]
  · rw [if_neg hm]
    exact neg hm (somec rfl)
/-- Small answers. -/
theorem small_l {p : Pg} {most : Int} (hg : p.g.length ≤ 9223372036854775807) : ∀ (d i : Nat) (n : Int), p.g.length - i = d → i ≤ p.g.length → ∃ r, Ev (fun k => signalboxmake_Small.l0 k most n (i : Int) p.a p.b p.c p.d p.e p.f p.g p.h p.i) r
  | 0, i, n, hd, hi => by
    refine ⟨true, ?_⟩
    refine Ev.step (fun k => by rw [signalboxmake_Small.l0]) ?_
    exact neg (by omega) (somec rfl)
  | d + 1, i, n, hd, hi => by
    have hil : i < p.g.length := by omega
    by_cases q : (wrap64 (n + ((rd_L1 p.g (i : Int)).length : Int))) > most
    · refine ⟨false, ?_⟩
      refine Ev.step (fun k => by rw [signalboxmake_Small.l0]) ?_
      exact pos (by omega) (pos (by omega) (pos q (somec rfl)))
    · obtain ⟨r, hr⟩ := small_l hg d (i + 1) (wrap64 (n + ((rd_L1 p.g (i : Int)).length : Int))) (by omega) (by omega)
      refine ⟨r, ?_⟩
      refine Ev.step (fun k => by rw [signalboxmake_Small.l0]) ?_
      refine pos (by omega) (pos (by omega) (neg q ?_))
      rw [w64 (x := (i : Int) + 1) (by omega) (by omega), show ((i : Int) + 1) = ((i + 1 : Nat) : Int) by omega]
      exact hr
theorem small_ev (p : Pg) (most : Int) (hg : p.g.length ≤ 9223372036854775807) : ∃ r, Ev (fun k => signalboxmake_Small.f k p.a p.b p.c p.d p.e p.f p.g p.h p.i most) r := by
  unfold signalboxmake_Small.f
  generalize (wrap64 ((wrap64 ((wrap64 ((wrap64 ((wrap64 ((wrap64 ((p.a.length : Int) + (p.b.length : Int))) + (p.c.length : Int))) + (p.e.length : Int))) + (p.f.length : Int))) + (p.g.length : Int))) + (p.h.length : Int))) = n
  by_cases q : n > most
  · exact ⟨false, pos q (somec rfl)⟩
  · obtain ⟨r, hr⟩ := small_l (p := p) (most := most) hg p.g.length 0 n (by omega) (by omega)
    exact ⟨r, neg q hr⟩
end
/-! The contracts of the printed ones. -/
theorem small_any {w : World} {v : Value} {p : Pg} {most : Int} {r : Bool} (h : PR w v p) (hr : Ev (fun k => signalboxmake_Small.f k p.a p.b p.c p.d p.e p.f p.g p.h p.i most) r) : Calls Try.prog 8 #[v, .int .i64 most] w fun e w' => e = .returned (.bool r) ∧ Below w.heap.size w w' := by
  obtain ⟨A0, c0, A1, c1, A2, c2, A4, c4, A5, c5, A6, c6, A7, c7, rfl, x⟩ := h
  obtain ⟨k, hk⟩ := Ev.rounds hr
  exact signalboxmake_Small.calls k A0 c0 p.a A1 c1 p.b A2 c2 p.c p.d A4 c4 p.e A5 c5 p.f A6 c6 p.g A7 c7 p.h p.i most r w x.a.2 x.a.1 x.b.2 x.b.1 x.c.2 x.c.1 x.e.2 x.e.1 x.f.2 x.f.1 x.g.2 x.g.1 x.h.2 x.h.1 hk
theorem rmay_any {w : World} {v : Value} {p : Pg} (h : PR w v p) : Calls Try.prog 13 #[v] w fun e w' => e = .returned (.bool p.may) ∧ Below w.heap.size w w' := by
  obtain ⟨A0, c0, A1, c1, A2, c2, A4, c4, A5, c5, A6, c6, A7, c7, rfl, x⟩ := h
  obtain ⟨k, hk⟩ := Ev.rounds (rmay p)
  exact signalboxref1_May.calls k A0 c0 p.a A1 c1 p.b A2 c2 p.c p.d A4 c4 p.e A5 c5 p.f A6 c6 p.g A7 c7 p.h p.i _ w x.a.2 x.a.1 x.b.2 x.b.1 x.c.2 x.c.1 x.e.2 x.e.1 x.f.2 x.f.1 x.g.2 x.g.1 x.h.2 x.h.1 hk
theorem rencode_any {w : World} {v : Value} {p : Pg} (h : PR w v p) : Calls Try.prog 11 #[v] w fun e w' => (∃ A c, e = .returned (.tuple #[.slice A (encP p).1.length c, .int .i64 (encP p).2]) ∧ (encP p).1.length ≤ c ∧ Kd.C (Kd.int .u8) w' A (encP p).1.length (encP p).1) ∧ Below w.heap.size w w' := by
  obtain ⟨A0, c0, A1, c1, A2, c2, A4, c4, A5, c5, A6, c6, A7, c7, rfl, x⟩ := h
  obtain ⟨k, hk⟩ := Ev.rounds (rencode p)
  refine (signalboxref1_Encode.calls k A0 c0 p.a A1 c1 p.b A2 c2 p.c p.d A4 c4 p.e A5 c5 p.f A6 c6 p.g A7 c7 p.h p.i _ _ w x.a.2 x.a.1 x.b.2 x.b.1 x.c.2 x.c.1 x.e.2 x.e.1 x.f.2 x.f.1 x.g.2 x.g.1 x.h.2 x.h.1 hk).mono ?_
  rintro e w' ⟨v, rfl, k2, k3⟩
  obtain ⟨A, c, e2, k4, k5⟩ := Kd.R_reads k2
  subst e2
  exact ⟨⟨A, c, rfl, k4, k5⟩, k3⟩

end Go.Proofs.Ytdgaklldijkoaaa.PCode
