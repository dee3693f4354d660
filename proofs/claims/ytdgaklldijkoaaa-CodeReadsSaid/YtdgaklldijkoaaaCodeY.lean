import Derived.Test.YtdgaklldijkoaaaPCodex0
import Derived.Test.YtdgaklldijkoaaaCodeR
import Derived.Test.YtdgaklldijkoaaaPCodex7
import Derived.Test.YtdgaklldijkoaaaCodeDc
import Derived.Test.YtdgaklldijkoaaaEv
import Derived.BigQuiet
import Derived.IntWalk
import Derived.WalkMore
import Derived.Laws.EntriesVeiled
import Derived.StillTailTactics
import Derived.Laws.BitsAllLaws
import Derived.Laws.BitsLemmas
import Derived.Laws.Strings
namespace Go.Proofs.Ytdgaklldijkoaaa.PCode
open Go.RowKit Go.Proofs.YtdgaklldijkoaaaW.PrintWords Go.Proofs.YtdgaklldijkoaaaW.PrintLast Go.Proofs.YtdgaklldijkoaaaW.PrintMore
attribute [local go_sem] max2_int min2_int max_two min_two max_three min_three max_four min_four
set_option linter.unusedVariables false
set_option linter.unusedSimpArgs false
/-! The reference's May, as printed. -/
section
open Go.Proofs.Ytdgaklldijkoaaa.EvKit
theorem may_l {p : Pg} (hg : p.g.length ≤ 1000) : ∀ (d i : Nat), p.g.length - i = d → i ≤ p.g.length → Ev (fun k => signalboxref1_May.l0 k (i : Int) p.a p.b p.c p.d p.e p.f p.g p.h p.i) (!oddB p.f.length (p.g.drop i))
  | 0, i, hd, hi => by
    refine Ev.step (fun k => by rw [signalboxref1_May.l0]) ?_
    exact neg (by omega) (somec (by rw [List.drop_of_length_le (by omega)]; rfl))
  | d + 1, i, hd, hi => by
    have hil : i < p.g.length := by omega
    have e : rd_L1 p.g (i : Int) = p.g[i] := rdX hil
    refine Ev.step (fun k => by rw [signalboxref1_May.l0]) ?_
    rw [e]
    have hs : oddB p.f.length (p.g.drop i) = (decide ((p.g[i]).length ≠ p.f.length) || oddB p.f.length (p.g.drop (i + 1))) := by rw [drop_cons' _ hil]; rfl
    refine pos (by omega) (pos (by omega) (ite (fun h => ?_) (fun h => ?_)))
    · rw [w64 (by omega) (by omega), show ((i : Int) + 1) = ((i + 1 : Nat) : Int) by omega]
      refine eqr (may_l hg d (i + 1) (by omega) (by omega)) ?_
      rw [hs, decide_eq_false (by omega), Bool.false_or]
    · refine somec ?_
      rw [hs, decide_eq_true (by omega), Bool.true_or]; rfl
theorem rmay (p : Pg) : Ev (fun k => signalboxref1_May.f k p.a p.b p.c p.d p.e p.f p.g p.h p.i) p.may := by
  have far : p.may = false → Ev (fun k => signalboxref1_May.j0 k true p.a p.b p.c p.d p.e p.f p.g p.h p.i) p.may := fun h => by
    refine Ev.step (fun k => by rw [signalboxref1_May.j0]) ?_
    exact pos rfl (somec h.symm)
  unfold signalboxref1_May.f
  refine ite (fun h => far (by simp [Pg.may]; intros; omega)) (fun h1 => ite (fun h => far (by simp [Pg.may]; intros; omega)) (fun h2 => ite (fun h => far (by simp [Pg.may]; intros; omega)) (fun h3 => ite (fun h => far (by simp [Pg.may]; intros; omega)) (fun h4 => ite (fun h => far (by simp [Pg.may]; intros; omega)) (fun h5 => ite (fun h => far (by simp [Pg.may]; intros; omega)) (fun h6 => ite (fun h => far (by simp [Pg.may]; intros; omega)) (fun h7 => ?_)))))))
  by_cases h8 : (p.h.length : Int) > 1000
  · rw [decide_eq_true h8]
    exact far (by simp [Pg.may]; intros; omega)
  · rw [decide_eq_false h8]
    refine Ev.step (fun k => by rw [signalboxref1_May.j0]) ?_
    refine neg (by decide) ?_
    refine eqr (may_l (by omega) p.g.length 0 (by omega) (by omega)) ?_
    rw [List.drop_zero]
    unfold Pg.may
    rw [decide_eq_true (show p.a.length ≤ 5000 by omega), decide_eq_true (show 1 ≤ p.b.length by omega), decide_eq_true (show p.b.length ≤ 13 by omega), decide_eq_true (show p.c.length ≤ 16 by omega), decide_eq_true (show p.e.length ≤ 8 by omega), decide_eq_true (show p.f.length ≤ 6 by omega), decide_eq_true (show p.g.length ≤ 1000 by omega), decide_eq_true (show p.h.length ≤ 1000 by omega)]
    rfl
end
/-! The reference's reading, out of its printed form. -/
section
open Go.Proofs.Ytdgaklldijkoaaa.EvKit
/-- How far the cursor is. -/
def At (b : List Int) (s : RS) : Int := ((b.length - s.1.length : Nat) : Int)
theorem suf_get {b : List Int} {s : RS} (h : s.1 <:+ b) (k : Nat) : (rgetS k s).1 <:+ b := by
  unfold rgetS
  split
  · exact h
  · exact (List.drop_suffix k s.1).trans h
theorem suf_byt {b : List Int} {s : RS} (h : s.1 <:+ b) (hy : Byt b) : Byt s.1 := fun x hx => hy x (h.subset hx)
theorem u64_id {x : Int} (h0 : 0 ≤ x) (h1 : x < 18446744073709551616) : IntKind.u64.wrap x = x := by
  have e : IntKind.u64.wrap x = x % 18446744073709551616 := rfl
  rw [e]; omega
theorem or_up {a x : Int} (h0 : 0 ≤ a) (h1 : a < 72057594037927936) (h2 : 0 ≤ x) (h3 : x ≤ 255) : Go.bits .or .u64 (IntKind.u64.wrap (a * 256)) (IntKind.u64.wrap x) = x + 256 * a := by
  rw [u64_id (by omega) (by omega), u64_id h2 (by omega)]
  obtain ⟨A, rfl⟩ := Int.eq_ofNat_of_zero_le h0
  obtain ⟨X, rfl⟩ := Int.eq_ofNat_of_zero_le h2
  have e : ((A : Int) * 256) = ((A * 256 : Nat) : Int) := by simp
  rw [e, u64_or_nat _ _ (by omega) (by omega), nat_join8 _ _ (by omega) (by omega)]
  omega
theorem num_l {b : List Int} {s : RS} {n : Nat} (hy : Byt b) (hb : b.length ≤ 3000) (hs : s.1 <:+ b) (hn : n ≤ 8) (hl : n ≤ s.1.length) : ∀ i : Nat, i ≤ n →
    Ev (fun k => signalboxref1_Cursor_num.l0 k (n : Int) (fromLE ((s.1.take n).drop i)) ((i : Int) - 1) b (At b s) false) (wrap64 (fromLE (s.1.take n)), At b (s.1.drop n, false), false)
  | 0, hi => by
    refine Ev.step (fun k => by rw [signalboxref1_Cursor_num.l0]) ?_
    have hle := hs.length_le
    refine neg (by omega) (somec ?_)
    rw [List.drop_zero]
    have e : wrap64 (At b s + (n : Int)) = At b (s.1.drop n, false) := by
      unfold At
      rw [w64 (by omega) (by omega)]
      simp only [List.length_drop]
      omega
    rw [e]
  | i + 1, hi => by
    have hle := hs.length_le
    refine Ev.step (fun k => by rw [signalboxref1_Cursor_num.l0]) ?_
    have ei : ((i + 1 : Nat) : Int) - 1 = (i : Int) := by omega
    rw [ei]
    have ea : wrap64 (At b s + (i : Int)) = ((b.length - s.1.length + i : Nat) : Int) := by
      unfold At
      rw [w64 (by omega) (by omega)]
      omega
    rw [ea]
    have hil : b.length - s.1.length + i < b.length := by omega
    have his : i < s.1.length := by omega
    have er : rd b ((b.length - s.1.length + i : Nat) : Int) = s.1[i] := by
      rw [rd_at hil]
      obtain ⟨t, rfl⟩ := hs
      simp only [List.length_append, Nat.add_sub_cancel]
      rw [List.getElem_append_right (by omega)]
      congr 1
      omega
    rw [er]
    have hx := suf_byt hs hy s.1[i] (List.getElem_mem his)
    have hit : i < (s.1.take n).length := by rw [List.length_take]; omega
    have ed : (s.1.take n).drop i = s.1[i] :: (s.1.take n).drop (i + 1) := by
      rw [List.drop_eq_getElem_cons hit, List.getElem_take]
    have hbd := fromLE_bd ((s.1.take n).drop (i + 1)) (((suf_byt hs hy).take n).drop _)
    have hln : ((s.1.take n).drop (i + 1)).length ≤ 7 := by rw [List.length_drop, List.length_take]; omega
    have hp : (256 : Int) ^ ((s.1.take n).drop (i + 1)).length ≤ 72057594037927936 := by
      have h : 256 ^ ((s.1.take n).drop (i + 1)).length ≤ 72057594037927936 := Nat.pow_le_pow_right (n := 256) (by decide) hln
      have h2 := Int.ofNat_le.mpr h
      rw [Int.natCast_pow] at h2
      exact h2
    have hv : Go.bits .or .u64 (IntKind.u64.wrap (fromLE ((s.1.take n).drop (i + 1)) * 256)) (IntKind.u64.wrap s.1[i]) = fromLE ((s.1.take n).drop i) := by
      rw [or_up hbd.1 (Int.lt_of_lt_of_le hbd.2 hp) hx.1 hx.2, ed, fromLE]
    rw [hv, w64 (x := (i : Int) - 1) (by omega) (by omega)]
    exact pos (by omega) (pos (by omega) (pos (by omega) (num_l hy hb hs hn hl i (by omega))))
theorem num_ev {b : List Int} {s : RS} {n : Nat} (hy : Byt b) (hb : b.length ≤ 3000) (hs : s.1 <:+ b) (hn : n ≤ 8) :
    Ev (fun k => signalboxref1_Cursor_num.f k b (At b s) s.2 (n : Int)) (wrap64 (rgetV n s), At b (rgetS n s), (rgetS n s).2) := by
  have hle := hs.length_le
  have no : (s.2 = true ∨ s.1.length < n) → Ev (fun k => signalboxref1_Cursor_num.j0 k (n : Int) true b (At b s) s.2) (wrap64 (rgetV n s), At b (rgetS n s), (rgetS n s).2) := fun h => by
    refine Ev.step (fun k => by rw [signalboxref1_Cursor_num.j0]) ?_
    refine pos rfl (somec ?_)
    unfold rgetV rgetS
    rw [if_pos h, if_pos h, w64 (x := 0) (by decide) (by decide)]
    rfl
  unfold signalboxref1_Cursor_num.f
  refine ite (fun h => no (.inl h)) (fun h => ?_)
  have h2 : s.2 = false := by simpa using h
  have ew : wrap64 ((b.length : Int) - At b s) = (s.1.length : Int) := by
    unfold At
    rw [w64 (by omega) (by omega)]
    omega
  rw [ew]
  by_cases hl : s.1.length < n
  · rw [decide_eq_true (show (s.1.length : Int) < (n : Int) by omega)]
    exact no (.inr hl)
  · rw [decide_eq_false (show ¬ (s.1.length : Int) < (n : Int) by omega)]
    refine Ev.step (fun k => by rw [signalboxref1_Cursor_num.j0]) ?_
    refine neg (by decide) ?_
    have hq : ¬ (s.2 = true ∨ s.1.length < n) := fun z => z.elim h hl
    unfold rgetV rgetS
    rw [if_neg hq, if_neg hq, w64 (x := (n : Int) - 1) (by omega) (by omega), h2]
    have H := num_l hy hb hs hn (Nat.le_of_not_lt hl) n (Nat.le_refl n)
    rw [List.drop_of_length_le (show (s.1.take n).length ≤ n by rw [List.length_take]; omega)] at H
    exact H
theorem num8_ev {b : List Int} {s : RS} (hy : Byt b) (hb : b.length ≤ 3000) (hs : s.1 <:+ b) : Ev (fun k => signalboxref1_Cursor_num.f k b (At b s) s.2 8) (rnumV s, At b (rnumS s), (rnumS s).2) := num_ev (n := 8) hy hb hs (by decide)
/-- The reference counts what is left. -/
def cntB (m : Nat) (s : RS) : Prop := (rgetS 2 s).2 = true ∨ ((rgetS 2 s).1.length : Int) < rgetV 2 s * m * 8
instance (m : Nat) (s : RS) : Decidable (cntB m s) := inferInstanceAs (Decidable (_ ∨ _))
def cntV (m : Nat) (s : RS) : Int := if cntB m s then 0 else rgetV 2 s
def cntS (m : Nat) (s : RS) : RS := if cntB m s then ((rgetS 2 s).1, true) else rgetS 2 s
theorem suf_cnt {b : List Int} {s : RS} (h : s.1 <:+ b) (m : Nat) : (cntS m s).1 <:+ b := by
  unfold cntS
  split
  · exact suf_get h 2
  · exact suf_get h 2
theorem count_ev {b : List Int} {s : RS} {m : Nat} (hy : Byt b) (hb : b.length ≤ 3000) (hs : s.1 <:+ b) (hm : m ≤ 1000000) :
    Ev (fun k => signalboxref1_Cursor_count.f k b (At b s) s.2 (m : Int)) (cntV m s, At b (cntS m s), (cntS m s).2) := by
  have hv := rget2_bd (suf_byt hs hy)
  have hs2 := suf_get hs 2
  have hle := hs2.length_le
  unfold signalboxref1_Cursor_count.f
  refine bnd (num_ev (n := 2) hy hb hs (by decide)) ?_
  rw [w64 (x := rgetV 2 s) (by omega) (by omega)]
  unfold cntV cntS
  refine ite (fun h => ?_) (fun h => ?_)
  · rw [if_pos (show cntB m s from .inl h), if_pos (show cntB m s from .inl h)]
    exact somec rfl
  · have hmul : 0 ≤ rgetV 2 s * (m : Int) ∧ rgetV 2 s * (m : Int) ≤ 65536 * 1000000 := ⟨Int.mul_nonneg hv.1 (by omega), Int.mul_le_mul (by omega) (by omega) (by omega) (by omega)⟩
    have ew : wrap64 ((b.length : Int) - At b (rgetS 2 s)) = ((rgetS 2 s).1.length : Int) := by
      unfold At
      rw [w64 (by omega) (by omega)]
      omega
    show Ev (fun k => if wrap64 (wrap64 (rgetV 2 s * (m : Int)) * 8) > wrap64 ((b.length : Int) - At b (rgetS 2 s)) then _ else _) _
    rw [ew, w64 (x := rgetV 2 s * (m : Int)) (by omega) (by omega), w64 (x := rgetV 2 s * (m : Int) * 8) (by omega) (by omega)]
    refine ite (fun q => ?_) (fun q => ?_)
    · have hc : cntB m s := .inr (by omega)
      rw [if_pos hc, if_pos hc]
      exact somec rfl
    · have hc : ¬ cntB m s := fun z => z.elim h (fun z => by omega)
      rw [if_neg hc, if_neg hc]
      exact somec rfl
end
/-! The loops of the reference's Decode. -/
section
open Go.Proofs.Ytdgaklldijkoaaa.EvKit
/-- So many rows, read one behind another. -/
def rdV (m : Nat) : Nat → RS → List (List Int)
  | 0, _ => []
  | n + 1, s => rrowV m s :: rdV m n (rrowS m s)
def rdS (m : Nat) : Nat → RS → RS
  | 0, s => s
  | n + 1, s => rdS m n (rrowS m s)
def lstV (m : Nat) (s : RS) : List (List Int) := rdV m (cntV m s).toNat (cntS m s)
def lstS (m : Nat) (s : RS) : RS := rdS m (cntV m s).toNat (cntS m s)
theorem suf_row {b : List Int} : ∀ (m : Nat) {s : RS}, s.1 <:+ b → (rrowS m s).1 <:+ b
  | 0, _, h => h
  | m + 1, s, h => suf_row m (s := rnumS s) (suf_get h 8)
theorem suf_rd {b : List Int} (m : Nat) : ∀ (n : Nat) {s : RS}, s.1 <:+ b → (rdS m n s).1 <:+ b
  | 0, _, h => h
  | n + 1, _, h => suf_rd m n (suf_row m h)
theorem suf_lst {b : List Int} (m : Nat) {s : RS} (h : s.1 <:+ b) : (lstS m s).1 <:+ b := suf_rd m _ (suf_cnt h m)
theorem cnt_bd {b : List Int} {s : RS} (hy : Byt b) (hs : s.1 <:+ b) (m : Nat) : 0 ≤ cntV m s ∧ cntV m s ≤ 65535 := by
  have h := rget2_bd (suf_byt hs hy)
  unfold cntV
  split
  · exact ⟨by decide, by decide⟩
  · omega
theorem rd_len (m : Nat) : ∀ (n : Nat) (s : RS), (rdV m n s).length = n
  | 0, _ => rfl
  | n + 1, s => by rw [rdV, List.length_cons, rd_len m n]
theorem nums_l {b : List Int} (hy : Byt b) (hb : b.length ≤ 3000) : ∀ (n i : Nat) (s : RS) (A : List Int) (N : Int), A.length = i → i + n ≤ 65535 → s.1 <:+ b → N = ((i + n : Nat) : Int) →
    Ev (fun k => signalboxref1_Cursor_nums.l0 k N A (i : Int) b (At b s) s.2) (A ++ (rdV 1 n s).map hd0, At b (rdS 1 n s), (rdS 1 n s).2)
  | 0, i, s, A, N, hA, hi, hs, hN => by
    refine Ev.step (fun k => by rw [signalboxref1_Cursor_nums.l0]) ?_
    refine neg (by omega) (somec ?_)
    rw [rdV, List.map_nil, List.append_nil]; rfl
  | n + 1, i, s, A, N, hA, hi, hs, hN => by
    refine Ev.step (fun k => by rw [signalboxref1_Cursor_nums.l0]) ?_
    rw [w64 (x := (i : Int) + 1) (by omega) (by omega)]
    refine pos (by omega) (bnd (num8_ev hy hb hs) (pos (by omega) ?_))
    have H := nums_l hy hb n (i + 1) (rrowS 1 s) (A ++ [hd0 (rrowV 1 s)]) N (by rw [List.length_append, hA]; rfl) (by omega) (suf_row 1 hs) (by omega)
    rw [List.append_assoc] at H
    exact H
theorem nums_ev {b : List Int} {s : RS} (hy : Byt b) (hb : b.length ≤ 3000) (hs : s.1 <:+ b) : Ev (fun k => signalboxref1_Cursor_nums.f k b (At b s) s.2) ((lstV 1 s).map hd0, At b (lstS 1 s), (lstS 1 s).2) := by
  have hc := cnt_bd hy hs 1
  unfold signalboxref1_Cursor_nums.f
  refine bnd (count_ev (m := 1) hy hb hs (by decide)) ?_
  exact nums_l hy hb (cntV 1 s).toNat 0 (cntS 1 s) [] (cntV 1 s) rfl (by omega) (suf_cnt hs 1) (by omega)
theorem l0_ev {b : List Int} (hy : Byt b) (hb : b.length ≤ 3000) {N : Int}  {R : (List S44) × (List S46) × (List S56) × Int × List Int × List Int × (List (List Int)) × (List S65) × Int × Int} : ∀ (n i : Nat) (s : RS) (A : List S44), A.length = i → i + n ≤ 65535 → s.1 <:+ b → N = ((i + n : Nat) : Int) →
    Ev (fun k => signalboxref1_Decode.l0 k b N N b (At b (rdS 3 n s)) (rdS 3 n s).2  (A ++ (rdV 3 n s).map of44) 0 0) R → Ev (fun k => signalboxref1_Decode.l0 k b N (i : Int) b (At b s) s.2  A 0 0) R
  | 0, i, s, A, hA, hi, hs, hN, H0 => by
    rw [rdV, List.map_nil, List.append_nil, show N = (i : Int) by omega] at H0
    rw [show N = (i : Int) by omega]
    exact H0
  | n + 1, i, s, A, hA, hi, hs, hN, H0 => by
    have H := l0_ev hy hb (N := N) n (i + 1) (rrowS 3 s) (A ++ [of44 (rrowV 3 s)]) (by rw [List.length_append, hA]; rfl) (by omega) (suf_row 3 hs) (by omega) (by rw [List.append_assoc]; exact H0)
    refine Ev.step (fun k => by rw [signalboxref1_Decode.l0]) ?_
    rw [w64 (x := (i : Int) + 1) (by omega) (by omega)]
    exact pos (by omega) (bnd (num8_ev (s := s) hy hb hs) (bnd (num8_ev (s := rnumS s) hy hb (suf_get hs 8)) (bnd (num8_ev (s := rnumS (rnumS s)) hy hb (suf_get (suf_get hs 8) 8)) (pos (by omega) H))))
theorem l1_ev {b : List Int} (hy : Byt b) (hb : b.length ≤ 3000) {N : Int} {A : List S44} {R : (List S44) × (List S46) × (List S56) × Int × List Int × List Int × (List (List Int)) × (List S65) × Int × Int} : ∀ (n i : Nat) (s : RS) (B : List S46), B.length = i → i + n ≤ 65535 → s.1 <:+ b → N = ((i + n : Nat) : Int) →
    Ev (fun k => signalboxref1_Decode.l1 k b N N b (At b (rdS 3 n s)) (rdS 3 n s).2 A (B ++ (rdV 3 n s).map of46) 0 0) R → Ev (fun k => signalboxref1_Decode.l1 k b N (i : Int) b (At b s) s.2 A B 0 0) R
  | 0, i, s, B, hA, hi, hs, hN, H0 => by
    rw [rdV, List.map_nil, List.append_nil, show N = (i : Int) by omega] at H0
    rw [show N = (i : Int) by omega]
    exact H0
  | n + 1, i, s, B, hA, hi, hs, hN, H0 => by
    have H := l1_ev hy hb (N := N) n (i + 1) (rrowS 3 s) (B ++ [of46 (rrowV 3 s)]) (by rw [List.length_append, hA]; rfl) (by omega) (suf_row 3 hs) (by omega) (by rw [List.append_assoc]; exact H0)
    refine Ev.step (fun k => by rw [signalboxref1_Decode.l1]) ?_
    rw [w64 (x := (i : Int) + 1) (by omega) (by omega)]
    exact pos (by omega) (bnd (num8_ev (s := s) hy hb hs) (bnd (num8_ev (s := rnumS s) hy hb (suf_get hs 8)) (bnd (num8_ev (s := rnumS (rnumS s)) hy hb (suf_get (suf_get hs 8) 8)) (pos (by omega) H))))
theorem l2_ev {b : List Int} (hy : Byt b) (hb : b.length ≤ 3000) {N : Int} {A : List S44} {B : List S46} {R : (List S44) × (List S46) × (List S56) × Int × List Int × List Int × (List (List Int)) × (List S65) × Int × Int} : ∀ (n i : Nat) (s : RS) (C : List S56), C.length = i → i + n ≤ 65535 → s.1 <:+ b → N = ((i + n : Nat) : Int) →
    Ev (fun k => signalboxref1_Decode.l2 k b N N b (At b (rdS 2 n s)) (rdS 2 n s).2 A B (C ++ (rdV 2 n s).map of56) 0 0) R → Ev (fun k => signalboxref1_Decode.l2 k b N (i : Int) b (At b s) s.2 A B C 0 0) R
  | 0, i, s, C, hA, hi, hs, hN, H0 => by
    rw [rdV, List.map_nil, List.append_nil, show N = (i : Int) by omega] at H0
    rw [show N = (i : Int) by omega]
    exact H0
  | n + 1, i, s, C, hA, hi, hs, hN, H0 => by
    have H := l2_ev hy hb (N := N) n (i + 1) (rrowS 2 s) (C ++ [of56 (rrowV 2 s)]) (by rw [List.length_append, hA]; rfl) (by omega) (suf_row 2 hs) (by omega) (by rw [List.append_assoc]; exact H0)
    refine Ev.step (fun k => by rw [signalboxref1_Decode.l2]) ?_
    rw [w64 (x := (i : Int) + 1) (by omega) (by omega)]
    exact pos (by omega) (bnd (num8_ev (s := s) hy hb hs) (bnd (num8_ev (s := rnumS s) hy hb (suf_get hs 8)) (pos (by omega) H)))
theorem l5_ev {b : List Int} (hy : Byt b) (hb : b.length ≤ 3000) {N : Int} {A : List S44} {B : List S46} {C : List S56} {d : Int} {E : List Int} {F : List Int} {G : List (List Int)} {R : (List S44) × (List S46) × (List S56) × Int × List Int × List Int × (List (List Int)) × (List S65) × Int × Int} : ∀ (n i : Nat) (s : RS) (H : List S65), H.length = i → i + n ≤ 65535 → s.1 <:+ b → N = ((i + n : Nat) : Int) →
    Ev (fun k => signalboxref1_Decode.l5 k b N N b (At b (rdS 2 n s)) (rdS 2 n s).2 A B C d E F G (H ++ (rdV 2 n s).map of65) 0) R → Ev (fun k => signalboxref1_Decode.l5 k b N (i : Int) b (At b s) s.2 A B C d E F G H 0) R
  | 0, i, s, H, hA, hi, hs, hN, H0 => by
    rw [rdV, List.map_nil, List.append_nil, show N = (i : Int) by omega] at H0
    rw [show N = (i : Int) by omega]
    exact H0
  | n + 1, i, s, H, hA, hi, hs, hN, H0 => by
    have H := l5_ev hy hb (N := N) n (i + 1) (rrowS 2 s) (H ++ [of65 (rrowV 2 s)]) (by rw [List.length_append, hA]; rfl) (by omega) (suf_row 2 hs) (by omega) (by rw [List.append_assoc]; exact H0)
    refine Ev.step (fun k => by rw [signalboxref1_Decode.l5]) ?_
    rw [w64 (x := (i : Int) + 1) (by omega) (by omega)]
    exact pos (by omega) (bnd (num8_ev (s := s) hy hb hs) (bnd (num8_ev (s := rnumS s) hy hb (suf_get hs 8)) (pos (by omega) H)))
theorem l4_ev {b : List Int} (hy : Byt b) (hb : b.length ≤ 3000) {N I : Int} {A : List S44} {B : List S46} {C : List S56} {d : Int} {E F : List Int} {G : List (List Int)} {R : (List S44) × (List S46) × (List S56) × Int × List Int × List Int × (List (List Int)) × (List S65) × Int × Int} : ∀ (n j : Nat) (s : RS) (X : List Int), X.length = j → j + n ≤ 1000000 → s.1 <:+ b → F.length = j + n →
    Ev (fun k => signalboxref1_Decode.l4 k b N I (X ++ rrowV n s) (F.length : Int) b (At b (rrowS n s)) (rrowS n s).2 A B C d E F G 0) R → Ev (fun k => signalboxref1_Decode.l4 k b N I X (j : Int) b (At b s) s.2 A B C d E F G 0) R
  | 0, j, s, X, hX, hj, hs, hF, H0 => by
    rw [rrowV, List.append_nil, show (F.length : Int) = (j : Int) by omega] at H0
    exact H0
  | n + 1, j, s, X, hX, hj, hs, hF, H0 => by
    have H := l4_ev hy hb (F := F) n (j + 1) (rnumS s) (X ++ [rnumV s]) (by rw [List.length_append, hX]; rfl) (by omega) (suf_get hs 8) (by omega) (by rw [List.append_assoc]; exact H0)
    refine Ev.step (fun k => by rw [signalboxref1_Decode.l4]) ?_
    rw [w64 (x := (j : Int) + 1) (by omega) (by omega)]
    exact pos (by omega) (bnd (num8_ev hy hb hs) (pos (by omega) H))
theorem l3_ev {b : List Int} (hy : Byt b) (hb : b.length ≤ 3000) {N : Int} {A : List S44} {B : List S46} {C : List S56} {d : Int} {E F : List Int} {R : (List S44) × (List S46) × (List S56) × Int × List Int × List Int × (List (List Int)) × (List S65) × Int × Int} (hF : F.length ≤ 1000000) : ∀ (n i : Nat) (s : RS) (G : List (List Int)), G.length = i → i + n ≤ 65535 → s.1 <:+ b → N = ((i + n : Nat) : Int) →
    Ev (fun k => signalboxref1_Decode.l3 k b N N b (At b (rdS F.length n s)) (rdS F.length n s).2 A B C d E F (G ++ rdV F.length n s) 0) R → Ev (fun k => signalboxref1_Decode.l3 k b N (i : Int) b (At b s) s.2 A B C d E F G 0) R
  | 0, i, s, G, hA, hi, hs, hN, H0 => by
    rw [rdV, List.append_nil, show N = (i : Int) by omega] at H0
    rw [show N = (i : Int) by omega]
    exact H0
  | n + 1, i, s, G, hA, hi, hs, hN, H0 => by
    have H := l3_ev hy hb (N := N) hF n (i + 1) (rrowS F.length s) (G ++ [rrowV F.length s]) (by rw [List.length_append, hA]; rfl) (by omega) (suf_row _ hs) (by omega) (by rw [List.append_assoc]; exact H0)
    refine Ev.step (fun k => by rw [signalboxref1_Decode.l3]) ?_
    refine pos (by omega) ?_
    refine l4_ev hy hb F.length 0 s [] rfl (by omega) hs (by omega) ?_
    refine Ev.step (fun k => by rw [signalboxref1_Decode.l4]) ?_
    rw [w64 (x := (i : Int) + 1) (by omega) (by omega)]
    exact neg (by omega) (pos (by omega) H)
end
/-! What the reference's Decode answers. -/
section
open Go.Proofs.Ytdgaklldijkoaaa.EvKit
abbrev TUP := (List S44) × (List S46) × (List S56) × Int × List Int × List Int × (List (List Int)) × (List S65) × Int × Int
def tup (x : Pg × Int) : TUP := (x.1.a, x.1.b, x.1.c, x.1.d, x.1.e, x.1.f, x.1.g, x.1.h, x.1.i, x.2)
def fin5 (s : RS) (p : Pg) : Pg × Int := if (rnumS s).2 = true ∨ (rnumS s).1.length ≠ 0 ∨ p.may = false then (Pg.z, 5) else (p, 0)
theorem fin5_ev {b : List Int} (hy : Byt b) (hb : b.length ≤ 3000) {N : Int} {A : List S44} {B : List S46} {C : List S56} {d : Int} {E F : List Int} {G : List (List Int)} {H : List S65} {s : RS} (hs : s.1 <:+ b) :
    Ev (fun k => signalboxref1_Decode.l5 k b N N b (At b s) s.2 A B C d E F G H 0) (tup (fin5 s ⟨A, B, C, d, E, F, G, H, rnumV s⟩)) := by
  have hle := (suf_get hs 8).length_le
  refine Ev.step (fun k => by rw [signalboxref1_Decode.l5]) ?_
  refine neg (Int.lt_irrefl N) (bnd (num8_ev hy hb hs) ?_)
  unfold fin5
  refine ite (fun h => ?_) (fun h => ite (fun h2 => ?_) (fun h2 => ?_))
  · rw [if_pos (.inl h)]
    exact somec rfl
  · have h3 : (rnumS s).1.length = 0 := by
      have h2' : At b (rnumS s) = (b.length : Int) := h2
      unfold At at h2'
      have hle' : (rnumS s).1.length ≤ b.length := hle
      omega
    refine bnd (rmay ⟨A, B, C, d, E, F, G, H, rnumV s⟩) ?_
    refine ite (fun h4 => ?_) (fun h4 => ?_)
    · rw [if_neg (fun z => z.elim h (fun z => z.elim (fun z => z h3) (fun z => by rw [h4] at z; cases z)))]
      exact somec rfl
    · rw [if_pos (.inr (.inr (by simpa using h4)))]
      exact somec rfl
  · have h3 : (rnumS s).1.length ≠ 0 := fun z => h2 (by
      show At b (rnumS s) = (b.length : Int)
      unfold At
      rw [z]; omega)
    rw [if_pos (.inr (.inl h3))]
    exact somec rfl
def fin3 (s : RS) (A : List S44) (B : List S46) (C : List S56) (d : Int) (E F : List Int) (G : List (List Int)) : Pg × Int := fin5 (lstS 2 s) ⟨A, B, C, d, E, F, G, (lstV 2 s).map of65, rnumV (lstS 2 s)⟩
theorem fin3_ev {b : List Int} (hy : Byt b) (hb : b.length ≤ 3000) {N : Int} {A : List S44} {B : List S46} {C : List S56} {d : Int} {E F : List Int} {G : List (List Int)} {s : RS} (hs : s.1 <:+ b) :
    Ev (fun k => signalboxref1_Decode.l3 k b N N b (At b s) s.2 A B C d E F G 0) (tup (fin3 s A B C d E F G)) := by
  have hc := cnt_bd hy hs 2
  refine Ev.step (fun k => by rw [signalboxref1_Decode.l3]) ?_
  refine neg (Int.lt_irrefl N) (bnd (count_ev (m := 2) hy hb hs (by decide)) ?_)
  exact l5_ev hy hb (cntV 2 s).toNat 0 (cntS 2 s) [] rfl (by omega) (suf_cnt hs 2) (by omega) (fin5_ev hy hb (suf_lst 2 hs))
def fin2 (s : RS) (A : List S44) (B : List S46) (C : List S56) : Pg × Int :=
  fin3 (lstS (lstV 1 (lstS 1 (rnumS s))).length (lstS 1 (lstS 1 (rnumS s)))) A B C (rnumV s) ((lstV 1 (rnumS s)).map hd0) ((lstV 1 (lstS 1 (rnumS s))).map hd0) (lstV (lstV 1 (lstS 1 (rnumS s))).length (lstS 1 (lstS 1 (rnumS s))))
theorem lst_len {b : List Int} {s : RS} (hy : Byt b) (hs : s.1 <:+ b) (m : Nat) : (lstV m s).length ≤ 65535 := by
  have hc := cnt_bd hy hs m
  unfold lstV
  rw [rd_len]
  omega
theorem fin2_ev {b : List Int} (hy : Byt b) (hb : b.length ≤ 3000) {N : Int} {A : List S44} {B : List S46} {C : List S56} {s : RS} (hs : s.1 <:+ b) :
    Ev (fun k => signalboxref1_Decode.l2 k b N N b (At b s) s.2 A B C 0 0) (tup (fin2 s A B C)) := by
  have h4 : (rnumS s).1 <:+ b := suf_get hs 8
  have h5 := suf_lst 1 h4
  have h6 := suf_lst 1 h5
  have hl := lst_len hy h5 1
  refine Ev.step (fun k => by rw [signalboxref1_Decode.l2]) ?_
  refine neg (Int.lt_irrefl N) (bnd (num8_ev hy hb hs) (bnd (nums_ev hy hb h4) (bnd (nums_ev hy hb h5) ?_)))
  have hc := count_ev (m := ((lstV 1 (lstS 1 (rnumS s))).map hd0).length) hy hb h6 (by rw [List.length_map]; omega)
  refine bnd hc ?_
  have hcb := cnt_bd hy h6 ((lstV 1 (lstS 1 (rnumS s))).map hd0).length
  have hF : ((lstV 1 (lstS 1 (rnumS s))).map hd0).length ≤ 1000000 := by rw [List.length_map]; omega
  refine l3_ev hy hb hF (cntV ((lstV 1 (lstS 1 (rnumS s))).map hd0).length (lstS 1 (lstS 1 (rnumS s)))).toNat 0 (cntS ((lstV 1 (lstS 1 (rnumS s))).map hd0).length (lstS 1 (lstS 1 (rnumS s)))) [] rfl (by omega) (suf_cnt h6 _) (by omega) ?_
  unfold fin2
  rw [List.nil_append, List.length_map]
  exact fin3_ev hy hb (suf_lst _ h6)
def fin1 (s : RS) (A : List S44) (B : List S46) : Pg × Int := fin2 (lstS 2 s) A B ((lstV 2 s).map of56)
theorem fin1_ev {b : List Int} (hy : Byt b) (hb : b.length ≤ 3000) {N : Int} {A : List S44} {B : List S46} {s : RS} (hs : s.1 <:+ b) :
    Ev (fun k => signalboxref1_Decode.l1 k b N N b (At b s) s.2 A B 0 0) (tup (fin1 s A B)) := by
  have hc := cnt_bd hy hs 2
  refine Ev.step (fun k => by rw [signalboxref1_Decode.l1]) ?_
  refine neg (Int.lt_irrefl N) (bnd (count_ev (m := 2) hy hb hs (by decide)) ?_)
  exact l2_ev hy hb (cntV 2 s).toNat 0 (cntS 2 s) [] rfl (by omega) (suf_cnt hs 2) (by omega) (fin2_ev hy hb (suf_lst 2 hs))
def fin0 (s : RS) (A : List S44) : Pg × Int := fin1 (lstS 3 s) A ((lstV 3 s).map of46)
theorem fin0_ev {b : List Int} (hy : Byt b) (hb : b.length ≤ 3000) {N : Int} {A : List S44} {s : RS} (hs : s.1 <:+ b) :
    Ev (fun k => signalboxref1_Decode.l0 k b N N b (At b s) s.2 A 0 0) (tup (fin0 s A)) := by
  have hc := cnt_bd hy hs 3
  refine Ev.step (fun k => by rw [signalboxref1_Decode.l0]) ?_
  refine neg (Int.lt_irrefl N) (bnd (count_ev (m := 3) hy hb hs (by decide)) ?_)
  exact l1_ev hy hb (cntV 3 s).toNat 0 (cntS 3 s) [] rfl (by omega) (suf_cnt hs 3) (by omega) (fin1_ev hy hb (suf_lst 3 hs))
def finA (s : RS) : Pg × Int := fin0 (lstS 3 s) ((lstV 3 s).map of44)
def refdec (b : List Int) : Pg × Int := if b.take 2 = [83, 66] then finA (b.drop 2, false) else (Pg.z, 5)
theorem refdec_ev {b : List Int} (hy : Byt b) (hb : b.length ≤ 3000) : Ev (fun k => signalboxref1_Decode.f k b) (tup (refdec b)) := by
  have no : b.take 2 ≠ [83, 66] → Ev (fun k => signalboxref1_Decode.j0 k b true) (tup (refdec b)) := fun h => by
    refine Ev.step (fun k => by rw [signalboxref1_Decode.j0]) ?_
    refine pos rfl (somec ?_)
    unfold refdec
    rw [if_neg h]
    rfl
  unfold signalboxref1_Decode.f
  match b, hy, hb, no with
  | [], _, _, no => exact pos (by decide) (no (by decide))
  | [x], _, _, no => exact pos (show (1 : Int) < 2 by decide) (no (by simp))
  | x :: y :: t, hy, hb, no =>
    have hl : ((x :: y :: t).length : Int) = (t.length : Int) + 2 := by simp only [List.length_cons]; omega
    have e0 : rd (x :: y :: t) 0 = x := rfl
    have e1 : rd (x :: y :: t) 1 = y := rfl
    rw [e0, e1]
    refine neg (by omega) (pos (by omega) (ite (fun h0 => pos (by omega) ?_) (fun h0 => no (by simp [h0]))))
    by_cases h1 : y = 66
    · subst h0
      subst h1
      rw [show ((66 : Int) != 66) = false from rfl]
      have hs : ((83 :: 66 :: t : List Int).drop 2, false).1 <:+ (83 :: 66 :: t) := List.drop_suffix 2 _
      have ea : At (83 :: 66 :: t) ((83 :: 66 :: t : List Int).drop 2, false) = 2 := by
        unfold At
        simp only [List.length_drop, List.length_cons]
        omega
      have hc := cnt_bd hy hs 3
      have he := count_ev (m := 3) hy hb hs (by decide)
      rw [ea] at he
      refine Ev.step (fun k => by rw [signalboxref1_Decode.j0]) ?_
      refine neg (by decide) (bnd he ?_)
      exact l0_ev hy hb (cntV 3 _).toNat 0 (cntS 3 _) [] rfl (by omega) (suf_cnt hs 3) (by omega) (fin0_ev hy hb (suf_lst 3 hs))
    · rw [show (y != 66) = true from bne_iff_ne.mpr h1]
      exact no (by simp [h1])
end
/-! The reference's answer is the program's. -/
theorem get_good {k : Nat} {s : RS} (h : (rgetS k s).2 = false) : s.2 = false ∧ k ≤ s.1.length ∧ rgetS k s = (s.1.drop k, false) ∧ rgetV k s = fromLE (s.1.take k) := by
  unfold rgetS at h
  unfold rgetS rgetV
  by_cases q : s.2 = true ∨ s.1.length < k
  · rw [if_pos q] at h; cases h
  · rw [if_neg q, if_neg q]
    exact ⟨by cases e : s.2; rfl; exact absurd (.inl e) q, Nat.le_of_not_lt (fun z => q (.inr z)), rfl, rfl⟩
theorem num_good {s : RS} (hy : Byt s.1) (h : (rnumS s).2 = false) : s.2 = false ∧ s.1 = num8 (rnumV s) ++ (rnumS s).1 := by
  obtain ⟨h1, h2, h3, h4⟩ := get_good (k := 8) h
  refine ⟨h1, ?_⟩
  have e3 : rnumS s = (s.1.drop 8, false) := h3
  have e4 : rnumV s = wrap64 (fromLE (s.1.take 8)) := congrArg wrap64 h4
  have hb := fromLE_bd (s.1.take 8) (hy.take 8)
  have hl : (s.1.take 8).length = 8 := by rw [List.length_take]; omega
  rw [hl] at hb
  have hb2 : fromLE (s.1.take 8) < 18446744073709551616 := hb.2
  have ew : IntKind.u64.wrap (wrap64 (fromLE (s.1.take 8))) = fromLE (s.1.take 8) := by
    have e : ∀ x : Int, IntKind.u64.wrap x = x % 18446744073709551616 := fun _ => rfl
    rw [e]; unfold wrap64; have := hb.1; omega
  have hle := le_fromLE (s.1.take 8) (hy.take 8)
  rw [hl] at hle
  rw [e3, e4]
  unfold num8
  rw [ew, hle]
  exact (List.take_append_drop 8 s.1).symm
theorem row_good : ∀ (m : Nat) {s : RS}, Byt s.1 → (rrowS m s).2 = false → s.2 = false ∧ s.1 = nums8 (rrowV m s) ++ (rrowS m s).1
  | 0, _, _, h => ⟨h, rfl⟩
  | m + 1, s, hy, h => by
    obtain ⟨h1, h2⟩ := row_good m (s := rnumS s) (hy.get 8) h
    obtain ⟨h3, h4⟩ := num_good hy h1
    refine ⟨h3, ?_⟩
    have e : nums8 (rrowV (m + 1) s) = num8 (rnumV s) ++ nums8 (rrowV m (rnumS s)) := rfl
    rw [e, List.append_assoc]
    exact h4.trans (congrArg _ h2)
theorem rd_good (m : Nat) : ∀ (n : Nat) {s : RS}, Byt s.1 → (rdS m n s).2 = false → s.2 = false ∧ s.1 = rowsB (rdV m n s) ++ (rdS m n s).1
  | 0, _, _, h => ⟨h, rfl⟩
  | n + 1, s, hy, h => by
    obtain ⟨h1, h2⟩ := rd_good m n (s := rrowS m s) (hy.row m) h
    obtain ⟨h3, h4⟩ := row_good m hy h1
    refine ⟨h3, ?_⟩
    have e : rowsB (rdV m (n + 1) s) = nums8 (rrowV m s) ++ rowsB (rdV m n (rrowS m s)) := rfl
    rw [e, List.append_assoc]
    exact h4.trans (congrArg _ h2)
theorem byt_cnt {s : RS} (hy : Byt s.1) (m : Nat) : Byt (cntS m s).1 := by
  unfold cntS
  split
  · exact hy.get 2
  · exact hy.get 2
theorem byt_rd (m : Nat) : ∀ (n : Nat) {s : RS}, Byt s.1 → Byt (rdS m n s).1
  | 0, _, h => h
  | n + 1, s, h => byt_rd m n (s := rrowS m s) (h.row m)
theorem byt_lst {s : RS} (hy : Byt s.1) (m : Nat) : Byt (lstS m s).1 := byt_rd m _ (byt_cnt hy m)
theorem lst_good {m : Nat} {s : RS} (hy : Byt s.1) (h : (lstS m s).2 = false) : s.2 = false ∧ s.1 = layB (lstV m s) ++ (lstS m s).1 := by
  obtain ⟨h1, h2⟩ := rd_good m _ (byt_cnt hy m) h
  by_cases q : cntB m s
  · unfold cntS at h1
    rw [if_pos q] at h1
    cases h1
  · have e1 : cntS m s = rgetS 2 s := by unfold cntS; rw [if_neg q]
    have e2 : cntV m s = rgetV 2 s := by unfold cntV; rw [if_neg q]
    rw [e1] at h1
    obtain ⟨h3, h4, h5, h6⟩ := get_good h1
    refine ⟨h3, ?_⟩
    have hb := rget2_bd hy
    have hle := le_fromLE (s.1.take 2) (hy.take 2)
    have hl : (s.1.take 2).length = 2 := by rw [List.length_take]; omega
    rw [hl, ← h6] at hle
    have e3 : ((lstV m s).length : Int) = rgetV 2 s := by
      unfold lstV
      rw [rd_len, e2]
      omega
    unfold layB
    rw [e3, hle, List.append_assoc]
    have h7 : (cntS m s).1 = s.1.drop 2 := by rw [e1, h5]
    have h8 : rowsB (lstV m s) ++ (lstS m s).1 = s.1.drop 2 := by rw [← h7]; exact h2.symm
    rw [h8]
    exact (List.take_append_drop 2 s.1).symm
theorem rowsB_eq {m : Nat} : ∀ l : List (List Int), (∀ r ∈ l, r.length = m) → (rowsB l).length = 8 * m * l.length
  | [], _ => by simp [rowsB]
  | r :: l, h => by
    have e : rowsB (r :: l) = nums8 r ++ rowsB l := rfl
    rw [e, List.length_append, nums8_len, rowsB_eq l (fun x hx => h x (by simp [hx])), h r (by simp), List.length_cons, Nat.mul_add]
    omega
theorem rd_app {m : Nat} : ∀ (l : List (List Int)) (t : List Int), (∀ r ∈ l, r.length = m ∧ ∀ x ∈ r, W64 x) → rdV m l.length (rowsB l ++ t, false) = l ∧ rdS m l.length (rowsB l ++ t, false) = (t, false)
  | [], t, _ => ⟨rfl, rfl⟩
  | r :: l, t, h => by
    have e : rowsB (r :: l) ++ t = nums8 r ++ (rowsB l ++ t) := by show (nums8 r ++ rowsB l) ++ t = _; rw [List.append_assoc]
    obtain ⟨h1, h2⟩ := h r (by simp)
    have g := rrow_app r (rowsB l ++ t) h2
    rw [h1] at g
    have ih := rd_app l t (fun y hy => h y (by simp [hy]))
    rw [e, List.length_cons]
    constructor
    · rw [rdV, g.1, g.2, ih.1]
    · rw [rdS, g.2, ih.2]
theorem lst_app {m : Nat} (l : List (List Int)) (t : List Int) (hn : l.length < 65536) (h : ∀ r ∈ l, r.length = m ∧ ∀ x ∈ r, W64 x) : lstV m (layB l ++ t, false) = l ∧ lstS m (layB l ++ t, false) = (t, false) := by
  have e : layB l ++ t = le 2 (l.length : Int) ++ (rowsB l ++ t) := by unfold layB; rw [List.append_assoc]
  have g := rget_app (le 2 (l.length : Int)) (rowsB l ++ t) (le_len 2 _)
  rw [fromLE_le 2 _ (by omega) (by simp; omega)] at g
  have k := rd_app l t h
  have hl := rowsB_eq l (fun r hr => (h r hr).1)
  have q : ¬ cntB m (layB l ++ t, false) := by
    unfold cntB
    rw [e, g.1, g.2]
    rintro (z | z)
    · cases z
    · have hl2 : ((rowsB l ++ t).length : Int) = 8 * ((m : Int) * (l.length : Int)) + (t.length : Int) := by
        rw [List.length_append, hl, Nat.mul_assoc]
        simp
      have hl3 : (l.length : Int) * (m : Int) = (m : Int) * (l.length : Int) := Int.mul_comm _ _
      have z2 : ((rowsB l ++ t).length : Int) < (l.length : Int) * (m : Int) * 8 := z
      rw [hl3] at z2
      omega
  unfold lstV lstS cntV cntS
  rw [if_neg q, if_neg q, e, g.1, g.2, Int.toNat_natCast]
  exact k
theorem refdec_enc {p : Pg} (hw : p.Wf) (hk : p.Ok) : refdec (encB p) = (p, 0) := by
  have a := fun t => lst_app (m := 3) (p.a.map toL44) t (by rw [List.length_map]; have := hk.a; omega) (rows_of (fun _ => rfl) (fun x hx y hy => by have := hw.a x hx; simp only [toL44, List.mem_cons, List.not_mem_nil, or_false] at hy; rcases hy with rfl | rfl | rfl; exact this.1; exact this.2.1; exact this.2.2))
  have b := fun t => lst_app (m := 3) (p.b.map toL46) t (by rw [List.length_map]; have := hk.b; omega) (rows_of (fun _ => rfl) (fun x hx y hy => by have := hw.b x hx; simp only [toL46, List.mem_cons, List.not_mem_nil, or_false] at hy; rcases hy with rfl | rfl | rfl; exact this.1; exact this.2.1; exact this.2.2))
  have c := fun t => lst_app (m := 2) (p.c.map toL56) t (by rw [List.length_map]; have := hk.c; omega) (rows_of (fun _ => rfl) (fun x hx y hy => by have := hw.c x hx; simp only [toL56, List.mem_cons, List.not_mem_nil, or_false] at hy; rcases hy with rfl | rfl; exact this.1; exact this.2))
  have d := fun t => rnum_app hw.d t
  have e := fun t => lst_app (m := 1) (p.e.map (fun x => [x])) t (by rw [List.length_map]; have := hk.e; omega) (rows_of (fun _ => rfl) (fun x hx y hy => by cases List.mem_singleton.1 hy; exact hw.e x hx))
  have f := fun t => lst_app (m := 1) (p.f.map (fun x => [x])) t (by rw [List.length_map]; have := hk.f; omega) (rows_of (fun _ => rfl) (fun x hx y hy => by cases List.mem_singleton.1 hy; exact hw.f x hx))
  have g := fun t => lst_app (m := p.f.length) p.g t (by have := hk.g; omega) (fun r hr => ⟨hk.v r hr, hw.g r hr⟩)
  have h := fun t => lst_app (m := 2) (p.h.map toL65) t (by rw [List.length_map]; have := hk.h; omega) (rows_of (fun _ => rfl) (fun x hx y hy => by have := hw.h x hx; simp only [toL65, List.mem_cons, List.not_mem_nil, or_false] at hy; rcases hy with rfl | rfl; exact this.1; exact this.2))
  have i := fun t => rnum_app hw.i t
  obtain ⟨r, er, _⟩ := encB_two p
  have hd : (encB p).take 2 = [83, 66] := by rw [er]; rfl
  have hm := Pg.may_ok.2 hk
  have ea := encB_at p []
  rw [List.append_nil] at ea
  unfold refdec
  rw [if_pos hd, ea]
  unfold finA fin0 fin1 fin2 fin3 fin5
  simp only [(a _).1, (a _).2, (b _).1, (b _).2, (c _).1, (c _).2, (d _).1, (d _).2, (e _).1, (e _).2, (f _).1, (f _).2, List.length_map, (g _).1, (g _).2, (h _).1, (h _).2, (i _).1, (i _).2]
  rw [map_back (g := of44) (fun _ => rfl), map_back (g := of46) (fun _ => rfl), map_back (g := of56) (fun _ => rfl), map_back (g := hd0) (fun _ => rfl), map_back (g := hd0) (fun _ => rfl), map_back (g := of65) (fun _ => rfl)]
  exact if_neg (fun z => z.elim (fun z => by cases z) (fun z => z.elim (fun z => z rfl) (fun z => by rw [hm] at z; cases z)))
/-! What is read is of so many numbers, each of 64 bits. -/
theorem rd_rows (m : Nat) : ∀ (n : Nat) (s : RS), ∀ r ∈ rdV m n s, r.length = m ∧ ∀ x ∈ r, W64 x
  | 0, _, r, hr => by cases hr
  | n + 1, s, r, hr => by
    rcases List.mem_cons.1 hr with rfl | hr
    · exact ⟨rrow_len m s, rrow_W64 m s⟩
    · exact rd_rows m n _ r hr
theorem map_to {α : Type} {m : Nat} {f : List Int → α} {g : α → List Int} (h : ∀ r : List Int, r.length = m → g (f r) = r) (s : RS) : ((lstV m s).map f).map g = lstV m s := by
  rw [List.map_map]
  conv => rhs; rw [← List.map_id (lstV m s)]
  exact List.map_congr_left (fun r hr => h r (rd_rows m _ _ r hr).1)
theorem to3 {α : Type} (f : List Int → α) (g : α → List Int) (h : ∀ x y z, g (f [x, y, z]) = [x, y, z]) (r : List Int) (e : r.length = 3) : g (f r) = r := by
  match r, e with
  | [x, y, z], _ => exact h x y z
theorem to2 {α : Type} (f : List Int → α) (g : α → List Int) (h : ∀ x y, g (f [x, y]) = [x, y]) (r : List Int) (e : r.length = 2) : g (f r) = r := by
  match r, e with
  | [x, y], _ => exact h x y
theorem to1 (r : List Int) (e : r.length = 1) : [hd0 r] = r := by
  match r, e with
  | [x], _ => rfl
theorem finA_good {s : RS} (hy : Byt s.1) {p : Pg} (h : finA s = (p, 0)) : p.Wf ∧ p.Ok ∧ (encB p).drop 2 = s.1 := by
  obtain ⟨s1, e1⟩ : ∃ x, x = lstS 3 s := ⟨_, rfl⟩
  obtain ⟨s2, e2⟩ : ∃ x, x = lstS 3 s1 := ⟨_, rfl⟩
  obtain ⟨s3, e3⟩ : ∃ x, x = lstS 2 s2 := ⟨_, rfl⟩
  obtain ⟨s4, e4⟩ : ∃ x, x = rnumS s3 := ⟨_, rfl⟩
  obtain ⟨s5, e5⟩ : ∃ x, x = lstS 1 s4 := ⟨_, rfl⟩
  obtain ⟨s6, e6⟩ : ∃ x, x = lstS 1 s5 := ⟨_, rfl⟩
  obtain ⟨s7, e7⟩ : ∃ x, x = lstS (lstV 1 s5).length s6 := ⟨_, rfl⟩
  obtain ⟨s8, e8⟩ : ∃ x, x = lstS 2 s7 := ⟨_, rfl⟩
  unfold finA fin0 fin1 fin2 fin3 fin5 at h
  rw [← e1, ← e2, ← e3, ← e4, ← e5, ← e6, ← e7, ← e8] at h
  split at h
  · injection h with _ h; cases h
  · rename_i q
    injection h with hp _
    have q1 : (rnumS s8).2 = false := by cases z : (rnumS s8).2; rfl; exact absurd (.inl z) q
    have q2 : (rnumS s8).1 = [] := List.eq_nil_of_length_eq_zero (by
      rcases Nat.eq_zero_or_pos (rnumS s8).1.length with z | z
      · exact z
      · exact absurd (.inr (.inl (by omega))) q)
    have y1 : Byt s1.1 := by rw [e1]; exact byt_lst hy 3
    have y2 : Byt s2.1 := by rw [e2]; exact byt_lst y1 3
    have y3 : Byt s3.1 := by rw [e3]; exact byt_lst y2 2
    have y4 : Byt s4.1 := by rw [e4]; exact y3.get 8
    have y5 : Byt s5.1 := by rw [e5]; exact byt_lst y4 1
    have y6 : Byt s6.1 := by rw [e6]; exact byt_lst y5 1
    have y7 : Byt s7.1 := by rw [e7]; exact byt_lst y6 _
    have y8 : Byt s8.1 := by rw [e8]; exact byt_lst y7 2
    obtain ⟨g8, t8⟩ := num_good y8 q1
    obtain ⟨g7, t7⟩ := lst_good y7 (by rw [← e8]; exact g8)
    obtain ⟨g6, t6⟩ := lst_good y6 (by rw [← e7]; exact g7)
    obtain ⟨g5, t5⟩ := lst_good y5 (by rw [← e6]; exact g6)
    obtain ⟨g4, t4⟩ := lst_good y4 (by rw [← e5]; exact g5)
    obtain ⟨g3, t3⟩ := num_good y3 (by rw [← e4]; exact g4)
    obtain ⟨g2, t2⟩ := lst_good y2 (by rw [← e3]; exact g3)
    obtain ⟨g1, t1⟩ := lst_good y1 (by rw [← e2]; exact g2)
    obtain ⟨g0, t0⟩ := lst_good hy (by rw [← e1]; exact g1)
    rw [← e1] at t0
    rw [← e2] at t1
    rw [← e3] at t2
    rw [← e4] at t3
    rw [← e5] at t4
    rw [← e6] at t5
    rw [← e7] at t6
    rw [← e8] at t7
    rw [q2] at t8
    have hm : p.may = true := by
      rw [← hp]
      cases z : Pg.may _ with
      | true => rfl
      | false => exact absurd (.inr (.inr z)) q
    have M : ∀ (m : Nat) (s : RS) {α : Type} (f : List Int → α) (x : α), x ∈ (lstV m s).map f → ∃ r, (∀ y ∈ r, W64 y) ∧ f r = x := by
      intro m s α f x hx
      obtain ⟨r, hr, e⟩ := List.mem_map.1 hx
      exact ⟨r, (rd_rows m _ _ r hr).2, e⟩
    refine ⟨?_, Pg.may_ok.1 hm, ?_⟩
    · rw [← hp]
      refine ⟨fun x hx => ?_, fun x hx => ?_, fun x hx => ?_, rnum_W64 _, fun x hx => ?_, fun x hx => ?_, fun r hr => (rd_rows _ _ _ r hr).2, fun x hx => ?_, rnum_W64 _⟩
      · obtain ⟨r, hr, rfl⟩ := M _ _ of44 x hx
        exact ⟨getD_W64 hr 0, getD_W64 hr 1, getD_W64 hr 2⟩
      · obtain ⟨r, hr, rfl⟩ := M _ _ of46 x hx
        exact ⟨getD_W64 hr 0, getD_W64 hr 1, getD_W64 hr 2⟩
      · obtain ⟨r, hr, rfl⟩ := M _ _ of56 x hx
        exact ⟨getD_W64 hr 0, getD_W64 hr 1⟩
      · obtain ⟨r, hr, rfl⟩ := M _ _ hd0 x hx
        exact getD_W64 hr 0
      · obtain ⟨r, hr, rfl⟩ := M _ _ hd0 x hx
        exact getD_W64 hr 0
      · obtain ⟨r, hr, rfl⟩ := M _ _ of65 x hx
        exact ⟨getD_W64 hr 0, getD_W64 hr 1⟩
    · have ea := encB_at p []
      rw [List.append_nil] at ea
      rw [ea, ← hp]
      dsimp only
      rw [map_to (to3 of44 toL44 (fun _ _ _ => rfl)), map_to (to3 of46 toL46 (fun _ _ _ => rfl)), map_to (to2 of56 toL56 (fun _ _ => rfl)), map_to (to2 of65 toL65 (fun _ _ => rfl)), map_to to1, map_to to1]
      rw [t0, t1, t2, t3, t4, t5, t6, t7, t8]
theorem refdec_eq {b : List Int} (hy : Byt b) : refdec b = dec b := by
  rcases dec_code b with h | h
  · obtain ⟨h1, h2, h3⟩ := dec_ok h
    have e := refdec_enc h1 h2
    rw [h3] at e
    rw [e, ← h]
  · have hz : dec b = (Pg.z, 5) := by
      unfold dec at h ⊢
      split
      · rfl
      · split
        · rename_i q1 q2
          rw [if_neg q1, if_pos q2] at h
          cases h
        · rfl
    rw [hz]
    by_cases hd : b.take 2 = [83, 66]
    · have e : refdec b = finA (b.drop 2, false) := if_pos hd
      rw [e]
      have hc : (finA (b.drop 2, false)).2 = 0 ∨ finA (b.drop 2, false) = (Pg.z, 5) := by
        unfold finA fin0 fin1 fin2 fin3 fin5
        split
        · exact .inr rfl
        · exact .inl rfl
      rcases hc with hc | hc
      · exfalso
        obtain ⟨g1, g2, g3⟩ := finA_good (s := (b.drop 2, false)) (hy.drop 2) (p := (finA (b.drop 2, false)).1) (by rw [← hc])
        obtain ⟨r, er, er2⟩ := encB_two (finA (b.drop 2, false)).1
        have eb : encB (finA (b.drop 2, false)).1 = b := by
          rw [er, er2, g3]
          have := List.take_append_drop 2 b
          rw [hd] at this
          exact this
        have := dec_enc g1 g2
        rw [eb, hz] at this
        injection this with _ this
        cases this
      · exact hc
    · exact if_neg hd
/-! The contract of the reference's Decode. -/
theorem rdec_e {w : World} {A : Option Addr} {c : Nat} {l : List Int} {q : Pg} {f : Int} (he : dec l = (q, f)) (hy : Byt l) (hb : l.length ≤ 3000) (hC : Kd.C (Kd.int .u8) w A l.length l) (hc : l.length ≤ c) :
    Calls Try.prog 17 #[.slice A l.length c] w fun e w' => (∃ B0 d0 B1 d1 B2 d2 B4 d4 B5 d5 B6 d6 B7 d7, e = .returned (.tuple #[.agg #[.slice B0 q.a.length d0, .slice B1 q.b.length d1, .slice B2 q.c.length d2, .int .i64 q.d, .slice B4 q.e.length d4, .slice B5 q.f.length d5, .slice B6 q.g.length d6, .slice B7 q.h.length d7, .int .i64 q.i], .int .i64 f]) ∧ PX w' B0 d0 B1 d1 B2 d2 B4 d4 B5 d5 B6 d6 B7 d7 q) ∧ Below w.heap.size w w' := by
  have H := refdec_ev hy hb
  rw [refdec_eq hy, he] at H
  obtain ⟨k, hk⟩ := Ev.rounds H
  refine (signalboxref1_Decode.calls k A c l q.a q.b q.c q.d q.e q.f q.g q.h q.i f w hC hc hk).mono ?_
  rintro e w' ⟨v0, v1, v2, v4, v5, v6, v7, rfl, h0, h1, h2, h4, h5, h6, h7, hb⟩
  obtain ⟨B0, d0, rfl, i0, j0⟩ := Kd.R_reads h0
  obtain ⟨B1, d1, rfl, i1, j1⟩ := Kd.R_reads h1
  obtain ⟨B2, d2, rfl, i2, j2⟩ := Kd.R_reads h2
  obtain ⟨B4, d4, rfl, i4, j4⟩ := Kd.R_reads h4
  obtain ⟨B5, d5, rfl, i5, j5⟩ := Kd.R_reads h5
  obtain ⟨B6, d6, rfl, i6, j6⟩ := Kd.S_reads h6
  obtain ⟨B7, d7, rfl, i7, j7⟩ := Kd.R_reads h7
  exact ⟨⟨B0, d0, B1, d1, B2, d2, B4, d4, B5, d5, B6, d6, B7, d7, rfl, ⟨⟨i0, j0⟩, ⟨i1, j1⟩, ⟨i2, j2⟩, ⟨i4, j4⟩, ⟨i5, j5⟩, ⟨i6, j6⟩, ⟨i7, j7⟩⟩⟩, hb⟩

end Go.Proofs.Ytdgaklldijkoaaa.PCode
