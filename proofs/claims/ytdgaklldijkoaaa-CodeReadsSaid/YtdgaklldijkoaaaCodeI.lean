import Derived.Test.YtdgaklldijkoaaaPCodex0
import Derived.Test.YtdgaklldijkoaaaCodeG
import Derived.Test.YtdgaklldijkoaaaPCodex5
import Derived.Test.YtdgaklldijkoaaaPCodex6
import Derived.BigQuiet
import Derived.IntWalk
import Derived.WalkMore
import Derived.Laws.EntriesVeiled
import Derived.StillTailTactics
import Derived.Laws.BitsAllLaws
import Derived.Laws.BitsLemmas
import Derived.Laws.Strings
import Derived.Lib.SlBytesConst
namespace Go.Proofs.Ytdgaklldijkoaaa.PCode
open Go.RowKit Go.Proofs.YtdgaklldijkoaaaW.PrintWords Go.Proofs.YtdgaklldijkoaaaW.PrintLast Go.Proofs.YtdgaklldijkoaaaW.PrintMore
attribute [local go_sem] max2_int min2_int max_two min_two max_three min_three max_four min_four
set_option linter.unusedVariables false
set_option linter.unusedSimpArgs false
theorem rdD {α : Type} (l : List α) (d : α) {i : Nat} (h : i < l.length) : l.getD (i : Int).toNat d = l[i] := by
  rw [Int.toNat_natCast, List.getD_eq_getElem?_getD, List.getElem?_eq_getElem h]; rfl
theorem drop_iff {α : Type} {l m : List α} {i : Nat} (h1 : i < l.length) (h2 : i < m.length) : l.drop i = m.drop i ↔ l[i] = m[i] ∧ l.drop (i + 1) = m.drop (i + 1) := by
  rw [List.drop_eq_getElem_cons h1, List.drop_eq_getElem_cons h2, List.cons.injEq]

theorem eq50_l {l m : List S44} (hl : l.length = m.length) (hb : l.length ≤ 9223372036854775807) : ∀ k i : Nat, l.length + 1 ≤ k + i → i ≤ l.length → ∃ r, api_Instr_50.l0 k l m (l.length : Int) (i : Int) = some r ∧ (r = true ↔ l.drop i = m.drop i)
  | 0, i, h1, h2 => by omega
  | k + 1, i, h1, h2 => by
    rw [api_Instr_50.l0]
    by_cases q : (i : Int) < (l.length : Int)
    · have hi : i < l.length := by omega
      have hj : i < m.length := by omega
      have e1 : rd_T44 l (i : Int) = l[i] := rdD l z44 hi
      have e2 : rd_T44 m (i : Int) = m[i] := rdD m z44 hj
      rw [if_pos q, if_pos (by omega), if_pos q, if_pos (by omega), e1, e2, IntWalk.wrap64_in _ (by omega)]
      have hd := drop_iff hi hj
      by_cases c : l[i] = m[i]
      · rw [if_neg (by rw [c]; simp)]
        obtain ⟨r, h, hr⟩ := eq50_l hl hb k (i + 1) (by omega) (by omega)
        exact ⟨r, h, by rw [hr, hd]; exact ⟨fun x => ⟨c, x⟩, fun x => x.2⟩⟩
      · rw [if_pos (by
          apply Decidable.byContradiction
          intro hn
          apply c
          generalize l[i] = x at hn
          generalize m[i] = y at hn
          obtain ⟨x0, x1, x2⟩ := x
          obtain ⟨y0, y1, y2⟩ := y
          simp at hn
          simp [hn])]
        exact ⟨false, rfl, by rw [hd]; exact ⟨fun x => (by cases x), fun x => absurd x.1 c⟩⟩
    · rw [if_neg q]
      exact ⟨true, rfl, by rw [List.drop_of_length_le (by omega), List.drop_of_length_le (by omega)]; simp⟩
theorem eq50 {w : World} {A B : Option Addr} {c d : Nat} {l m : List S44} {t : Bool} (ht : t = true ↔ l = m) (hb : l.length ≤ 9223372036854775807) (h0 : Kd.C k44 w A l.length l) (k0 : l.length ≤ c) (h1 : Kd.C k44 w B m.length m) (k1 : m.length ≤ d) :
    Calls Try.prog 50 #[.slice A l.length c, .slice B m.length d] w fun e w' => e = .returned (.bool t) ∧ Below w.heap.size w w' := by
  have H : ∃ r, api_Instr_50.f (l.length + 1) l m = some r ∧ (r = true ↔ l = m) := by
    unfold api_Instr_50.f
    by_cases q : (l.length : Int) = (m.length : Int)
    · rw [if_pos q]
      exact eq50_l (by omega) hb (l.length + 1) 0 (by omega) (Nat.zero_le _)
    · rw [if_neg q]
      exact ⟨false, rfl, ⟨fun x => (by cases x), fun x => absurd (by rw [x]) q⟩⟩
  obtain ⟨r, hf, hr⟩ := H
  have e : r = t := by
    cases r <;> cases t <;> simp_all
  subst e
  exact (api_Instr_50.calls _ A c l B d m r w h0 k0 h1 k1 hf).mono fun _ _ k => ⟨k.1, k.2.below⟩

theorem eq51_l {l m : List S46} (hl : l.length = m.length) (hb : l.length ≤ 9223372036854775807) : ∀ k i : Nat, l.length + 1 ≤ k + i → i ≤ l.length → ∃ r, api_Entry_51.l0 k l m (l.length : Int) (i : Int) = some r ∧ (r = true ↔ l.drop i = m.drop i)
  | 0, i, h1, h2 => by omega
  | k + 1, i, h1, h2 => by
    rw [api_Entry_51.l0]
    by_cases q : (i : Int) < (l.length : Int)
    · have hi : i < l.length := by omega
      have hj : i < m.length := by omega
      have e1 : rd_T46 l (i : Int) = l[i] := rdD l z46 hi
      have e2 : rd_T46 m (i : Int) = m[i] := rdD m z46 hj
      rw [if_pos q, if_pos (by omega), if_pos q, if_pos (by omega), e1, e2, IntWalk.wrap64_in _ (by omega)]
      have hd := drop_iff hi hj
      by_cases c : l[i] = m[i]
      · rw [if_neg (by rw [c]; simp)]
        obtain ⟨r, h, hr⟩ := eq51_l hl hb k (i + 1) (by omega) (by omega)
        exact ⟨r, h, by rw [hr, hd]; exact ⟨fun x => ⟨c, x⟩, fun x => x.2⟩⟩
      · rw [if_pos (by
          apply Decidable.byContradiction
          intro hn
          apply c
          generalize l[i] = x at hn
          generalize m[i] = y at hn
          obtain ⟨x0, x1, x2⟩ := x
          obtain ⟨y0, y1, y2⟩ := y
          simp at hn
          simp [hn])]
        exact ⟨false, rfl, by rw [hd]; exact ⟨fun x => (by cases x), fun x => absurd x.1 c⟩⟩
    · rw [if_neg q]
      exact ⟨true, rfl, by rw [List.drop_of_length_le (by omega), List.drop_of_length_le (by omega)]; simp⟩
theorem eq51 {w : World} {A B : Option Addr} {c d : Nat} {l m : List S46} {t : Bool} (ht : t = true ↔ l = m) (hb : l.length ≤ 9223372036854775807) (h0 : Kd.C k46 w A l.length l) (k0 : l.length ≤ c) (h1 : Kd.C k46 w B m.length m) (k1 : m.length ≤ d) :
    Calls Try.prog 51 #[.slice A l.length c, .slice B m.length d] w fun e w' => e = .returned (.bool t) ∧ Below w.heap.size w w' := by
  have H : ∃ r, api_Entry_51.f (l.length + 1) l m = some r ∧ (r = true ↔ l = m) := by
    unfold api_Entry_51.f
    by_cases q : (l.length : Int) = (m.length : Int)
    · rw [if_pos q]
      exact eq51_l (by omega) hb (l.length + 1) 0 (by omega) (Nat.zero_le _)
    · rw [if_neg q]
      exact ⟨false, rfl, ⟨fun x => (by cases x), fun x => absurd (by rw [x]) q⟩⟩
  obtain ⟨r, hf, hr⟩ := H
  have e : r = t := by
    cases r <;> cases t <;> simp_all
  subst e
  exact (api_Entry_51.calls _ A c l B d m r w h0 k0 h1 k1 hf).mono fun _ _ k => ⟨k.1, k.2.below⟩

theorem eq52_l {l m : List S56} (hl : l.length = m.length) (hb : l.length ≤ 9223372036854775807) : ∀ k i : Nat, l.length + 1 ≤ k + i → i ≤ l.length → ∃ r, api_Cell_52.l0 k l m (l.length : Int) (i : Int) = some r ∧ (r = true ↔ l.drop i = m.drop i)
  | 0, i, h1, h2 => by omega
  | k + 1, i, h1, h2 => by
    rw [api_Cell_52.l0]
    by_cases q : (i : Int) < (l.length : Int)
    · have hi : i < l.length := by omega
      have hj : i < m.length := by omega
      have e1 : rd_T56 l (i : Int) = l[i] := rdD l z56 hi
      have e2 : rd_T56 m (i : Int) = m[i] := rdD m z56 hj
      rw [if_pos q, if_pos (by omega), if_pos q, if_pos (by omega), e1, e2, IntWalk.wrap64_in _ (by omega)]
      have hd := drop_iff hi hj
      by_cases c : l[i] = m[i]
      · rw [if_neg (by rw [c]; simp)]
        obtain ⟨r, h, hr⟩ := eq52_l hl hb k (i + 1) (by omega) (by omega)
        exact ⟨r, h, by rw [hr, hd]; exact ⟨fun x => ⟨c, x⟩, fun x => x.2⟩⟩
      · rw [if_pos (by
          apply Decidable.byContradiction
          intro hn
          apply c
          generalize l[i] = x at hn
          generalize m[i] = y at hn
          obtain ⟨x0, x1⟩ := x
          obtain ⟨y0, y1⟩ := y
          simp at hn
          simp [hn])]
        exact ⟨false, rfl, by rw [hd]; exact ⟨fun x => (by cases x), fun x => absurd x.1 c⟩⟩
    · rw [if_neg q]
      exact ⟨true, rfl, by rw [List.drop_of_length_le (by omega), List.drop_of_length_le (by omega)]; simp⟩
theorem eq52 {w : World} {A B : Option Addr} {c d : Nat} {l m : List S56} {t : Bool} (ht : t = true ↔ l = m) (hb : l.length ≤ 9223372036854775807) (h0 : Kd.C k56 w A l.length l) (k0 : l.length ≤ c) (h1 : Kd.C k56 w B m.length m) (k1 : m.length ≤ d) :
    Calls Try.prog 52 #[.slice A l.length c, .slice B m.length d] w fun e w' => e = .returned (.bool t) ∧ Below w.heap.size w w' := by
  have H : ∃ r, api_Cell_52.f (l.length + 1) l m = some r ∧ (r = true ↔ l = m) := by
    unfold api_Cell_52.f
    by_cases q : (l.length : Int) = (m.length : Int)
    · rw [if_pos q]
      exact eq52_l (by omega) hb (l.length + 1) 0 (by omega) (Nat.zero_le _)
    · rw [if_neg q]
      exact ⟨false, rfl, ⟨fun x => (by cases x), fun x => absurd (by rw [x]) q⟩⟩
  obtain ⟨r, hf, hr⟩ := H
  have e : r = t := by
    cases r <;> cases t <;> simp_all
  subst e
  exact (api_Cell_52.calls _ A c l B d m r w h0 k0 h1 k1 hf).mono fun _ _ k => ⟨k.1, k.2.below⟩

theorem eq55_l {l m : List S65} (hl : l.length = m.length) (hb : l.length ≤ 9223372036854775807) : ∀ k i : Nat, l.length + 1 ≤ k + i → i ≤ l.length → ∃ r, api_Spawn_55.l0 k l m (l.length : Int) (i : Int) = some r ∧ (r = true ↔ l.drop i = m.drop i)
  | 0, i, h1, h2 => by omega
  | k + 1, i, h1, h2 => by
    rw [api_Spawn_55.l0]
    by_cases q : (i : Int) < (l.length : Int)
    · have hi : i < l.length := by omega
      have hj : i < m.length := by omega
      have e1 : rd_T65 l (i : Int) = l[i] := rdD l z65 hi
      have e2 : rd_T65 m (i : Int) = m[i] := rdD m z65 hj
      rw [if_pos q, if_pos (by omega), if_pos q, if_pos (by omega), e1, e2, IntWalk.wrap64_in _ (by omega)]
      have hd := drop_iff hi hj
      by_cases c : l[i] = m[i]
      · rw [if_neg (by rw [c]; simp)]
        obtain ⟨r, h, hr⟩ := eq55_l hl hb k (i + 1) (by omega) (by omega)
        exact ⟨r, h, by rw [hr, hd]; exact ⟨fun x => ⟨c, x⟩, fun x => x.2⟩⟩
      · rw [if_pos (by
          apply Decidable.byContradiction
          intro hn
          apply c
          generalize l[i] = x at hn
          generalize m[i] = y at hn
          obtain ⟨x0, x1⟩ := x
          obtain ⟨y0, y1⟩ := y
          simp at hn
          simp [hn])]
        exact ⟨false, rfl, by rw [hd]; exact ⟨fun x => (by cases x), fun x => absurd x.1 c⟩⟩
    · rw [if_neg q]
      exact ⟨true, rfl, by rw [List.drop_of_length_le (by omega), List.drop_of_length_le (by omega)]; simp⟩
theorem eq55 {w : World} {A B : Option Addr} {c d : Nat} {l m : List S65} {t : Bool} (ht : t = true ↔ l = m) (hb : l.length ≤ 9223372036854775807) (h0 : Kd.C k65 w A l.length l) (k0 : l.length ≤ c) (h1 : Kd.C k65 w B m.length m) (k1 : m.length ≤ d) :
    Calls Try.prog 55 #[.slice A l.length c, .slice B m.length d] w fun e w' => e = .returned (.bool t) ∧ Below w.heap.size w w' := by
  have H : ∃ r, api_Spawn_55.f (l.length + 1) l m = some r ∧ (r = true ↔ l = m) := by
    unfold api_Spawn_55.f
    by_cases q : (l.length : Int) = (m.length : Int)
    · rw [if_pos q]
      exact eq55_l (by omega) hb (l.length + 1) 0 (by omega) (Nat.zero_le _)
    · rw [if_neg q]
      exact ⟨false, rfl, ⟨fun x => (by cases x), fun x => absurd (by rw [x]) q⟩⟩
  obtain ⟨r, hf, hr⟩ := H
  have e : r = t := by
    cases r <;> cases t <;> simp_all
  subst e
  exact (api_Spawn_55.calls _ A c l B d m r w h0 k0 h1 k1 hf).mono fun _ _ k => ⟨k.1, k.2.below⟩

theorem eq53_l {l m : List Int} (hl : l.length = m.length) (hb : l.length ≤ 9223372036854775807) : ∀ k i : Nat, l.length + 1 ≤ k + i → i ≤ l.length → ∃ r, slices_Equal_int_int.l0 k l m (l.length : Int) (i : Int) = some r ∧ (r = true ↔ l.drop i = m.drop i)
  | 0, i, h1, h2 => by omega
  | k + 1, i, h1, h2 => by
    rw [slices_Equal_int_int.l0]
    by_cases q : (i : Int) < (l.length : Int)
    · have hi : i < l.length := by omega
      have hj : i < m.length := by omega
      have e1 : rd l (i : Int) = l[i] := rdD l 0 hi
      have e2 : rd m (i : Int) = m[i] := rdD m 0 hj
      have hd := drop_iff hi hj
      rw [if_pos q, if_pos (by omega), if_pos q, if_pos (by omega), e1, e2, IntWalk.wrap64_in _ (by omega)]
      by_cases c : l[i] = m[i]
      · rw [if_pos c]
        obtain ⟨r, h, hr⟩ := eq53_l hl hb k (i + 1) (by omega) (by omega)
        exact ⟨r, h, by rw [hr, hd]; exact ⟨fun x => ⟨c, x⟩, fun x => x.2⟩⟩
      · rw [if_neg c]
        exact ⟨false, rfl, by rw [hd]; exact ⟨fun x => (by cases x), fun x => absurd x.1 c⟩⟩
    · rw [if_neg q]
      exact ⟨true, rfl, by rw [List.drop_of_length_le (by omega), List.drop_of_length_le (by omega)]; simp⟩
theorem eq53 {w : World} {A B : Option Addr} {c d : Nat} {l m : List Int} {t : Bool} (ht : t = true ↔ l = m) (hb : l.length ≤ 9223372036854775807) (h0 : Kd.C (Kd.int .i64) w A l.length l) (k0 : l.length ≤ c) (h1 : Kd.C (Kd.int .i64) w B m.length m) (k1 : m.length ≤ d) :
    Calls Try.prog 53 #[.slice A l.length c, .slice B m.length d] w fun e w' => e = .returned (.bool t) ∧ ∃ n, w' = w.drewN n := by
  have H : ∃ r, slices_Equal_int_int.f (l.length + 1) l m = some r ∧ (r = true ↔ l = m) := by
    unfold slices_Equal_int_int.f
    by_cases q : (l.length : Int) = (m.length : Int)
    · rw [if_pos q]
      exact eq53_l (by omega) hb (l.length + 1) 0 (by omega) (Nat.zero_le _)
    · rw [if_neg q]
      exact ⟨false, rfl, ⟨fun x => (by cases x), fun x => absurd (by rw [x]) q⟩⟩
  obtain ⟨r, hf, hr⟩ := H
  have e : r = t := by
    cases r <;> cases t <;> simp_all
  subst e
  exact (slices_Equal_int_int.calls _ A c l B d m r w h0 k0 h1 k1 hf).mono fun _ _ k => ⟨k.1, k.2.out⟩

set_option maxHeartbeats 4000000 in
set_option maxRecDepth 100000 in
theorem eq54 {w : World} {A B : Option Addr} {c d : Nat} {l m : List (List Int)} {t : Bool} (ht : t = true ↔ l = m) (hb : l.length ≤ 9223372036854775807) (hr : ∀ x ∈ l, x.length ≤ 9223372036854775807) (h0 : Kd.C (Kd.slice 3 (Kd.int .i64)) w A l.length l) (h1 : Kd.C (Kd.slice 3 (Kd.int .i64)) w B m.length m) :
    Calls Try.prog 54 #[.slice A l.length c, .slice B m.length d, .func (.func 53) #[] #[]] w fun e w' => e = .returned (.bool t) ∧ Below w.heap.size w w' := by
  have HT := Aside0.mk ht
  have HL := Aside0.mk h0
  have HM := Aside0.mk h1
  have HR := Aside0.mk hr
  have hb9 : (l.length : Int) ≤ 9223372036854775807 := by omega
  have HB := Aside0.mk (Below.refl w.heap.size w)
  clear ht h0 h1 hr hb
  by_cases q : l.length = m.length
  rotate_left
  · have q1 : ((l.length : Int) == (m.length : Int)) = false := beq_eq_false_iff_ne.mpr (by omega)
    have q2 : (l.length == m.length) = false := beq_eq_false_iff_ne.mpr q
    have ef : Aside0 (t = false) := ⟨by cases t; rfl; exact absurd (congrArg List.length (HT.out.1 rfl)) q⟩
    go_enter Try.func54, Try.ntmps54
    go_wp2_with (fail)
    go_ret
    exact ⟨by rw [ef.out]; rfl, HB.out⟩
  have q1 : ((l.length : Int) == (m.length : Int)) = true := beq_iff_eq.mpr (by omega)
  have q2 : (l.length == m.length) = true := beq_iff_eq.mpr q
  have q3 : ((l.length : Int) != (m.length : Int)) = false := by rw [bne, q1]; rfl
  have HQ := Aside0.mk q
  clear q
  go_enter Try.func54, Try.ntmps54
  go_upto_region 3 with (fail)
  clear q1 q2 q3
  go_wp2_with (fail)
  go_loopw [17] (fun v17 wx => ∃ i : Nat, v17 = .int .i64 (i : Int) ∧ i ≤ l.length ∧ Aside0 (l.take i = m.take i) ∧ Aside0 (Below w.heap.size w wx)) (fun v17 _ => l.length - (intOf v17).toNat)
  case atStart => exact ⟨0, rfl, Nat.zero_le _, ⟨rfl⟩, HB⟩
  case round =>
    clear HB
    obtain ⟨i, rfl, hin, HE, HB⟩ := hrel
    by_cases hlt : i < l.length
    · have hltb : decide (i < l.length) = true := decide_eq_true hlt
      have HI := Aside0.mk hlt
      have hlm : i < m.length := by have := HQ.out; omega
      have hi0 : (0 : Int) ≤ (i : Int) := by omega
      have hi1 : (i : Int) < (l.length : Int) := by omega
      have hi2 : (i : Int) < (m.length : Int) := by omega
      obtain ⟨ad, A0, c0, e, x0, k0, r0⟩ := at_L1 (Kd.C_below HL.out HB.out) (i : Int) hi0 hi1
      subst e
      obtain ⟨bd, B0, d0, e, y0, k1, r1⟩ := at_L1 (Kd.C_below HM.out HB.out) (i : Int) hi0 hi2
      subst e
      rw [Int.toNat_natCast] at x0 y0
      have e1 : rd_L1 l (i : Int) = l[i] := rdD l [] hlt
      have e2 : rd_L1 m (i : Int) = m[i] := rdD m [] hlm
      rw [e1] at x0 k0 r0
      rw [e2] at y0 k1 r1
      have HX : Aside0 (l[i].length ≤ 9223372036854775807) := ⟨HR.out _ (List.getElem_mem hlt)⟩
      have K0 := Aside0.mk k0
      have K1 := Aside0.mk k1
      have R0 := Aside0.mk r0
      have R1 := Aside0.mk r1
      have HS : Aside0 (l[i] = m[i] → l.take (i + 1) = m.take (i + 1)) := ⟨fun h => by rw [List.take_add_one, List.take_add_one, HE.out, List.getElem?_eq_getElem hlt, List.getElem?_eq_getElem hlm, h]⟩
      have HN : Aside0 (l[i] ≠ m[i] → l ≠ m) := ⟨fun h e => by subst e; exact h rfl⟩
      generalize l[i] = x at x0 HX K0 R0 HS HN
      generalize m[i] = y at y0 K1 R1 HS HN
      clear e1 e2 k0 k1 r0 r1 hlm hlt hin
      by_cases c : x = y
      · have HD : Aside0 (true = true ↔ x = y) := ⟨⟨fun _ => c, fun _ => rfl⟩⟩
        have HC := Aside0.mk c
        clear c
        go_wp2_with (first | (go_at_call 53; (with_reducible refine (eq53 HD.out HX.out R0.out K0.out R1.out K1.out).mono ?_); rintro e w53 ⟨rfl, nd, rfl⟩; have n0_ := Aside0.mk (pw_below_drewN HB.out nd); clear HB; have HB := n0_; clear n0_))
        go_roundw
        case rel => exact ⟨i + 1, by go_num, HI.out, ⟨HS.out HC.out⟩, HB⟩
        case measure => have := HI.out; simp [intOf]; omega
      · have HD : Aside0 (false = true ↔ x = y) := ⟨⟨fun h => (by cases h), fun h => absurd h c⟩⟩
        have ef : Aside0 (t = false) := ⟨by
          have := HN.out c
          cases ht : t
          · rfl
          · exact absurd (HT.out.1 ht) this⟩
        go_wp2_with (first | (go_at_call 53; (with_reducible refine (eq53 HD.out HX.out R0.out K0.out R1.out K1.out).mono ?_); rintro e w53 ⟨rfl, nd, rfl⟩; have n0_ := Aside0.mk (pw_below_drewN HB.out nd); clear HB; have HB := n0_; clear n0_))
        go_ret
        exact ⟨by rw [ef.out]; rfl, HB.out⟩
    · have hltb : decide (i < l.length) = false := decide_eq_false hlt
      have et : Aside0 (t = true) := ⟨HT.out.2 (by have h := HE.out; rw [List.take_of_length_le (by omega), List.take_of_length_le (by have := HQ.out; omega)] at h; exact h)⟩
      go_wp2_with (fail)
      go_ret
      exact ⟨by rw [et.out]; rfl, HB.out⟩

end Go.Proofs.Ytdgaklldijkoaaa.PCode
