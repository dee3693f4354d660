/-
  Reduction leaves just those who are in some deadlocked set.
-/
import Derived.Test.YtdbcmmckjlbffaaHoltODeadLib
namespace Go.Proofs.Ytdbcmmckjlbffaa.HoltOKit
open Go.RowKit Go.Proofs.Ytdbcmmckjlbffaa.PHoltO Go.Proofs.Ytdbcmmckjlbffaa.EvKit Go.Proofs.YtdbcmmckjlbffaaW.PrintWords Go.Proofs.YtdbcmmckjlbffaaW.PrintLast
set_option linter.unusedVariables false
set_option linter.unusedSimpArgs false

def sumR (f : Nat → Int) : Nat → Int
  | 0 => 0
  | n + 1 => sumR f n + f n
theorem sumR_congr {f g : Nat → Int} : ∀ n : Nat, (∀ q, q < n → f q = g q) → sumR f n = sumR g n
  | 0, _ => rfl
  | n + 1, h => by rw [sumR, sumR, sumR_congr n (fun q hq => h q (by omega)), h n (by omega)]
theorem sumR_le {f g : Nat → Int} : ∀ n : Nat, (∀ q, q < n → f q ≤ g q) → sumR f n ≤ sumR g n
  | 0, _ => Int.le_refl _
  | n + 1, h => by
    have a := sumR_le (f := f) (g := g) n (fun q hq => h q (by omega))
    have b := h n (by omega)
    rw [sumR, sumR]; omega
theorem sumR_one {f g : Nat → Int} {i : Nat} : ∀ n : Nat, i < n → (∀ q, q < n → q ≠ i → f q = g q) → sumR f n = sumR g n + (f i - g i)
  | 0, hi, _ => absurd hi (Nat.not_lt_zero i)
  | n + 1, hi, h => by
    rw [sumR, sumR]
    by_cases e : i = n
    · subst e
      rw [sumR_congr i (fun q hq => h q (by omega) (by omega))]
      omega
    · rw [sumR_one n (by omega) (fun q hq hne => h q (by omega) hne), h n (by omega) (fun z => e z.symm)]
      omega
theorem fits_same {k a b : List Int} (hl : a.length = b.length) (h : ∀ j : Nat, j < a.length → rd a j = rd b j) : fitsU k a = fitsU k b := by
  rw [Bool.eq_iff_iff, fitsU_iff, fitsU_iff]
  constructor
  · rintro ⟨h1, h2⟩
    exact ⟨by omega, fun i hi => by rw [← h i (by omega)]; exact h2 i hi⟩
  · rintro ⟨h1, h2⟩
    exact ⟨by omega, fun i hi => by rw [h i (by omega)]; exact h2 i hi⟩
theorem fits_mono {k a b : List Int} (hl : a.length = b.length) (h : ∀ j : Nat, j < a.length → rd a j ≤ rd b j) (q : fitsU k a = true) : fitsU k b = true := by
  rw [fitsU_iff] at q ⊢
  exact ⟨by omega, fun i hi => Int.le_trans (q.2 i hi) (h i (by omega))⟩
section
variable {l0 : List Int} {H K : Nat → List Int} {n : Nat}
/-- What the rows are. -/
def Rows_ (l0 : List Int) (H : Nat → List Int) (n : Nat) : Prop := ∀ i, i < n → (H i).length = l0.length ∧ ∀ j : Nat, j < l0.length → 0 ≤ rd (H i) j
/-- What there is when those of p hold what they do, and the others have given it back. -/
def Vl (l0 : List Int) (H : Nat → List Int) (n : Nat) (p : Nat → Bool) (th : List Int) : Prop := th.length = l0.length ∧ ∀ j : Nat, j < l0.length → rd th j = rd l0 j + sumR (fun q => if p q = true then 0 else rd (H q) j) n
theorem Vl.first : Vl l0 H n (fun q => decide (q ∈ List.range n)) l0 := ⟨rfl, fun j hj => by
  have e : sumR (fun q => if decide (q ∈ List.range n) = true then 0 else rd (H q) j) n = sumR (fun _ => 0) n := sumR_congr n (fun q hq => by rw [if_pos (by simp [hq])])
  have z : ∀ m : Nat, sumR (fun _ => (0 : Int)) m = 0 := fun m => by
    induction m with
    | zero => rfl
    | succ m ih => rw [sumR, ih]; rfl
  rw [e, z]; simp⟩
theorem Vl.turn {th : List Int} {L : List Nat} {i : Nat} (g : Rows_ l0 H n) (h : Vl l0 H n (fun q => decide (q ∈ L)) th) (hn : L.Nodup) (hi : i ∈ L) (hl : i < n) : Vl l0 H n (fun q => decide (q ∈ L.erase i)) (addN th (H i) (H i).length) := by
  obtain ⟨g1, g2⟩ := g i hl
  refine ⟨by rw [addN_len]; exact h.1, fun j hj => ?_⟩
  have e3 : ∀ q, q ∈ L.erase i ↔ q ≠ i ∧ q ∈ L := fun q => hn.mem_erase_iff
  rw [addN_at, if_pos ⟨by omega, by rw [h.1]; exact hj⟩, h.2 j hj]
  rw [sumR_one (f := fun q => if decide (q ∈ L.erase i) = true then 0 else rd (H q) j) (g := fun q => if decide (q ∈ L) = true then 0 else rd (H q) j) n hl (fun q hq hne => by
    by_cases z : q ∈ L
    · rw [if_pos (by simpa using (e3 q).2 ⟨hne, z⟩), if_pos (by simpa using z)]
    · rw [if_neg (by simpa using fun y => z ((e3 q).1 y).2), if_neg (by simpa using z)])]
  simp only
  rw [if_neg (by simpa using fun y => ((e3 i).1 y).1 rfl), if_pos (by simpa using hi)]
  omega
/-- Each of p asks for more than there is. -/
def Dead (l0 : List Int) (H K : Nat → List Int) (n : Nat) (p : Nat → Bool) : Prop := ∀ th, Vl l0 H n p th → ∀ i, i < n → p i = true → fitsU (K i) th = false
theorem Vl.le {p p' : Nat → Bool} {a b : List Int} (g : Rows_ l0 H n) (ha : Vl l0 H n p a) (hb : Vl l0 H n p' b) (h : ∀ i, i < n → p' i = true → p i = true) : ∀ j : Nat, j < a.length → rd a j ≤ rd b j := by
  intro j hj
  rw [ha.1] at hj
  rw [ha.2 j hj, hb.2 j hj]
  have := sumR_le (f := fun q => if p q = true then 0 else rd (H q) j) (g := fun q => if p' q = true then 0 else rd (H q) j) n (fun q hq => by
    have := (g q hq).2 j hj
    by_cases z : p' q = true
    · simp only [z, h q hq z, if_true]; omega
    · by_cases y : p q = true
      · simp only [y, if_true, if_neg z]; omega
      · simp only [if_neg y, if_neg z]; omega)
  omega
/-- There is such a list. -/
theorem Vl.some (p : Nat → Bool) : ∃ th, Vl l0 H n p th := by
  refine ⟨(List.range l0.length).map (fun (j : Nat) => rd l0 (j : Int) + sumR (fun q => if p q = true then 0 else rd (H q) (j : Int)) n), by simp, fun j hj => ?_⟩
  rw [rd_at (by simpa using hj)]
  simp
theorem stays {p : Nat → Bool} {th : List Int} {L : List Nat} (g : Rows_ l0 H n) (D : Dead l0 H K n p) (h : Vl l0 H n (fun q => decide (q ∈ L)) th) (hp : ∀ i, i < n → p i = true → i ∈ L) : ∀ i, i < n → p i = true → fitsU (K i) th = false := by
  intro i hi hpi
  obtain ⟨tv, hv⟩ := Vl.some (l0 := l0) (H := H) (n := n) p
  have h1 := D tv hv i hi hpi
  cases q : fitsU (K i) th with
  | false => rfl
  | true =>
    rw [fits_mono (by rw [h.1, hv.1]) (h.le g hv (fun i hi hpi => by simpa using hp i hi hpi)) q] at h1
    cases h1
theorem Dead_congr {l0 : List Int} {H K : Nat → List Int} {n : Nat} {p p' : Nat → Bool} (h : ∀ i, i < n → p i = p' i) (D : Dead l0 H K n p) : Dead l0 H K n p' := fun th hv i hi hp =>
  D th ⟨hv.1, fun j hj => by rw [hv.2 j hj]; congr 1; exact sumR_congr n (fun q hq => by rw [h q hq])⟩ i hi (by rw [h i hi]; exact hp)
theorem pass_inv (g : Rows_ l0 H n) {p : Nat → Bool} (D : Dead l0 H K n p) : ∀ (d i : Nat) (th : List Int) (L : List Nat) (out : List Int) (t : Bool), i + d = n → Vl l0 H n (fun q => decide (q ∈ L)) th → L.Nodup → (∀ i, i < n → p i = true → i ∈ L) →
    Vl l0 H n (fun q => decide (q ∈ (hpass H K d i th L out t).2.1)) (hpass H K d i th L out t).1 ∧ (hpass H K d i th L out t).2.1.Nodup ∧ (∀ x ∈ (hpass H K d i th L out t).2.1, x ∈ L) ∧ (∀ x, x < n → p x = true → x ∈ (hpass H K d i th L out t).2.1)
  | 0, i, th, L, out, t, hd, hv, hn, hp => ⟨hv, hn, fun _ h => h, hp⟩
  | d + 1, i, th, L, out, t, hd, hv, hn, hp => by
    unfold hpass
    by_cases hi : i ∈ L
    · rw [if_pos hi]
      by_cases hf : units_Fits.f (K i) th = some true
      · rw [if_pos hf]
        have hil : i < n := by omega
        have hpi : ¬ p i = true := fun z => by
          have := stays g D hv hp i hil z
          rw [fits, this] at hf
          cases hf
        obtain ⟨a1, a2, a3, a4⟩ := pass_inv g D d (i + 1) _ (L.erase i) out true (by omega) (hv.turn g hn hi hil) (hn.erase i) (fun j hj hpj => (List.mem_erase_of_ne (fun e => hpi (by rw [← e]; exact hpj))).2 (hp j hj hpj))
        exact ⟨a1, a2, fun j hj => List.mem_of_mem_erase (a3 j hj), a4⟩
      · rw [if_neg hf]
        exact pass_inv g D d (i + 1) th L _ t (by omega) hv hn hp
    · rw [if_neg hi]
      exact pass_inv g D d (i + 1) th L out t (by omega) hv hn hp
theorem pass_inv0 (g : Rows_ l0 H n) (d i : Nat) (th : List Int) (L : List Nat) (out : List Int) (t : Bool) (hd : i + d = n) (hv : Vl l0 H n (fun q => decide (q ∈ L)) th) (hn : L.Nodup) :
    Vl l0 H n (fun q => decide (q ∈ (hpass H K d i th L out t).2.1)) (hpass H K d i th L out t).1 ∧ (hpass H K d i th L out t).2.1.Nodup ∧ (∀ x ∈ (hpass H K d i th L out t).2.1, x ∈ L) := by
  obtain ⟨a1, a2, a3, _⟩ := pass_inv (K := K) g (p := fun _ => false) (fun _ _ _ _ h => by cases h) d i th L out t hd hv hn (fun _ _ h => by cases h)
  exact ⟨a1, a2, a3⟩
/-- What reduction leaves. -/
theorem red_inv (g : Rows_ l0 H n) : ∀ (m : Nat) (th : List Int) (L : List Nat), L.length < m → Vl l0 H n (fun q => decide (q ∈ L)) th → L.Nodup → (∀ i ∈ L, i < n) →
    ∃ (L' : List Nat) (th' : List Int), Vl l0 H n (fun q => decide (q ∈ L')) th' ∧ (∀ i ∈ L', i < n) ∧ hred H K n m th L = left L' 0 n ∧ (∀ j ∈ L', fitsU (K j) th' = false) ∧ ∀ p, Dead l0 H K n p → (∀ i, i < n → p i = true → i ∈ L) → ∀ i, i < n → p i = true → i ∈ L'
  | 0, _, _, hm, _, _, _ => absurd hm (Nat.not_lt_zero _)
  | m + 1, th, L, hm, hv, hn, hl => by
    have hi := pass_inv0 (K := K) g n 0 th L [] false (by omega) hv hn
    have hp := fun p (D : Dead l0 H K n p) => pass_inv (K := K) g D n 0 th L [] false (by omega) hv hn
    have hls := (hpass_less H K n 0 th L [] false).2
    have hno := hpass_no (H := H) (K := K) n 0 th L []
    rw [hred]
    generalize hpass H K n 0 th L [] false = P at hi hp hls hno ⊢
    obtain ⟨th', L', out', t'⟩ := P
    simp only at hi hp hls hno ⊢
    obtain ⟨i1, i2, i3⟩ := hi
    cases t' with
    | true =>
      rw [if_pos rfl]
      obtain ⟨L2, th2, a1, a2, a3, a4, a5⟩ := red_inv g m th' L' (by rcases hls rfl with q | q; (cases q); omega) i1 i2 (fun i h => hl i (i3 i h))
      exact ⟨L2, th2, a1, a2, a3, a4, fun p D hq => a5 p D (hp p D hq).2.2.2⟩
    | false =>
      rw [if_neg (by simp)]
      obtain ⟨rfl, rfl, e, f⟩ := hno rfl
      exact ⟨L', th', hv, hl, by rw [e, List.nil_append], fun j hj => f j (Nat.zero_le _) (by have := hl j hj; omega) hj, fun p D hq => hq⟩
end
section
variable {l0 : List Int} {l1 l2 : List (List Int)}
theorem ok_rows (ok : holt_Ok l0 l1 l2) : Rows_ l0 (fun i => rd_L1 l1 (i : Int)) l1.length := fun i hi => ⟨(ok.hl i hi).1, fun j hj => ((ok.hl i hi).2 j hj).1⟩
abbrev DeadL (l0 : List Int) (l1 l2 : List (List Int)) (p : Nat → Bool) : Prop := Dead l0 (fun i => rd_L1 l1 (i : Int)) (fun i => rd_L1 l2 (i : Int)) l1.length p
/-- Those who are left are the greatest deadlocked set. -/
theorem stuck_is (ok : holt_Ok l0 l1 l2) : ∃ L : List Nat, (∀ i ∈ L, i < l1.length) ∧ stuckL l0 l1 l2 = left L 0 l1.length ∧ DeadL l0 l1 l2 (fun q => decide (q ∈ L)) ∧ ∀ p, DeadL l0 l1 l2 p → ∀ i, i < l1.length → p i = true → i ∈ L := by
  obtain ⟨L, th, a1, a2, a3, a4, a5⟩ := red_inv (K := fun i => rd_L1 l2 (i : Int)) (ok_rows ok) (l1.length + 1) l0 (List.range l1.length) (by simp) Vl.first List.nodup_range (fun i hi => List.mem_range.1 hi)
  refine ⟨L, a2, a3, fun tv hv i hi hL => ?_, fun p D i hi hp => a5 p D (fun i hi _ => List.mem_range.2 hi) i hi hp⟩
  rw [← a4 i (by simpa using hL)]
  exact fits_same (by rw [hv.1, a1.1]) (fun j hj => by rw [hv.1] at hj; rw [hv.2 j hj, a1.2 j hj])
theorem mem_stuck (ok : holt_Ok l0 l1 l2) {i : Nat} (hi : i < l1.length) : (i : Int) ∈ stuckL l0 l1 l2 ↔ ∃ p, DeadL l0 l1 l2 p ∧ p i = true := by
  obtain ⟨L, a1, a2, a3, a4⟩ := stuck_is ok
  rw [a2, mem_lefts]
  constructor
  · rintro ⟨j, e, _, _, hj⟩
    obtain rfl : i = j := by omega
    exact ⟨_, a3, by simpa using hj⟩
  · rintro ⟨p, D, hp⟩
    exact ⟨i, rfl, Nat.zero_le _, by omega, a4 p D i hi hp⟩
theorem fo_val {H : Nat → List Int} {s : List Int} {n : Nat} (g : Rows_ l0 H n) : ∀ (d i : Nat) (th : List Int), i + d = n → th.length = l0.length → (∀ j : Nat, j < l0.length → rd th j = rd l0 j + sumR (fun q => if decide ((q : Int) ∈ s) = true then 0 else rd (H q) j) i) → Vl l0 H n (fun q => decide ((q : Int) ∈ s)) (fo H s d i th)
  | 0, i, th, hd, hl, h => by
    obtain rfl : i = n := by omega
    exact ⟨hl, h⟩
  | d + 1, i, th, hd, hl, h => by
    obtain ⟨g1, g2⟩ := g i (by omega)
    rw [fo]
    by_cases c : (i : Int) ∈ s
    · rw [if_pos c]
      refine fo_val g d (i + 1) th (by omega) hl (fun j hj => ?_)
      rw [sumR, if_pos (by simpa using c), h j hj]; omega
    · rw [if_neg c]
      refine fo_val g d (i + 1) _ (by omega) (by rw [addN_len]; exact hl) (fun j hj => ?_)
      rw [sumR, if_neg (by simpa using c), addN_at, if_pos ⟨by omega, by omega⟩, h j hj]; omega
/-- A set that rises: whether it is deadlocked. -/
theorem dead_iff (ok : holt_Ok l0 l1 l2) {s : List Int} (hS : Srt s l1.length) : deadC l0 l1 l2 s = true ↔ DeadL l0 l1 l2 (fun q => decide ((q : Int) ∈ s)) := by
  have V := fo_val (s := s) (ok_rows ok) l1.length 0 l0 (by omega) rfl (fun j hj => by rw [sumR]; omega)
  unfold deadC
  rw [if_pos hS]
  simp only [Bool.not_eq_true', List.any_eq_false]
  constructor
  · intro h tv hv i hi hq
    have h1 := h (i : Int) (by simpa using hq)
    rw [Bool.not_eq_true] at h1
    rw [← h1]
    exact fits_same (by rw [hv.1, V.1]) (fun j hj => by rw [hv.1] at hj; rw [hv.2 j hj, V.2 j hj])
  · intro h x hx
    obtain ⟨q, hq, e⟩ := mem_rd.1 hx
    have hz := hS q hq
    rw [e] at hz
    obtain ⟨i, rfl⟩ : ∃ i : Nat, x = (i : Int) := ⟨x.toNat, by omega⟩
    rw [h _ V i (by omega) (by simpa using hx)]
    simp
theorem left_srt (L : List Nat) : ∀ (d i n : Nat), i + d ≤ n → Srt (left L i d) n ∧ ∀ q : Nat, q < (left L i d).length → (i : Int) ≤ rd (left L i d) (q : Int)
  | 0, i, n, _ => ⟨fun q hq => by rw [left_zero] at hq; simp at hq, fun q hq => by rw [left_zero] at hq; simp at hq⟩
  | d + 1, i, n, h => by
    obtain ⟨s1, s2⟩ := left_srt L d (i + 1) n (by omega)
    by_cases c : i ∈ L
    · rw [left_yes c]
      have r0 : rd ((i : Int) :: left L (i + 1) d) ((0 : Nat) : Int) = (i : Int) := rfl
      have rs (q : Nat) : rd ((i : Int) :: left L (i + 1) d) ((q + 1 : Nat) : Int) = rd (left L (i + 1) d) (q : Int)  := by unfold rd; rw [Int.toNat_natCast, Int.toNat_natCast]; rfl
      constructor
      · intro q hq
        cases q with
        | zero => rw [r0]; exact ⟨by omega, by omega, fun z => absurd z (Nat.lt_irrefl 0)⟩
        | succ q =>
          rw [rs]
          simp only [List.length_cons] at hq
          obtain ⟨b1, b2, b3⟩ := s1 q (by omega)
          refine ⟨b1, b2, fun _ => ?_⟩
          rw [Nat.add_sub_cancel]
          cases q with
          | zero =>
            rw [r0]
            have := s2 0 (by omega)
            omega
          | succ q =>
            rw [rs]
            have := b3 (by omega)
            rw [Nat.add_sub_cancel] at this
            exact this
      · intro q hq
        cases q with
        | zero => rw [r0]; exact Int.le_refl _
        | succ q =>
          rw [rs]
          simp only [List.length_cons] at hq
          have := s2 q (by omega)
          omega
    · rw [left_no c]
      exact ⟨s1, fun q hq => by have := s2 q hq; omega⟩
end
end Go.Proofs.Ytdbcmmckjlbffaa.HoltOKit
