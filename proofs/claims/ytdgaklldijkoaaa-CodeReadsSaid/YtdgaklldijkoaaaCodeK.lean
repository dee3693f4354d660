import Derived.Test.YtdgaklldijkoaaaPCodex0
import Derived.Test.YtdgaklldijkoaaaCodeH
import Derived.Test.YtdgaklldijkoaaaCodeJ
import Derived.BigQuiet
import Derived.IntWalk
import Derived.WalkMore
import Derived.Laws.EntriesVeiled
import Derived.StillTailTactics
import Derived.Laws.BitsAllLaws
import Derived.Laws.BitsLemmas
import Derived.Laws.Strings
import Derived.Lib.SlBytesConst
namespace Go.Proofs.Ytdgaklldijkoaaa.PCode
open Go.RowKit Go.Proofs.YtdgaklldijkoaaaW.PrintWords Go.Proofs.YtdgaklldijkoaaaW.PrintLast Go.Proofs.YtdgaklldijkoaaaW.PrintMore
attribute [local go_sem] max2_int min2_int max_two min_two max_three min_three max_four min_four
set_option linter.unusedVariables false
set_option linter.unusedSimpArgs false
/-! What was written is read as it was. -/
def W64 (x : Int) : Prop := -9223372036854775808 ≤ x ∧ x ≤ 9223372036854775807
theorem fromLE_le : ∀ (k : Nat) (u : Int), 0 ≤ u → u < 256 ^ k → fromLE (le k u) = u
  | 0, u, h0, h1 => by
    have : u = 0 := by simp at h1; omega
    subst this; rfl
  | k + 1, u, h0, h1 => by
    have h2 : u / 256 < 256 ^ k := by
      rw [Int.pow_succ] at h1
      exact Int.ediv_lt_of_lt_mul (by decide) h1
    rw [le, fromLE, fromLE_le k (u / 256) (by omega) h2]
    omega
theorem le_fromLE : ∀ l : List Int, Byt l → le l.length (fromLE l) = l
  | [], _ => rfl
  | x :: l, h => by
    have h1 := h x (by simp)
    have h2 := fromLE_bd l (fun y hy => h y (by simp [hy]))
    rw [fromLE, List.length_cons, le, show (x + 256 * fromLE l) % 256 = x by omega, show (x + 256 * fromLE l) / 256 = fromLE l by omega, le_fromLE l (fun y hy => h y (by simp [hy]))]
theorem rget_app {k : Nat} (x t : List Int) (hx : x.length = k) : rgetV k (x ++ t, false) = fromLE x ∧ rgetS k (x ++ t, false) = (t, false) := by
  subst hx
  unfold rgetV rgetS
  have q : ¬ ((x ++ t, false).2 = true ∨ (x ++ t, false).1.length < x.length) := by
    rintro (h | h)
    · cases h
    · rw [List.length_append] at h; omega
  rw [if_neg q, if_neg q]
  simp
theorem wrap_u64 {x : Int} (h : W64 x) : wrap64 (IntKind.u64.wrap x) = x := by
  have e : IntKind.u64.wrap x = x % 18446744073709551616 := rfl
  obtain ⟨h1, h2⟩ := h
  rw [e]; unfold wrap64; omega
theorem rnum_app {x : Int} (h : W64 x) (t : List Int) : rnumV (num8 x ++ t, false) = x ∧ rnumS (num8 x ++ t, false) = (t, false) := by
  have g := rget_app (num8 x) t (num8_len x)
  unfold rnumV rnumS
  rw [g.1, g.2]
  refine ⟨?_, rfl⟩
  have hb := u64_bd x
  unfold num8
  rw [fromLE_le 8 _ hb.1 (by have := hb.2; simpa using this), wrap_u64 h]
theorem rrow_app : ∀ (r t : List Int), (∀ x ∈ r, W64 x) → rrowV r.length (nums8 r ++ t, false) = r ∧ rrowS r.length (nums8 r ++ t, false) = (t, false)
  | [], t, _ => ⟨rfl, rfl⟩
  | x :: r, t, h => by
    have e : nums8 (x :: r) ++ t = num8 x ++ (nums8 r ++ t) := by show (num8 x ++ nums8 r) ++ t = _; rw [List.append_assoc]
    have g := rnum_app (h x (by simp)) (nums8 r ++ t)
    have ih := rrow_app r t (fun y hy => h y (by simp [hy]))
    rw [e, List.length_cons]
    constructor
    · rw [rrowV, g.1, g.2, ih.1]
    · rw [rrowS, g.2, ih.2]
theorem rtake_app {m : Nat} : ∀ (l : List (List Int)) (t : List Int), (∀ r ∈ l, r.length = m ∧ ∀ x ∈ r, W64 x) → rtakeV m l.length (rowsB l ++ t, false) = l ∧ rtakeS m l.length (rowsB l ++ t, false) = (t, false)
  | [], t, _ => ⟨rfl, rfl⟩
  | r :: l, t, h => by
    have e : rowsB (r :: l) ++ t = nums8 r ++ (rowsB l ++ t) := by show (nums8 r ++ rowsB l) ++ t = _; rw [List.append_assoc]
    obtain ⟨h1, h2⟩ := h r (by simp)
    have g := rrow_app r (rowsB l ++ t) h2
    rw [h1] at g
    have ih := rtake_app l t (fun y hy => h y (by simp [hy]))
    rw [e, List.length_cons]
    constructor
    · rw [rtakeV, if_neg (by simp), g.1, g.2, ih.1]
    · rw [rtakeS, if_neg (by simp), g.2, ih.2]
theorem rlist_app {m : Nat} (l : List (List Int)) (t : List Int) (hn : l.length < 65536) (h : ∀ r ∈ l, r.length = m ∧ ∀ x ∈ r, W64 x) : rlistV m (layB l ++ t, false) = l ∧ rlistS m (layB l ++ t, false) = (t, false) := by
  have e : layB l ++ t = le 2 (l.length : Int) ++ (rowsB l ++ t) := by unfold layB; rw [List.append_assoc]
  have g := rget_app (le 2 (l.length : Int)) (rowsB l ++ t) (le_len 2 _)
  rw [fromLE_le 2 _ (by omega) (by simp; omega)] at g
  have k := rtake_app l t h
  unfold rlistV rlistS
  rw [e, g.1, g.2, Int.toNat_natCast]
  exact k
/-- All numbers are of 64 bits. -/
structure Pg.Wf (p : Pg) : Prop where
  a : ∀ x ∈ p.a, W64 x.f0 ∧ W64 x.f1 ∧ W64 x.f2
  b : ∀ x ∈ p.b, W64 x.f0 ∧ W64 x.f1 ∧ W64 x.f2
  c : ∀ x ∈ p.c, W64 x.f0 ∧ W64 x.f1
  d : W64 p.d
  e : ∀ x ∈ p.e, W64 x
  f : ∀ x ∈ p.f, W64 x
  g : ∀ x ∈ p.g, ∀ y ∈ x, W64 y
  h : ∀ x ∈ p.h, W64 x.f0 ∧ W64 x.f1
  i : W64 p.i
/-- What is left behind a program. -/
def decS (s : RS) : RS :=
  let s1 := rlistS 3 s; let s2 := rlistS 3 s1; let s3 := rlistS 2 s2; let s4 := rnumS s3; let s5 := rlistS 1 s4; let s6 := rlistS 1 s5; let s7 := rlistS (rlistV 1 s5).length s6; let s8 := rlistS 2 s7
  rnumS s8
theorem rows_of {α : Type} {m : Nat} {f : α → List Int} {l : List α} (hm : ∀ x, (f x).length = m) (h : ∀ x ∈ l, ∀ y ∈ f x, W64 y) : ∀ r ∈ l.map f, r.length = m ∧ ∀ x ∈ r, W64 x := by
  intro r hr
  obtain ⟨x, hx, rfl⟩ := List.mem_map.1 hr
  exact ⟨hm x, h x hx⟩
theorem map_back {α β : Type} {f : α → β} {g : β → α} (h : ∀ x, g (f x) = x) (l : List α) : (l.map f).map g = l := by
  rw [List.map_map]
  conv => rhs; rw [← List.map_id l]
  exact List.map_congr_left (fun x _ => h x)
theorem encB_at (p : Pg) (t : List Int) : (encB p).drop 2 ++ t = layB (p.a.map toL44) ++ (layB (p.b.map toL46) ++ (layB (p.c.map toL56) ++ (num8 p.d ++ (layB (p.e.map (fun x => [x])) ++ (layB (p.f.map (fun x => [x])) ++ (layB p.g ++ (layB (p.h.map toL65) ++ (num8 p.i ++ t)))))))) := by
  have e : encB p = 83 :: 66 :: (layB (p.a.map toL44) ++ layB (p.b.map toL46) ++ layB (p.c.map toL56) ++ num8 p.d ++ layB (p.e.map (fun x => [x])) ++ layB (p.f.map (fun x => [x])) ++ layB p.g ++ layB (p.h.map toL65) ++ num8 p.i) := by
    unfold encB; simp only [List.append_assoc, List.cons_append, List.nil_append]
  rw [e]
  simp only [List.drop_succ_cons, List.drop_zero, List.append_assoc]
theorem dec_app {p : Pg} (hw : p.Wf) (hk : p.Ok) (t : List Int) : decP ((encB p).drop 2 ++ t, false) = p ∧ decS ((encB p).drop 2 ++ t, false) = (t, false) := by
  rw [encB_at]
  have a := fun t => rlist_app (m := 3) (p.a.map toL44) t (by rw [List.length_map]; have := hk.a; omega) (rows_of (fun _ => rfl) (fun x hx y hy => by have := hw.a x hx; simp only [toL44, List.mem_cons, List.not_mem_nil, or_false] at hy; rcases hy with rfl | rfl | rfl; exact this.1; exact this.2.1; exact this.2.2))
  have b := fun t => rlist_app (m := 3) (p.b.map toL46) t (by rw [List.length_map]; have := hk.b; omega) (rows_of (fun _ => rfl) (fun x hx y hy => by have := hw.b x hx; simp only [toL46, List.mem_cons, List.not_mem_nil, or_false] at hy; rcases hy with rfl | rfl | rfl; exact this.1; exact this.2.1; exact this.2.2))
  have c := fun t => rlist_app (m := 2) (p.c.map toL56) t (by rw [List.length_map]; have := hk.c; omega) (rows_of (fun _ => rfl) (fun x hx y hy => by have := hw.c x hx; simp only [toL56, List.mem_cons, List.not_mem_nil, or_false] at hy; rcases hy with rfl | rfl; exact this.1; exact this.2))
  have d := fun t => rnum_app hw.d t
  have e := fun t => rlist_app (m := 1) (p.e.map (fun x => [x])) t (by rw [List.length_map]; have := hk.e; omega) (rows_of (fun _ => rfl) (fun x hx y hy => by cases List.mem_singleton.1 hy; exact hw.e x hx))
  have f := fun t => rlist_app (m := 1) (p.f.map (fun x => [x])) t (by rw [List.length_map]; have := hk.f; omega) (rows_of (fun _ => rfl) (fun x hx y hy => by cases List.mem_singleton.1 hy; exact hw.f x hx))
  have g := fun t => rlist_app (m := p.f.length) p.g t (by have := hk.g; omega) (fun r hr => ⟨hk.v r hr, hw.g r hr⟩)
  have h := fun t => rlist_app (m := 2) (p.h.map toL65) t (by rw [List.length_map]; have := hk.h; omega) (rows_of (fun _ => rfl) (fun x hx y hy => by have := hw.h x hx; simp only [toL65, List.mem_cons, List.not_mem_nil, or_false] at hy; rcases hy with rfl | rfl; exact this.1; exact this.2))
  have i := fun t => rnum_app hw.i t
  unfold decP decS
  simp only [(a _).1, (a _).2, (b _).1, (b _).2, (c _).1, (c _).2, (d _).1, (d _).2, (e _).1, (e _).2, (f _).1, (f _).2, List.length_map, (g _).1, (g _).2, (h _).1, (h _).2, (i _).1, (i _).2, and_true]
  rw [map_back (g := of44) (fun _ => rfl), map_back (g := of46) (fun _ => rfl), map_back (g := of56) (fun _ => rfl), map_back (g := hd0) (fun _ => rfl), map_back (g := hd0) (fun _ => rfl), map_back (g := of65) (fun _ => rfl)]
theorem encB_two (p : Pg) : ∃ r, encB p = 83 :: 66 :: r ∧ r = (encB p).drop 2 := by
  have e : encB p = 83 :: 66 :: (layB (p.a.map toL44) ++ layB (p.b.map toL46) ++ layB (p.c.map toL56) ++ num8 p.d ++ layB (p.e.map (fun x => [x])) ++ layB (p.f.map (fun x => [x])) ++ layB p.g ++ layB (p.h.map toL65) ++ num8 p.i) := by
    unfold encB; simp only [List.append_assoc, List.cons_append, List.nil_append]
  exact ⟨_, e, by rw [e]; rfl⟩
theorem encB_len (p : Pg) : 18 ≤ (encB p).length := by
  unfold encB
  simp only [List.length_append, num8_len, List.length_cons, List.length_nil]
  omega
theorem dec_enc {p : Pg} (hw : p.Wf) (hk : p.Ok) : dec (encB p) = (p, 0) := by
  have h := (dec_app hw hk []).1
  rw [List.append_nil] at h
  have hl := encB_len p
  unfold dec
  rw [if_neg (by omega), h, if_pos ⟨Pg.may_ok.2 hk, rfl⟩]
/-! What is read is of 64 bits. -/
theorem wrap_W64 (x : Int) : W64 (wrap64 x) := by unfold W64 wrap64; omega
theorem rnum_W64 (s : RS) : W64 (rnumV s) := wrap_W64 _
theorem rrow_W64 : ∀ (m : Nat) (s : RS), ∀ x ∈ rrowV m s, W64 x
  | 0, _, x, hx => by cases hx
  | m + 1, s, x, hx => by
    rcases List.mem_cons.1 hx with rfl | hx
    · exact rnum_W64 s
    · exact rrow_W64 m _ x hx
theorem rtake_W64 {m : Nat} : ∀ (n : Nat) (s : RS), ∀ r ∈ rtakeV m n s, ∀ x ∈ r, W64 x
  | 0, _, r, hr => by cases hr
  | n + 1, s, r, hr => by
    unfold rtakeV at hr
    split at hr
    · cases hr
    · rcases List.mem_cons.1 hr with rfl | hr
      · exact rrow_W64 m s
      · exact rtake_W64 n _ r hr
theorem getD_W64 {r : List Int} (h : ∀ x ∈ r, W64 x) (k : Nat) : W64 (r.getD k 0) := by
  rw [List.getD_eq_getElem?_getD]
  cases e : r[k]? with
  | none => exact ⟨by decide, by decide⟩
  | some x => exact h x (List.mem_of_getElem? e)
theorem rlist_W64 (m : Nat) (s : RS) : ∀ r ∈ rlistV m s, ∀ x ∈ r, W64 x := rtake_W64 _ _
theorem decP_wf (s : RS) : (decP s).Wf := by
  have M : ∀ (m : Nat) (s : RS) {α : Type} (f : List Int → α) (x : α), x ∈ (rlistV m s).map f → ∃ r, (∀ y ∈ r, W64 y) ∧ f r = x := by
    intro m s α f x hx
    obtain ⟨r, hr, e⟩ := List.mem_map.1 hx
    exact ⟨r, rlist_W64 m s r hr, e⟩
  refine ⟨fun x hx => ?_, fun x hx => ?_, fun x hx => ?_, rnum_W64 _, fun x hx => ?_, fun x hx => ?_, rlist_W64 _ _, fun x hx => ?_, rnum_W64 _⟩
  · obtain ⟨r, hr, rfl⟩ := M _ _ of44 x hx
    exact ⟨getD_W64 hr 0, getD_W64 hr 1, getD_W64 hr 2⟩
  · obtain ⟨r, hr, rfl⟩ := M _ _ of46 x hx
    exact ⟨getD_W64 hr 0, getD_W64 hr 1, getD_W64 hr 2⟩
  · obtain ⟨r, hr, rfl⟩ := M _ _ of56 x hx
    exact ⟨getD_W64 hr 0, getD_W64 hr 1⟩
  · obtain ⟨r, hr, rfl⟩ := M _ _ hd0 x hx
    exact getD_W64 hr 0
  · obtain ⟨r, hr, rfl⟩ := M _ _ hd0 x hx
    exact getD_W64 hr 0
  · obtain ⟨r, hr, rfl⟩ := M _ _ of65 x hx
    exact ⟨getD_W64 hr 0, getD_W64 hr 1⟩
/-- What is decoded encodes to its bytes. -/
theorem dec_ok {b : List Int} (h : (dec b).2 = 0) : (dec b).1.Wf ∧ (dec b).1.Ok ∧ encB (dec b).1 = b := by
  unfold dec at h ⊢
  by_cases q : b.length < 2
  · rw [if_pos q] at h; exact absurd h (by decide)
  · rw [if_neg q] at h ⊢
    by_cases r : (decP (b.drop 2, false)).may = true ∧ encB (decP (b.drop 2, false)) = b
    · rw [if_pos r]
      exact ⟨decP_wf _, Pg.may_ok.1 r.1, r.2⟩
    · rw [if_neg r] at h; exact absurd h (by decide)
theorem dec_code (b : List Int) : (dec b).2 = 0 ∨ (dec b).2 = 5 := by
  unfold dec
  split
  · exact .inr rfl
  · split
    · exact .inl rfl
    · exact .inr rfl

end Go.Proofs.Ytdgaklldijkoaaa.PCode
