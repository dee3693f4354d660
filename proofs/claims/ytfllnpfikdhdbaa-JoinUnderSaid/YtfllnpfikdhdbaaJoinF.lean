import Derived.Test.YtfllnpfikdhdbaaPProcsx0
import Derived.Test.YtfllnpfikdhdbaaJoinE
import Derived.StillTailTactics
import Derived.Laws.LoneSync
import Derived.Laws.EntriesVeiled
import Derived.IntWalk
import Derived.Deep.RegionHeld3
import Derived.WalkMore
import Derived.ScopeJumps
namespace Go.Proofs.Ytfllnpfikdhdbaa.PProcs
open Go.RowKit Go.Proofs.YtfllnpfikdhdbaaW.PrintWords Go.Proofs.YtfllnpfikdhdbaaW.PrintLast Go.Proofs.YtfllnpfikdhdbaaW.PrintMore
attribute [local go_sem] max2_int min2_int max_two min_two max_three min_three max_four min_four
set_option linter.unusedVariables false
set_option linter.unusedSimpArgs false
theorem without_f (l : List Int) (x : Int) (hl : l.length ≤ 1000) : ∀ (k i : Nat) (acc : List Int), l.length + 1 ≤ k + i → i ≤ l.length → acc.length ≤ i → signalboxref1_Without.l0 k l x acc (i : Int) = some (acc ++ (l.drop i).filter (fun y => y != x))
  | 0, i, acc, h1, h2, h3 => by omega
  | k + 1, i, acc, h1, h2, h3 => by
    rw [signalboxref1_Without.l0]
    by_cases q : (i : Int) < (l.length : Int)
    · have hi : i < l.length := by omega
      have e : rd l (i : Int) = l[i] := by
        show l.getD (i : Int).toNat 0 = _
        rw [Int.toNat_natCast, List.getD_eq_getElem?_getD, List.getElem?_eq_getElem hi]; rfl
      rw [if_pos q, if_pos (by omega), IntWalk.wrap64_in _ (by omega), List.drop_eq_getElem_cons hi, e]
      by_cases p : l[i] = x
      · rw [if_pos p, List.filter_cons_of_neg (by simp [p])]
        exact without_f l x hl k (i + 1) acc (by omega) (by omega) (by omega)
      · rw [if_neg p, if_pos (by omega), List.filter_cons_of_pos (by simp [p])]
        have := without_f l x hl k (i + 1) (acc ++ [l[i]]) (by omega) (by omega) (by rw [List.length_append]; simp; omega)
        rw [List.append_assoc] at this
        exact this
    · rw [if_neg q, List.drop_of_length_le (by omega)]
      simp
def lenOf : Value → Nat | .slice _ n _ => n | _ => 0
def JT (w0 w : World) (b n : Nat) (r0 : Row) (left : List Int) (rs : List Row) : Prop := TB w b w0.heap.size 30 rs ∧ Below w0.heap.size w0 w ∧ JW r0 n left rs ∧ n ≤ 20
def OL (w0 w : World) (v : Value) (left : List Int) : Prop := Kd.R (Kd.int .i64) 3 w w0.heap.size (fun _ => True) v left
theorem OL.below {w0 w w' : World} {v : Value} {left : List Int} (h : OL w0 w v left) (hb : Below w.heap.size w w') : OL w0 w' v left := Kd.R_below h hb
theorem OL.fr {w0 w w' : World} {v : Value} {left : List Int} (h : OL w0 w v left) (hf : Fr [73, 79] w w') : OL w0 w' v left := R_fr h hf (by intro q hq; rcases List.mem_cons.1 hq with rfl | hq; exact (by decide); cases hq)
theorem OL.at_ {w0 w : World} {A : Option Addr} {n c : Nat} {left : List Int} (h : OL w0 w (.slice A n c) left) (k : Int) (h0 : 0 ≤ k) (h1 : k < (left.length : Int)) : ∃ ad, A = some ad ∧ w.cell? (ad.add k.toNat) = some (.int .i64 (rd left k)) := Kd.at_int (Kd.R_reads' h).2.2 k h0 h1
section
variable {w0 w : World} {b n : Nat} {r0 : Row} {left : List Int} {rs : List Row}
theorem JT.below (h : JT w0 w b n r0 left rs) {w' : World} (hb : Below w.heap.size w w') : JT w0 w' b n r0 left rs := ⟨h.1.below hb, below_step h.2.1 hb, h.2.2⟩
theorem JT.at (h : JT w0 w b n r0 left rs) : Below w0.heap.size w0 w := h.2.1
theorem JT.len (h : JT w0 w b n r0 left rs) : rs.length ≤ 1000000 := by have := h.2.2.1.1; have := h.2.2.2; omega
theorem JT.grow (h : JT w0 w b n r0 left rs) {w' : World} (hf : Fr [3] w w') (hb : Below w0.heap.size w0 w') : JT w0 w' b n r0 left rs := ⟨h.1.fr hf (by decide) (by decide), hb, h.2.2⟩
theorem jt_spawn (h : JT w0 w b n rowR left rs) (hn : n < 20) : Calls Try.prog 13 #[.pointer (some ⟨b, 0, none⟩), .int .i64 1] w fun e w' => e = .returned (.tuple #[.int .i64 ((n : Int) + 2), .int .i64 0]) ∧ Fr [73, 79] w w' ∧ JT w0 w' b (n + 1) rowR (left ++ [(n : Int) + 2]) (rs ++ [kidJ]) := by
  have e := h.2.2.1.spawn (by omega)
  have H := spawn_any 1 h.2.1 h.1 h.len
  rw [e] at H
  exact H.mono fun _ _ k => ⟨k.1, k.2.2.1, k.2.1, k.2.2.2, h.2.2.1.more, hn⟩
theorem jt_join (h : JT w0 w b n rowR left rs) (q : left ≠ []) : Calls Try.prog 33 #[.pointer (some ⟨b, 0, none⟩), .int .i64 1] w fun e w' => e = .returned (.bool false) ∧ Fr [73, 79] w w' ∧ JT w0 w' b n rowB left (rs.set 0 rowB) := by
  have e := h.2.2.1.join q
  have H := join_any 1 h.2.1 h.1 h.len
  rw [e.1] at H
  exact H.mono fun _ _ k => ⟨k.1, k.2.2.1, k.2.1, k.2.2.2, e.2, h.2.2.2⟩
theorem jt_joined (h : JT w0 w b n rowR [] rs) : Calls Try.prog 33 #[.pointer (some ⟨b, 0, none⟩), .int .i64 1] w fun e w' => e = .returned (.bool true) ∧ Fr [73, 79] w w' ∧ JT w0 w' b n rowR [] rs := by
  have e := h.2.2.1.joined
  have H := join_any 1 h.2.1 h.1 h.len
  rw [e] at H
  exact H.mono fun _ _ k => ⟨k.1, k.2.2.1, k.2.1, k.2.2.2, h.2.2⟩
theorem jt_last (x c : Int) (h : JT w0 w b n rowB left rs) (hx : x ∈ left) (q : left.filter (fun y => y != x) = []) : Calls Try.prog 35 #[.pointer (some ⟨b, 0, none⟩), .int .i64 x, .int .i64 c] w fun e w' => e = .returned (.tuple #[.int .i64 1, .bool true]) ∧ Fr [73, 79] w w' ∧ ∃ rs', JT w0 w' b n rowR [] rs' := by
  have e := h.2.2.1.end_ (c := c) hx
  have H := jend_any x c h.2.1 h.1 h.len
  rw [e.1, (e.2.1 q).1] at H
  exact H.mono fun _ _ k => ⟨k.1, k.2.2.1, _, k.2.1, k.2.2.2, (e.2.1 q).2, h.2.2.2⟩
theorem jt_end (x c : Int) (h : JT w0 w b n rowB left rs) (hx : x ∈ left) (q : left.filter (fun y => y != x) ≠ []) : Calls Try.prog 35 #[.pointer (some ⟨b, 0, none⟩), .int .i64 x, .int .i64 c] w fun e w' => e = .returned (.tuple #[.int .i64 0, .bool true]) ∧ Fr [73, 79] w w' ∧ ∃ rs', JT w0 w' b n rowB (left.filter (fun y => y != x)) rs' := by
  have e := h.2.2.1.end_ (c := c) hx
  have H := jend_any x c h.2.1 h.1 h.len
  rw [e.1, (e.2.2 q).1] at H
  exact H.mono fun _ _ k => ⟨k.1, k.2.2.1, _, k.2.1, k.2.2.2, (e.2.2 q).2, h.2.2.2⟩
theorem jt_state (h : JT w0 w b n r0 left rs) : Calls Try.prog 24 #[.pointer (some ⟨b, 0, none⟩), .int .i64 1] w fun e w' => e = .returned (.int .i64 r0.st) ∧ Below w.heap.size w w' ∧ JT w0 w' b n r0 left rs :=
  (state_any 1 h.1.tv h.len).mono fun _ _ k => ⟨by rw [k.1, h.2.2.1.row1], k.2, h.below k.2⟩
theorem jt_stateR (h : JT w0 w b n rowR left rs) : Calls Try.prog 24 #[.pointer (some ⟨b, 0, none⟩), .int .i64 1] w fun e w' => e = .returned (.int .i64 1) ∧ Below w.heap.size w w' ∧ JT w0 w' b n rowR left rs := jt_state h
theorem jt_stateB (h : JT w0 w b n rowB left rs) : Calls Try.prog 24 #[.pointer (some ⟨b, 0, none⟩), .int .i64 1] w fun e w' => e = .returned (.int .i64 2) ∧ Below w.heap.size w w' ∧ JT w0 w' b n rowB left rs := jt_state h
theorem filt_lt {x : Int} (h : x ∈ left) : (left.filter (fun y => y != x)).length < left.length := List.length_filter_lt_length_iff_exists.2 ⟨x, h, by simp⟩
theorem rd_mem {k : Int} (h0 : 0 ≤ k) (h1 : k < (left.length : Int)) : rd left k ∈ left := by
  have hk : k.toNat < left.length := by omega
  have e : rd left k = left[k.toNat] := by
    show left.getD k.toNat 0 = _
    rw [List.getD_eq_getElem?_getD, List.getElem?_eq_getElem hk]; rfl
  rw [e]
  exact List.getElem_mem hk
theorem jt_without {A : Option Addr} {m c : Nat} (x : Int) (h : OL w0 w (.slice A m c) left) (hl : left.length ≤ 1000) (hb : Below w0.heap.size w0 w) : Calls Try.prog 38 #[.slice A m c, .int .i64 x] w fun e w' => (∃ A' m' c', e = .returned (.slice A' m' c') ∧ OL w0 w' (.slice A' m' c') (left.filter (fun y => y != x)) ∧ m' = (left.filter (fun y => y != x)).length) ∧ Below w.heap.size w w' := by
  obtain ⟨e1, e2, e3⟩ := Kd.R_reads' h
  subst e1
  refine (signalboxref1_Without.calls (left.length + 1) A c left x _ w e3 e2 (without_f left x hl (left.length + 1) 0 [] (by omega) (by omega) (by simp))).mono fun _ _ ⟨v, k1, k2, k3⟩ => ⟨?_, k3⟩
  obtain ⟨A', c', rfl⟩ := Kd.R_slice k2
  exact ⟨A', _, c', k1, Kd.R_lower k2 (below_size hb), rfl⟩
theorem jt_new (w0 : World) : Calls Try.prog 11 #[.int .i64 30] w0 fun e w' => ∃ b, e = .returned (.tuple #[.pointer (some ⟨b, 0, none⟩), .int .i64 0]) ∧ TB w' b w0.heap.size 30 js0 ∧ Below w0.heap.size w0 w' :=
  (new_yes w0 30 (by decide) (by decide)).mono fun _ _ ⟨b, k⟩ => ⟨b, k.1, k.2.1, k.2.2⟩
theorem jt_s1 (hB : Below w0.heap.size w0 w) (h : TB w b w0.heap.size 30 js0) : Calls Try.prog 13 #[.pointer (some ⟨b, 0, none⟩), .int .i64 0] w fun e w' => e = .returned (.tuple #[.int .i64 1, .int .i64 0]) ∧ JT w0 w' b 0 rowR [] js1 :=
  (spawn_any 0 hB h (by decide)).mono fun _ _ k => ⟨k.1, k.2.1, k.2.2.2, JW.start _ rfl, by decide⟩
end
set_option maxHeartbeats 8000000 in
set_option maxRecDepth 100000 in
theorem waits_any (w : World) (n c : Int) (A : Option Addr) (cp : Nat) (l : List Int) (hr : Kd.C (Kd.int .i64) w A l.length l) : Calls Try.prog 8 #[.int .i64 n, .slice A l.length cp, .int .i64 c] w fun e w' => e = .returned (.bool true) ∧ Below w.heap.size w w' := by
  have HR := Aside0.mk hr
  clear hr
  by_cases h1 : n < 1
  · have h1b : decide (n < 1) = true := decide_eq_true h1
    go_enter Try.func8, Try.ntmps8
    go_wp2_with (first | (go_at_call 32; (with_reducible refine (awake10_any _).mono ?_); rintro e w32 ⟨rfl, hb⟩; have HZ9 := Aside0.mk (hb); clear hb))
    go_ret
    exact ⟨rfl, HZ9.out⟩
  · have h1b : decide (n < 1) = false := decide_eq_false h1
    by_cases h2 : n > 20
    · have h2b : decide (n > 20) = true := decide_eq_true h2
      go_enter Try.func8, Try.ntmps8
      go_wp2_with (first | (go_at_call 32; (with_reducible refine (awake10_any _).mono ?_); rintro e w32 ⟨rfl, hb⟩; have HZ9 := Aside0.mk (hb); clear hb))
      go_ret
      exact ⟨rfl, HZ9.out⟩
    · have h2b : decide (n > 20) = false := decide_eq_false h2
      by_cases h3 : (l.length : Int) > 40
      · have h3b : decide ((l.length : Int) > 40) = true := decide_eq_true h3
        go_enter Try.func8, Try.ntmps8
        go_wp2_with (first | (go_at_call 32; (with_reducible refine (awake10_any _).mono ?_); rintro e w32 ⟨rfl, hb⟩; have HZ9 := Aside0.mk (hb); clear hb))
        go_ret
        exact ⟨rfl, HZ9.out⟩
      · have h3b : decide ((l.length : Int) > 40) = false := decide_eq_false h3
        obtain ⟨m, rfl⟩ : ∃ m : Nat, n = (m : Int) := ⟨n.toNat, by omega⟩
        have hm1 : 1 ≤ m := by omega
        have hm2 : m ≤ 20 := by omega
        have h40 : l.length ≤ 40 := by omega
        go_enter Try.func8, Try.ntmps8
        go_wp2_with (first | (go_at_call 11; (with_reducible refine (jt_new _).mono ?_); rintro e w1 ⟨b, rfl, ht, hb⟩; have HT := Aside0.mk ht; have HB := Aside0.mk hb; clear ht hb) | (go_at_call 13; (with_reducible refine (jt_s1 HB.out HT.out).mono ?_); rintro e w2 ⟨rfl, hh⟩; clear HT HB; have HJ := Aside0.mk hh; clear hh) | ((with_reducible refine gate_dst (N := 36) rfl ?_); refine Kd.R_lit (Kd.int .i64) _ 3 ?hg (N := 36) ?hd (xs := ([] : List Int)) (inner := []) (ok := fun _ => True) (okp := fun _ => True) ?hr ?hp (fun _ hk => hk) trivial (Below.refl _ _) (Nat.le_refl _) (by simp) ?_; (case hd => rfl); (case hg => rfl); (case hr => first | (go_simp; done) | (go_simp; rfl)); (case hp => exact (Reps.none _ _)); intro v36 w36 ho hb hg_ hnew_; have HO : Aside0 (OL w w36 v36 []) := Aside0.mk (Kd.R_lower ho (below_size HJ.out.at)); have n1_ := Aside0.mk (HJ.out.below hb); clear HJ ho hb hg_ hnew_; have HJ := n1_; clear n1_))
        go_loopw [9, 10] (fun v9 v10 wx => ∃ (i : Nat) (left : List Int) (rs : List Row), v10 = .int .i64 (i : Int) ∧ i ≤ m ∧ left.length = i ∧ Aside0 (OL w wx v9 left) ∧ Aside0 (JT w wx b i rowR left rs)) (fun _ v10 _ => m - (intOf v10).toNat)
        case atStart => exact ⟨0, [], _, rfl, Nat.zero_le _, rfl, HO, HJ⟩
        case round =>
          clear HJ HO
          obtain ⟨i, left, rs, rfl, him, hll, HO, HJ⟩ := hrel
          obtain ⟨u9_, e9_⟩ : ∃ v, v = u9 := ⟨_, rfl⟩
          subst e9_
          by_cases hlt : i < m
          · have hltb : decide (i < m) = true := decide_eq_true hlt
            have HI := Aside0.mk hlt
            have HN9 : Aside0 (i < 20) := ⟨by omega⟩
            have HLL := Aside0.mk hll
            have hi20 : (i : Int) ≤ 20 := by omega
            clear him hll
            go_wp2_with (first | (go_at_call 13; (with_reducible refine (jt_spawn HJ.out HN9.out).mono ?_); rintro e w13 ⟨rfl, hf, hh⟩; have n0_ := Aside0.mk (HO.out.fr hf); clear HJ HO; have HJ := Aside0.mk hh; have HO := n0_; clear n0_ hh hf) | ((with_reducible refine gate_builtin (b := .append) (xs := #[.tmp 49, .tmp 51]) rfl ?_); at_builtin; refine Kd.R_append (Kd.int .i64) (w0 := w) w.heap.size rfl (.tmp 49) (.tmp 51) 42 3 (.int .i64 0) 8 rfl Try.underlying42 info3 rfl (by decide) (by omega) u9_ left ((i : Int) + 2) [.int .i64 ((i : Int) + 2)] (fun _ => True) (fun _ => False) rfl rfl ?aP (fun _ hk => hk.elim) ?aF ?aO ?aB ?aS ?aL ?_; (case aP => exact rfl); (case aB => exact HJ.out.at); (case aF => exact (fun _ _ => trivial)); (case aO => exact HO.out); (case aS => exact (below_size HJ.out.at)); (case aL => have := HLL.out; have := HN9.out; omega); intro v31 w31 ho hb hg hat; have n0_ := Aside0.mk (HJ.out.grow (Fr.of_grown (S := [3]) hg (fun k hk => by obtain ⟨cells, hc⟩ := own_typed HO.out.2.choose_spec.1 k hk; exact ⟨cells, 3, (0, 0), hc, by simp⟩)) hb); have n1_ : Aside0 (OL w w31 v31 (left ++ [(i : Int) + 2])) := Aside0.mk ho; clear HJ HO ho hb hg hat; have HJ := n0_; have HO := n1_; clear n0_ n1_))
            go_roundw
            case rel => exact ⟨i + 1, _, _, by go_num, HI.out, by rw [List.length_append, HLL.out]; rfl, HO, HJ⟩
            case measure => have := HI.out; simp [intOf]; omega
          · have hltb : decide (i < m) = false := decide_eq_false hlt
            obtain rfl : i = m := by omega
            have HLQ : Aside0 (left ≠ []) := ⟨fun e => by rw [e] at hll; simp at hll; omega⟩
            have HLL := Aside0.mk hll
            clear him hll hlt
            obtain ⟨i9, ei9⟩ : ∃ q : Nat, q = i := ⟨_, rfl⟩
            subst ei9
            go_upto_region 15 with (first | (go_at_call 33; (with_reducible refine (jt_join HJ.out HLQ.out).mono ?_); rintro e w33 ⟨rfl, hf, hh⟩; have n0_ := Aside0.mk (HO.out.fr hf); clear HJ HO; have HJ := Aside0.mk hh; have HO := n0_; clear n0_ hh hf))
            obtain ⟨A8, c8, rfl⟩ := Kd.R_slice HO.out
            have H20 : Aside0 (0 + left.length ≤ 20) := ⟨by have := HLL.out; omega⟩
            go_wp2_with (fail)
            go_loopw [9, 13] (fun v9 v13 wx => ∃ (i : Nat) (left : List Int) (rs : List Row), v13 = .int .i64 (i : Int) ∧ i + left.length ≤ 20 ∧ Aside0 (OL w wx v9 left) ∧ Aside0 (JT w wx b i9 (if left = [] then rowR else rowB) left rs)) (fun v9 _ _ => lenOf v9)
            case atStart => exact ⟨0, left, _, rfl, H20.out, HO, ⟨by rw [if_neg HLQ.out]; exact HJ.out⟩⟩
            case round =>
              clear HJ HO HLQ HLL H20
              obtain ⟨i, left, rs, rfl, hil, HO, HJ⟩ := hrel
              have HIL := Aside0.mk hil
              obtain ⟨A9, c9, rfl⟩ := Kd.R_slice HO.out
              by_cases hz : left = []
              · subst hz
                have n0_ : Aside0 (JT w wr b i9 rowR [] rs) := ⟨by have h := HJ.out; rw [if_pos rfl] at h; exact h⟩
                clear HJ
                have HJ := n0_
                clear n0_
                go_wp2_with (first | (go_at_call 33; (with_reducible refine (jt_joined HJ.out).mono ?_); rintro e w33 ⟨rfl, hf, hh⟩; clear HJ hf; have HJ := Aside0.mk hh; clear hh) | (go_at_call 32; (with_reducible refine (awake10_any _).mono ?_); rintro e w32 ⟨rfl, hb⟩; have HZ9 := Aside0.mk (below_step HJ.out.at hb); clear hb))
                go_ret
                exact ⟨rfl, HZ9.out⟩
              · have n0_ : Aside0 (JT w wr b i9 rowB left rs) := ⟨by have h := HJ.out; rw [if_neg hz] at h; exact h⟩
                clear HJ
                have HJ := n0_
                clear n0_
                have hpos : 0 < left.length := List.length_pos_iff.2 hz
                have hposb : decide (0 < left.length) = true := decide_eq_true hpos
                have HL9 : Aside0 (left.length ≤ 1000) := ⟨by omega⟩
                have hi20 : (i : Int) ≤ 20 := by omega
                clear hz
                by_cases hio : i < l.length
                · have hiob : decide (i < l.length) = true := decide_eq_true hio
                  obtain ⟨ae, eE, hxe⟩ := Kd.at_int (Kd.C_below HR.out HJ.out.at) (i : Int) (by omega) (by omega)
                  subst eE
                  generalize rd l (i : Int) = z at hxe
                  have hxe2 : wr.cell? (ae.add i) = some (.int .i64 z) := hxe
                  clear hxe
                  by_cases hzp : z > 0
                  · have hzb : decide (z > 0) = true := decide_eq_true hzp
                    have hn0 : ¬ left.length = 0 := by omega
                    go_upto_region 21 with (fail)
                    have hk0 : 0 ≤ z % (left.length : Int) := Int.emod_nonneg _ (by omega)
                    have hk1 : z % (left.length : Int) < (left.length : Int) := Int.emod_lt_of_pos z (by omega)
                    generalize z % (left.length : Int) = K at hk0 hk1 ⊢
                    obtain ⟨ad, eA, hxk⟩ := HO.out.at_ (K) hk0 hk1
                    subst eA
                    have hxm := rd_mem hk0 hk1
                    generalize rd left (K) = x at hxk hxm
                    have HX := Aside0.mk hxm
                    skip
                    have hlt2 := Aside0.mk (filt_lt hxm)
                    clear hxm
                    by_cases hq : left.filter (fun y => y != x) = []
                    · have HQ := Aside0.mk hq
                      go_wp2_with (first | (go_at_call 38; (with_reducible refine (jt_without x HO.out HL9.out HJ.out.at).mono ?_); rintro e w38 ⟨⟨A3, m3, c3, rfl, ho, hm3⟩, hb⟩; have n0_ := Aside0.mk (HJ.out.below hb); clear HJ HO hb; have HJ := n0_; have HO := Aside0.mk ho; clear n0_ ho; have hz3 : m3 = 0 := hm3.trans (congrArg List.length HQ.out); subst hz3; clear hm3) | (go_at_call 35; (with_reducible refine (jt_last x c HJ.out HX.out HQ.out).mono ?_); rintro e w35 ⟨rfl, hf, ⟨rs2, hh⟩⟩; have n0_ := Aside0.mk (HO.out.fr hf); clear HJ HO; have HJ := Aside0.mk hh; have HO := n0_; clear n0_ hh hf) | (go_at_call 24; (with_reducible refine (jt_stateR HJ.out).mono ?_); rintro e w24 ⟨rfl, hb, hh⟩; have n0_ := Aside0.mk (HO.out.below hb); clear HJ HO hb; have HJ := Aside0.mk hh; have HO := n0_; clear n0_ hh))
                      go_roundw
                      case rel => exact ⟨i + 1, [], _, by go_num, by have := hlt2.out; have := HIL.out; simp; omega, ⟨by have h := HO.out; rw [HQ.out] at h; exact h⟩, ⟨by rw [if_pos rfl]; exact HJ.out⟩⟩
                      case measure => have := hlt2.out; rw [HQ.out] at this; simpa [lenOf] using this
                    · have HQ := Aside0.mk hq
                      go_wp2_with (first | (go_at_call 38; (with_reducible refine (jt_without x HO.out HL9.out HJ.out.at).mono ?_); rintro e w38 ⟨⟨A3, m3, c3, rfl, ho, hm3⟩, hb⟩; have n0_ := Aside0.mk (HJ.out.below hb); clear HJ HO hb; have HJ := n0_; have HO := Aside0.mk ho; clear n0_ ho; have HM3 := Aside0.mk hm3; have h3n : ¬ m3 = 0 := fun e => HQ.out (List.eq_nil_of_length_eq_zero (hm3.symm.trans e)); have hb3 : ((m3 : Int) == 0) = false := beq_eq_false_iff_ne.mpr (by omega); have hb4 : (m3 == 0) = false := beq_eq_false_iff_ne.mpr h3n; clear hm3) | (go_at_call 35; (with_reducible refine (jt_end x c HJ.out HX.out HQ.out).mono ?_); rintro e w35 ⟨rfl, hf, ⟨rs2, hh⟩⟩; have n0_ := Aside0.mk (HO.out.fr hf); clear HJ HO; have HJ := Aside0.mk hh; have HO := n0_; clear n0_ hh hf) | (go_at_call 24; (with_reducible refine (jt_stateB HJ.out).mono ?_); rintro e w24 ⟨rfl, hb, hh⟩; have n0_ := Aside0.mk (HO.out.below hb); clear HJ HO hb; have HJ := Aside0.mk hh; have HO := n0_; clear n0_ hh))
                      go_roundw
                      case rel => exact ⟨i + 1, _, _, by go_num, by have := hlt2.out; have := HIL.out; omega, HO, ⟨by rw [if_neg HQ.out]; exact HJ.out⟩⟩
                      case measure => have := hlt2.out; simpa [lenOf, HM3.out] using this
                  · have hzb : decide (z > 0) = false := decide_eq_false hzp
                    go_upto_region 21 with (fail)
                    have hk0 : (0 : Int) ≤ 0 := Int.le_refl _
                    have hk1 : (0 : Int) < (left.length : Int) := by omega
                    obtain ⟨ad, eA, hxk⟩ := HO.out.at_ (0) hk0 hk1
                    subst eA
                    have hxm := rd_mem hk0 hk1
                    generalize rd left (0) = x at hxk hxm
                    have HX := Aside0.mk hxm
                    have hxk2 : wr.cell? ad = some (.int .i64 x) := hxk
                    have hxk3 : wr.cell? (ad.add 0) = some (.int .i64 x) := hxk
                    have hlt2 := Aside0.mk (filt_lt hxm)
                    clear hxm
                    by_cases hq : left.filter (fun y => y != x) = []
                    · have HQ := Aside0.mk hq
                      go_wp2_with (first | (go_at_call 38; (with_reducible refine (jt_without x HO.out HL9.out HJ.out.at).mono ?_); rintro e w38 ⟨⟨A3, m3, c3, rfl, ho, hm3⟩, hb⟩; have n0_ := Aside0.mk (HJ.out.below hb); clear HJ HO hb; have HJ := n0_; have HO := Aside0.mk ho; clear n0_ ho; have hz3 : m3 = 0 := hm3.trans (congrArg List.length HQ.out); subst hz3; clear hm3) | (go_at_call 35; (with_reducible refine (jt_last x c HJ.out HX.out HQ.out).mono ?_); rintro e w35 ⟨rfl, hf, ⟨rs2, hh⟩⟩; have n0_ := Aside0.mk (HO.out.fr hf); clear HJ HO; have HJ := Aside0.mk hh; have HO := n0_; clear n0_ hh hf) | (go_at_call 24; (with_reducible refine (jt_stateR HJ.out).mono ?_); rintro e w24 ⟨rfl, hb, hh⟩; have n0_ := Aside0.mk (HO.out.below hb); clear HJ HO hb; have HJ := Aside0.mk hh; have HO := n0_; clear n0_ hh))
                      go_roundw
                      case rel => exact ⟨i + 1, [], _, by go_num, by have := hlt2.out; have := HIL.out; simp; omega, ⟨by have h := HO.out; rw [HQ.out] at h; exact h⟩, ⟨by rw [if_pos rfl]; exact HJ.out⟩⟩
                      case measure => have := hlt2.out; rw [HQ.out] at this; simpa [lenOf] using this
                    · have HQ := Aside0.mk hq
                      go_wp2_with (first | (go_at_call 38; (with_reducible refine (jt_without x HO.out HL9.out HJ.out.at).mono ?_); rintro e w38 ⟨⟨A3, m3, c3, rfl, ho, hm3⟩, hb⟩; have n0_ := Aside0.mk (HJ.out.below hb); clear HJ HO hb; have HJ := n0_; have HO := Aside0.mk ho; clear n0_ ho; have HM3 := Aside0.mk hm3; have h3n : ¬ m3 = 0 := fun e => HQ.out (List.eq_nil_of_length_eq_zero (hm3.symm.trans e)); have hb3 : ((m3 : Int) == 0) = false := beq_eq_false_iff_ne.mpr (by omega); have hb4 : (m3 == 0) = false := beq_eq_false_iff_ne.mpr h3n; clear hm3) | (go_at_call 35; (with_reducible refine (jt_end x c HJ.out HX.out HQ.out).mono ?_); rintro e w35 ⟨rfl, hf, ⟨rs2, hh⟩⟩; have n0_ := Aside0.mk (HO.out.fr hf); clear HJ HO; have HJ := Aside0.mk hh; have HO := n0_; clear n0_ hh hf) | (go_at_call 24; (with_reducible refine (jt_stateB HJ.out).mono ?_); rintro e w24 ⟨rfl, hb, hh⟩; have n0_ := Aside0.mk (HO.out.below hb); clear HJ HO hb; have HJ := Aside0.mk hh; have HO := n0_; clear n0_ hh))
                      go_roundw
                      case rel => exact ⟨i + 1, _, _, by go_num, by have := hlt2.out; have := HIL.out; omega, HO, ⟨by rw [if_neg HQ.out]; exact HJ.out⟩⟩
                      case measure => have := hlt2.out; simpa [lenOf, HM3.out] using this
                · have hiob : decide (i < l.length) = false := decide_eq_false hio
                  go_upto_region 21 with (fail)
                  have hk0 : (0 : Int) ≤ 0 := Int.le_refl _
                  have hk1 : (0 : Int) < (left.length : Int) := by omega
                  obtain ⟨ad, eA, hxk⟩ := HO.out.at_ (0) hk0 hk1
                  subst eA
                  have hxm := rd_mem hk0 hk1
                  generalize rd left (0) = x at hxk hxm
                  have HX := Aside0.mk hxm
                  have hxk2 : wr.cell? ad = some (.int .i64 x) := hxk
                  have hxk3 : wr.cell? (ad.add 0) = some (.int .i64 x) := hxk
                  have hlt2 := Aside0.mk (filt_lt hxm)
                  clear hxm
                  by_cases hq : left.filter (fun y => y != x) = []
                  · have HQ := Aside0.mk hq
                    go_wp2_with (first | (go_at_call 38; (with_reducible refine (jt_without x HO.out HL9.out HJ.out.at).mono ?_); rintro e w38 ⟨⟨A3, m3, c3, rfl, ho, hm3⟩, hb⟩; have n0_ := Aside0.mk (HJ.out.below hb); clear HJ HO hb; have HJ := n0_; have HO := Aside0.mk ho; clear n0_ ho; have hz3 : m3 = 0 := hm3.trans (congrArg List.length HQ.out); subst hz3; clear hm3) | (go_at_call 35; (with_reducible refine (jt_last x c HJ.out HX.out HQ.out).mono ?_); rintro e w35 ⟨rfl, hf, ⟨rs2, hh⟩⟩; have n0_ := Aside0.mk (HO.out.fr hf); clear HJ HO; have HJ := Aside0.mk hh; have HO := n0_; clear n0_ hh hf) | (go_at_call 24; (with_reducible refine (jt_stateR HJ.out).mono ?_); rintro e w24 ⟨rfl, hb, hh⟩; have n0_ := Aside0.mk (HO.out.below hb); clear HJ HO hb; have HJ := Aside0.mk hh; have HO := n0_; clear n0_ hh))
                    go_roundw
                    case rel => exact ⟨i + 1, [], _, by go_num, by have := hlt2.out; have := HIL.out; simp; omega, ⟨by have h := HO.out; rw [HQ.out] at h; exact h⟩, ⟨by rw [if_pos rfl]; exact HJ.out⟩⟩
                    case measure => have := hlt2.out; rw [HQ.out] at this; simpa [lenOf] using this
                  · have HQ := Aside0.mk hq
                    go_wp2_with (first | (go_at_call 38; (with_reducible refine (jt_without x HO.out HL9.out HJ.out.at).mono ?_); rintro e w38 ⟨⟨A3, m3, c3, rfl, ho, hm3⟩, hb⟩; have n0_ := Aside0.mk (HJ.out.below hb); clear HJ HO hb; have HJ := n0_; have HO := Aside0.mk ho; clear n0_ ho; have HM3 := Aside0.mk hm3; have h3n : ¬ m3 = 0 := fun e => HQ.out (List.eq_nil_of_length_eq_zero (hm3.symm.trans e)); have hb3 : ((m3 : Int) == 0) = false := beq_eq_false_iff_ne.mpr (by omega); have hb4 : (m3 == 0) = false := beq_eq_false_iff_ne.mpr h3n; clear hm3) | (go_at_call 35; (with_reducible refine (jt_end x c HJ.out HX.out HQ.out).mono ?_); rintro e w35 ⟨rfl, hf, ⟨rs2, hh⟩⟩; have n0_ := Aside0.mk (HO.out.fr hf); clear HJ HO; have HJ := Aside0.mk hh; have HO := n0_; clear n0_ hh hf) | (go_at_call 24; (with_reducible refine (jt_stateB HJ.out).mono ?_); rintro e w24 ⟨rfl, hb, hh⟩; have n0_ := Aside0.mk (HO.out.below hb); clear HJ HO hb; have HJ := Aside0.mk hh; have HO := n0_; clear n0_ hh))
                    go_roundw
                    case rel => exact ⟨i + 1, _, _, by go_num, by have := hlt2.out; have := HIL.out; omega, HO, ⟨by rw [if_neg HQ.out]; exact HJ.out⟩⟩
                    case measure => have := hlt2.out; simpa [lenOf, HM3.out] using this

end Go.Proofs.Ytfllnpfikdhdbaa.PProcs
