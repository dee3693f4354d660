import Derived.Test.YtfllnpfikdhdbaaPProcsx0
import Derived.Test.YtfllnpfikdhdbaaJoinG
import Derived.StillTailTactics
import Derived.Laws.LoneSync
import Derived.Laws.EntriesVeiled
import Derived.IntWalk
import Derived.Deep.RegionHeld3
import Derived.WalkMore
import Derived.ScopeJumps
namespace Go.Proofs.Ytfllnpfikdhdbaa.PProcs
open Go.RowKit Go.Proofs.YtfllnpfikdhdbaaW.PrintWords Go.Proofs.YtfllnpfikdhdbaaW.PrintLast Go.Proofs.YtfllnpfikdhdbaaW.PrintMore
attribute [local go_sem] max2_int min2_int max_two min_two max_three min_three max_four min_four
set_option linter.unusedVariables false
set_option linter.unusedSimpArgs false
/-! The reference's Under: what it looks for. -/
theorem above_fuel {rs : List Row} {pid : Int} (h : Ahead rs) : ∀ (k m : Nat) (q : Int), q ≤ (k : Int) → q ≤ (m : Int) → above rs pid k q = above rs pid m q
  | 0, 0, q, _, _ => rfl
  | 0, m + 1, q, h1, _ => by
    have hu := h.lt q
    have e : decide (0 < (rowAt rs q).pa) = false := decide_eq_false (fun t => by have := hu.2 t; omega)
    rw [above, above, e]; simp
  | k + 1, 0, q, _, h2 => by
    have hu := h.lt q
    have e : decide (0 < (rowAt rs q).pa) = false := decide_eq_false (fun t => by have := hu.2 t; omega)
    rw [above, above, e]; simp
  | k + 1, m + 1, q, h1, h2 => by
    have hu := h.lt q
    rw [above, above]
    by_cases t : 0 < (rowAt rs q).pa
    · have := hu.2 t
      rw [above_fuel h k m (rowAt rs q).pa (by omega) (by omega)]
    · rw [decide_eq_false t]; rfl
theorem underN_mem {rs : List Row} {pid : Int} : ∀ (i : Nat) (x : Int), x ∈ underN rs pid i ↔ 1 ≤ x ∧ x ≤ (i : Int) ∧ above rs pid rs.length x = true
  | 0, x => by
    constructor
    · intro h; cases h
    · rintro ⟨a, b, _⟩; omega
  | i + 1, x => by
    have ih := underN_mem (rs := rs) (pid := pid) i x
    rw [underN]
    by_cases q : above rs pid rs.length ((i : Int) + 1) = true
    · rw [if_pos q, List.mem_append, List.mem_singleton, ih]
      constructor
      · rintro (⟨a, b, c⟩ | rfl)
        · exact ⟨a, by omega, c⟩
        · exact ⟨by omega, by omega, q⟩
      · rintro ⟨a, b, c⟩
        by_cases e : x = (i : Int) + 1
        · exact .inr e
        · exact .inl ⟨a, by omega, c⟩
    · rw [if_neg q, ih]
      constructor
      · rintro ⟨a, b, c⟩
        exact ⟨a, by omega, c⟩
      · rintro ⟨a, b, c⟩
        refine ⟨a, ?_, c⟩
        by_cases e : x = (i : Int) + 1
        · rw [e] at c; exact absurd c q
        · omega
/-- Who stands at i + 1 descends from pid just if its parent is pid, or stands in the list so far. -/
theorem above_has {rs : List Row} {pid : Int} (h : Ahead rs) {i : Nat} (hi : i < rs.length) : above rs pid rs.length ((i : Int) + 1) = true ↔ (rs.getD i Row.z).pa = pid ∨ (rs.getD i Row.z).pa ∈ underN rs pid i := by
  obtain ⟨k, hk⟩ : ∃ k, rs.length = k + 1 := ⟨rs.length - 1, by omega⟩
  have hu := h i hi
  have er := rowAt_in hi
  rw [underN_mem]
  have e : above rs pid rs.length ((i : Int) + 1) = (decide ((rs.getD i Row.z).pa = pid) || (decide (0 < (rs.getD i Row.z).pa) && above rs pid k (rs.getD i Row.z).pa)) := by
    rw [hk, above, er]
  rw [e, Bool.or_eq_true, Bool.and_eq_true, decide_eq_true_eq, decide_eq_true_eq]
  rw [above_fuel h k rs.length (rs.getD i Row.z).pa (by omega) (by omega)]
  constructor
  · rintro (a | ⟨a, c⟩)
    · exact .inl a
    · exact .inr ⟨by omega, hu.2, c⟩
  · rintro (a | ⟨a, b, c⟩)
    · exact .inl a
    · exact .inr ⟨by omega, c⟩

theorem has_f {l : List Int} {x : Int} (hl : l.length ≤ 1000000) : ∀ k i : Nat, l.length + 1 ≤ k + i → i ≤ l.length → signalboxref1_Has.l0 k l x (i : Int) = some (decide (x ∈ l.drop i))
  | 0, i, h1, h2 => by omega
  | k + 1, i, h1, h2 => by
    rw [signalboxref1_Has.l0]
    by_cases q : (i : Int) < (l.length : Int)
    · have hi : i < l.length := by omega
      have e : rd l (i : Int) = l[i] := by
        show l.getD (i : Int).toNat 0 = _
        rw [Int.toNat_natCast, List.getD_eq_getElem?_getD, List.getElem?_eq_getElem hi]; rfl
      rw [if_pos q, if_pos (by omega), IntWalk.wrap64_in _ (by omega), List.drop_eq_getElem_cons hi, e]
      by_cases p : l[i] = x
      · rw [if_pos p, decide_eq_true (by rw [p]; simp)]
      · rw [if_neg p]
        have := has_f (x := x) hl k (i + 1) (by omega) (by omega)
        refine this.trans (congrArg some (decide_eq_decide.2 ?_))
        rw [List.mem_cons]
        exact ⟨.inr, fun t => t.resolve_left (fun e => p e.symm)⟩
    · rw [if_neg q, List.drop_of_length_le (by omega)]
      rfl
theorem has_any {w : World} {A : Option Addr} {m c base : Nat} {l : List Int} (x : Int) (h : Kd.R (Kd.int .i64) 3 w base (fun _ => True) (.slice A m c) l) (hl : l.length ≤ 1000000) : Calls Try.prog 27 #[.slice A m c, .int .i64 x] w fun e w' => e = .returned (.bool (decide (x ∈ l))) ∧ Below w.heap.size w w' := by
  obtain ⟨e1, e2, e3⟩ := Kd.R_reads' h
  subst e1
  exact (signalboxref1_Has.calls (l.length + 1) A c l x _ w e3 e2 (has_f hl (l.length + 1) 0 (by omega) (by omega))).mono fun _ _ k => ⟨k.1, k.2.below⟩
set_option maxHeartbeats 8000000 in
set_option maxRecDepth 100000 in
theorem runder_any {w : World} {b base : Nat} {most : Int} {rs : List Row} (pid : Int) (h : RB w b base most rs) (hl : rs.length ≤ 1000000) (hA : Ahead rs) : Calls Try.prog 59 #[.pointer (some ⟨b, 0, none⟩), .int .i64 pid] w fun e w' => ∃ v, e = .returned v ∧ Kd.R (Kd.int .i64) 3 w' w.heap.size (fun _ => True) v (underL rs pid) ∧ Below w.heap.size w w' := by
  have RH := Aside0.mk h
  have HL := Aside0.mk hl
  have HA := Aside0.mk hA
  have HB := Aside0.mk (Below.refl w.heap.size w)
  obtain ⟨v, hb, hr, hge⟩ := h
  obtain ⟨A, c, rfl⟩ := flat_slice hr
  have BK := Aside0.mk hb
  clear hb hr hge hl hA
  by_cases hp : pid < 1
  · have hpb : decide (pid < 1) = true := decide_eq_true hp
    go_enter Try.func59, Try.ntmps59
    go_wp2_with (first | ((with_reducible refine gate_dst (N := 7) rfl ?_); refine Kd.R_lit (Kd.int .i64) _ 3 ?hg (N := 7) ?hd (xs := ([] : List Int)) (inner := []) (ok := fun _ => True) (okp := fun _ => True) ?hr ?hp (fun _ hk => hk) trivial (Below.refl _ _) (Nat.le_refl _) (by simp) ?_; (case hd => rfl); (case hg => rfl); (case hr => first | (go_simp; done) | (go_simp; rfl)); (case hp => exact (Reps.none _ _)); intro v7 w7 ho hb hg_ hnew_; have n0_ := Aside0.mk (Kd.R_lower ho (below_size HB.out)); have n1_ := Aside0.mk (below_step HB.out hb); clear HB ho hb hg_ hnew_; have HO := n0_; have HB := n1_; clear n0_ n1_))
    go_ret
    exact ⟨_, rfl, by rw [underL, if_neg (by omega)]; exact HO.out, HB.out⟩
  · have hpb : decide (pid < 1) = false := decide_eq_false hp
    have HP : Aside0 (0 < pid) := ⟨by omega⟩
    go_enter Try.func59, Try.ntmps59
    go_wp2_with (first | ((with_reducible refine gate_dst (N := 7) rfl ?_); refine Kd.R_lit (Kd.int .i64) _ 3 ?hg (N := 7) ?hd (xs := ([] : List Int)) (inner := []) (ok := fun _ => True) (okp := fun _ => True) ?hr ?hp (fun _ hk => hk) trivial (Below.refl _ _) (Nat.le_refl _) (by simp) ?_; (case hd => rfl); (case hg => rfl); (case hr => first | (go_simp; done) | (go_simp; rfl)); (case hp => exact (Reps.none _ _)); intro v7 w7 ho hb hg_ hnew_; have n0_ := Aside0.mk (Kd.R_lower ho (below_size HB.out)); have n1_ := Aside0.mk (below_step HB.out hb); clear HB ho hb hg_ hnew_; have HO := n0_; have HB := n1_; clear n0_ n1_))
    go_loopw [5, 6] (fun v5 v6 wx => ∃ i : Nat, i ≤ rs.length ∧ v6 = .int .i64 ((i : Int) + 1) ∧ Aside0 (Kd.R (Kd.int .i64) 3 wx w.heap.size (fun _ => True) v5 (underN rs pid i)) ∧ Aside0 (Below w.heap.size w wx)) (fun _ v6 _ => rs.length + 1 - (intOf v6).toNat)
    case atStart => exact ⟨0, Nat.zero_le _, rfl, HO, HB⟩
    case round =>
      clear HB HO
      obtain ⟨i, hi, rfl, HO, HB⟩ := hrel
      have hc1 : wr.cell? ⟨b, 1, none⟩ = some (.slice A rs.length c) := (blk_cell (blk_below BK.out HB.out) 1).trans rfl
      obtain ⟨AO, cO, rfl⟩ := Kd.R_slice HO.out
      have HLU : Aside0 ((underN rs pid i).length ≤ 1000000) := ⟨by have := underN_len rs pid i; have := HL.out; omega⟩
      by_cases hlt : i < rs.length
      · have hii : (i : Int) < (rs.length : Int) := by omega
        have hib : decide ((i : Int) + 1 ≤ (rs.length : Int)) = true := decide_eq_true (by omega)
        have HI := Aside0.mk hlt
        have hw3 : (i : Int) ≤ 1000000 := by have := HL.out; omega
        obtain ⟨g, c', X⟩ := (RH.out.below HB.out).x (by omega)
        have eA := X.1.symm.trans (blk_below BK.out HB.out)
        injection eA with eA
        injection eA with eA
        injection eA with eA
        injection eA with _ eA
        injection eA with eA
        injection eA with eA _ _
        subst eA
        have f0 : wr.cell? ⟨g, i * 5, none⟩ = some (.int .i64 (rs.getD i Row.z).pa) := (X.cell hlt (j := 0) rfl).1
        clear X
        have AH := above_has (pid := pid) HA.out hlt
        generalize (rs.getD i Row.z).pa = u at f0 AH
        by_cases h1 : u = pid
        · have e1 : (u == pid) = true := by simpa using h1
          have HT : Aside0 (underN rs pid (i + 1) = underN rs pid i ++ [(i : Int) + 1]) := ⟨by rw [underN, if_pos (AH.2 (.inl h1))]⟩
          clear AH h1 hi
          go_wp2_with (first | ((with_reducible refine gate_builtin (b := .append) (xs := #[.tmp 44, .tmp 46]) rfl ?_); at_builtin; refine Kd.R_append (Kd.int .i64) (w0 := w) w.heap.size rfl (.tmp 44) (.tmp 46) 42 3 (.int .i64 0) 8 rfl Try.underlying42 info3 rfl (by decide) (by omega) (.slice AO _ cO) (underN rs pid i) ((i : Int) + 1) [.int .i64 ((i : Int) + 1)] (fun _ => True) (fun _ => False) rfl rfl ?aP (fun _ hk => hk.elim) ?aF ?aO ?aB ?aS ?aL ?_; (case aP => exact rfl); (case aB => exact HB.out); (case aF => exact (fun _ _ => trivial)); (case aO => exact HO.out); (case aS => exact (below_size HB.out)); (case aL => have := HLU.out; omega); intro v31 w31 ho hb hg hat; clear HB HO; have HB := Aside0.mk hb; have HO := Aside0.mk ho; clear ho hb hg hat))
          go_roundw
          case rel => exact ⟨i + 1, HI.out, by go_num, ⟨by rw [HT.out]; exact HO.out⟩, HB⟩
          case measure => have := HI.out; simp [intOf]; omega
        · have e1 : (u == pid) = false := by simpa using h1
          by_cases h2 : u ∈ underN rs pid i
          · have HD : Aside0 (decide (u ∈ underN rs pid i) = true) := ⟨decide_eq_true h2⟩
            have HT : Aside0 (underN rs pid (i + 1) = underN rs pid i ++ [(i : Int) + 1]) := ⟨by rw [underN, if_pos (AH.2 (.inr h2))]⟩
            clear AH h1 h2 hi
            go_wp2_with (first | (go_at_call 27; (refine (has_any _ HO.out HLU.out).mono ?_); rintro e w27 ⟨rfl, hb⟩; rw [HD.out]; have n0_ := Aside0.mk (below_step HB.out hb); have n1_ := Aside0.mk (Kd.R_below HO.out hb); clear HB HO hb; have HB := n0_; have HO := n1_; clear n0_ n1_) | ((with_reducible refine gate_builtin (b := .append) (xs := #[.tmp 44, .tmp 46]) rfl ?_); at_builtin; refine Kd.R_append (Kd.int .i64) (w0 := w) w.heap.size rfl (.tmp 44) (.tmp 46) 42 3 (.int .i64 0) 8 rfl Try.underlying42 info3 rfl (by decide) (by omega) (.slice AO _ cO) (underN rs pid i) ((i : Int) + 1) [.int .i64 ((i : Int) + 1)] (fun _ => True) (fun _ => False) rfl rfl ?aP (fun _ hk => hk.elim) ?aF ?aO ?aB ?aS ?aL ?_; (case aP => exact rfl); (case aB => exact HB.out); (case aF => exact (fun _ _ => trivial)); (case aO => exact HO.out); (case aS => exact (below_size HB.out)); (case aL => have := HLU.out; omega); intro v31 w31 ho hb hg hat; clear HB HO; have HB := Aside0.mk hb; have HO := Aside0.mk ho; clear ho hb hg hat))
            go_roundw
            case rel => exact ⟨i + 1, HI.out, by go_num, ⟨by rw [HT.out]; exact HO.out⟩, HB⟩
            case measure => have := HI.out; simp [intOf]; omega
          · have HD : Aside0 (decide (u ∈ underN rs pid i) = false) := ⟨decide_eq_false h2⟩
            have HT : Aside0 (underN rs pid (i + 1) = underN rs pid i) := ⟨by rw [underN, if_neg (fun t => (AH.1 t).elim h1 h2)]⟩
            clear AH h1 h2 hi
            go_wp2_with (first | (go_at_call 27; (refine (has_any _ HO.out HLU.out).mono ?_); rintro e w27 ⟨rfl, hb⟩; rw [HD.out]; have n0_ := Aside0.mk (below_step HB.out hb); have n1_ := Aside0.mk (Kd.R_below HO.out hb); clear HB HO hb; have HB := n0_; have HO := n1_; clear n0_ n1_))
            go_roundw
            case rel => exact ⟨i + 1, HI.out, by go_num, ⟨by rw [HT.out]; exact HO.out⟩, HB⟩
            case measure => have := HI.out; simp [intOf]; omega
      · obtain rfl : i = rs.length := by omega
        have hib : decide ((rs.length : Int) + 1 ≤ (rs.length : Int)) = false := decide_eq_false (by omega)
        have hw3 : (rs.length : Int) ≤ 1000000 := by have := HL.out; omega
        clear hlt hi
        go_wp2_with (fail)
        go_ret
        exact ⟨_, rfl, by rw [underL, if_pos HP.out]; exact HO.out, HB.out⟩

end Go.Proofs.Ytfllnpfikdhdbaa.PProcs
