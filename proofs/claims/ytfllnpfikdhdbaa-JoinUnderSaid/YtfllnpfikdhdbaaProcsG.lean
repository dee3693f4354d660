import Derived.Test.YtfllnpfikdhdbaaPProcsx0
import Derived.Test.YtfllnpfikdhdbaaProcsA
import Derived.Test.YtfllnpfikdhdbaaProcsB
import Derived.Test.YtfllnpfikdhdbaaProcsC
import Derived.Test.YtfllnpfikdhdbaaProcsD
import Derived.Test.YtfllnpfikdhdbaaProcsE
import Derived.Test.YtfllnpfikdhdbaaProcsF
import Derived.StillTailTactics
import Derived.Laws.LoneSync
import Derived.Laws.EntriesVeiled
namespace Go.Proofs.Ytfllnpfikdhdbaa.PProcs
open Go.RowKit Go.Proofs.YtfllnpfikdhdbaaW.PrintWords Go.Proofs.YtfllnpfikdhdbaaW.PrintLast Go.Proofs.YtfllnpfikdhdbaaW.PrintMore
attribute [local go_sem] max2_int min2_int max_two min_two max_three min_three max_four min_four
set_option linter.unusedVariables false
set_option linter.unusedSimpArgs false
section
variable {w : World} {b base : Nat} {most : Int} {rs : List Row}
set_option maxHeartbeats 2000000 in
theorem rin_any (s : Int) (h : RB w b base most rs) (hl : rs.length ≤ 1000000) : Calls Try.prog 49 #[.pointer (some ⟨b, 0, none⟩), .int .i64 s] w fun e w' => ∃ v : Value, e = .returned v ∧ Kd.R (Kd.int .i64) 3 w' w.heap.size (fun _ => True) v (thoseL (isB s) rs) ∧ Below w.heap.size w w' := by
  have RH := Aside0.mk h
  have HL := Aside0.mk hl
  have HB := Aside0.mk (Below.refl w.heap.size w)
  obtain ⟨v, hb, hr, hge⟩ := h
  obtain ⟨A, c, rfl⟩ := flat_slice hr
  have BK := Aside0.mk hb
  clear hb hr hge hl
  go_enter Try.func49, Try.ntmps49
  go_wp2_with (first | ((with_reducible refine gate_dst (N := 7) rfl ?_); refine Kd.R_lit (Kd.int .i64) _ 3 ?hg (N := 7) ?hd (xs := ([] : List Int)) (inner := []) (ok := fun _ => True) (okp := fun _ => True) ?hr ?hp (fun _ hk => hk) trivial (Below.refl _ _) (Nat.le_refl _) (by simp) ?_; (case hd => rfl); (case hg => rfl); (case hr => first | (go_simp; done) | (go_simp; rfl)); (case hp => exact (Reps.none _ _)); intro v7 w7 ho hb hg_ hnew_; have n0_ := Aside0.mk (Kd.R_lower ho (below_size HB.out)); have n1_ := Aside0.mk (below_step HB.out hb); clear HB ho hb hg_ hnew_; have HO := n0_; have HB := n1_; clear n0_ n1_))
  go_loopw [5, 6] (fun v5 v6 wx => ∃ i : Nat, i ≤ rs.length ∧ v6 = .int .i64 (i : Int) ∧ Aside0 (Kd.R (Kd.int .i64) 3 wx w.heap.size (fun _ => True) v5 (thoseN (isB s) rs i)) ∧ Aside0 (Below w.heap.size w wx)) (fun _ v6 _ => rs.length - (intOf v6).toNat)
  case atStart => exact ⟨0, Nat.zero_le _, rfl, HO, HB⟩
  case round =>
    clear HB HO
    obtain ⟨i, hi, rfl, HO, HB⟩ := hrel
    have hc1 : wr.cell? ⟨b, 1, none⟩ = some (.slice A rs.length c) := (blk_cell (blk_below BK.out HB.out) 1).trans rfl
    by_cases hlt : i < rs.length
    · have hii : (i : Int) < (rs.length : Int) := by omega
      have HI := Aside0.mk hlt
      have hw3 : (i : Int) ≤ 1000000 := by have := HL.out; omega
      obtain ⟨g, c', X⟩ := (RH.out.below HB.out).x (by omega)
      have eA := X.1.symm.trans (blk_below BK.out HB.out)
      injection eA with eA
      injection eA with eA
      injection eA with eA
      injection eA with _ eA
      injection eA with eA
      injection eA with eA _ _
      subst eA
      have f1 : wr.cell? ⟨g, i * 5 + 1, none⟩ = some (.int .i64 (rs.getD i Row.z).st) := (X.cell hlt (j := 1) rfl).1
      clear X
      cases hp : isB s (rs.getD i Row.z) with
      | true =>
        have HT : Aside0 (thoseN (isB s) rs (i + 1) = thoseN (isB s) rs i ++ [(i : Int) + 1]) := ⟨by rw [thoseN, if_pos hp]⟩
        have e1 : ((rs.getD i Row.z).st == s) = true := by simpa [isB] using hp
        clear hp hlt hi
        generalize hrow : rs.getD i Row.z = r at f1 e1
        clear hrow
        go_wp2_with (first | ((with_reducible refine gate_builtin (b := .append) (xs := #[.tmp 27, .tmp 30]) rfl ?_); at_builtin; refine Kd.R_append (Kd.int .i64) (w0 := w) w.heap.size rfl (.tmp 27) (.tmp 30) 42 3 (.int .i64 0) 8 rfl Try.underlying42 info3 rfl (by decide) (by omega) u5 (thoseN (isB s) rs i) ((i : Int) + 1) [.int .i64 ((i : Int) + 1)] (fun _ => True) (fun _ => False) rfl rfl ?aP (fun _ hk => hk.elim) ?aF ?aO ?aB ?aS ?aL ?_; (case aP => exact rfl); (case aB => exact HB.out); (case aF => exact (fun _ _ => trivial)); (case aO => exact HO.out); (case aS => exact (below_size HB.out)); (case aL => have := thoseN_len (isB s) rs i; have := HI.out; have := HL.out; omega); intro v31 w31 ho hb hg hat; clear HB HO; have HB := Aside0.mk hb; have HO := Aside0.mk ho; clear ho hb hg hat))
        exact ⟨⟨i + 1, HI.out, by go_num, ⟨by rw [HT.out]; exact HO.out⟩, HB⟩, by have := HI.out; simp [intOf]; omega⟩
      | false =>
        have HT : Aside0 (thoseN (isB s) rs (i + 1) = thoseN (isB s) rs i) := ⟨by rw [thoseN, if_neg (by rw [hp]; simp)]⟩
        have e1 : ((rs.getD i Row.z).st == s) = false := by simpa [isB] using hp
        clear hp hlt hi
        generalize hrow : rs.getD i Row.z = r at f1 e1
        clear hrow
        go_wp2_with (fail)
        exact ⟨⟨i + 1, HI.out, by go_num, ⟨by rw [HT.out]; exact HO.out⟩, HB⟩, by have := HI.out; simp [intOf]; omega⟩
    · obtain rfl : i = rs.length := by omega
      clear hlt hi
      go_wp2_with (fail)
      go_ret
      exact ⟨_, rfl, HO.out, HB.out⟩
theorem two_live (rs : List Row) : ∀ i : Nat, (thoseN (isB 1) rs i).length + (thoseN (isB 2) rs i).length = (thoseN liveB rs i).length
  | 0 => rfl
  | i + 1 => by
    have ih := two_live rs i
    unfold thoseN
    generalize rs.getD i Row.z = r
    by_cases h1 : r.st = 1
    · have a : isB 1 r = true := by simp [isB, h1]
      have b : isB 2 r = false := by simp [isB, h1]
      have c : liveB r = true := by simp [liveB, h1]
      rw [a, b, c, if_pos rfl, if_neg (by simp), if_pos rfl, List.length_append, List.length_append]
      simp; omega
    · by_cases h2 : r.st = 2
      · have a : isB 1 r = false := by simp [isB, h1]
        have b : isB 2 r = true := by simp [isB, h2]
        have c : liveB r = true := by simp [liveB, h2]
        rw [a, b, c, if_pos rfl, if_neg (by simp), if_pos rfl, List.length_append, List.length_append]
        simp; omega
      · have a : isB 1 r = false := by simp [isB, h1]
        have b : isB 2 r = false := by simp [isB, h2]
        have c : liveB r = false := by simp [liveB, h1, h2]
        rw [a, b, c, if_neg (by simp), if_neg (by simp), if_neg (by simp)]
        exact ih
set_option maxHeartbeats 1000000 in
theorem rnlive_any (h : RB w b base most rs) (hl : rs.length ≤ 1000000) : Calls Try.prog 47 #[.pointer (some ⟨b, 0, none⟩)] w fun e w' => e = .returned (.int .i64 ((thoseL liveB rs).length : Int)) ∧ Below w.heap.size w w' := by
  have RH := Aside0.mk h
  have HB := Aside0.mk (Below.refl w.heap.size w)
  have k1 := thoseN_len (isB 1) rs rs.length
  have k2 := thoseN_len (isB 2) rs rs.length
  have e := two_live rs rs.length
  have EE : Aside0 (((thoseL (isB 1) rs).length : Int) + ((thoseL (isB 2) rs).length : Int) = ((thoseL liveB rs).length : Int)) := ⟨by unfold thoseL; omega⟩
  have b1 : ((thoseL (isB 1) rs).length : Int) ≤ 1000000 := by unfold thoseL; omega
  have b2 : ((thoseL (isB 2) rs).length : Int) ≤ 1000000 := by unfold thoseL; omega
  clear h k1 k2 e
  go_enter Try.func47, Try.ntmps47
  go_wp2_with (first | (go_at_call 49; (refine (rin_any _ (RH.out.below HB.out) hl).mono ?_); rintro e w' ⟨v, rfl, hr, hb⟩; obtain ⟨A, c, rfl⟩ := Kd.R_slice hr; have n0_ := Aside0.mk (below_step HB.out hb); clear HB hb hr; have HB := n0_; clear n0_))
  go_ret
  exact ⟨by rw [← EE.out]; rfl, HB.out⟩
set_option maxHeartbeats 2000000 in
set_option maxRecDepth 100000 in
theorem rkids_any (q : Int) (h : RB w b base most rs) (hl : rs.length ≤ 1000000) : Calls Try.prog 53 #[.pointer (some ⟨b, 0, none⟩), .int .i64 q] w fun e w' => e = .returned (.int .i64 ((thoseL (kidB q) rs).length : Int)) ∧ w = w' := by
  have RH := Aside0.mk h
  have HL := Aside0.mk hl
  obtain ⟨v, hb, hr, hge⟩ := h
  obtain ⟨A, c, rfl⟩ := flat_slice hr
  have BK := Aside0.mk hb
  have hc1 : w.cell? ⟨b, 1, none⟩ = some (.slice A rs.length c) := (blk_cell hb 1).trans rfl
  clear hb hr hge hl
  go_enter Try.func53, Try.ntmps53
  go_wp2_with (fail)
  go_loop [5, 6] (fun v5 v6 => ∃ i : Nat, i ≤ rs.length ∧ v6 = .int .i64 ((i : Int) + 1) ∧ v5 = .int .i64 ((thoseN (kidB q) rs i).length : Int)) (fun _ v6 => rs.length + 1 - (intOf v6).toNat)
  case atStart => exact ⟨0, Nat.zero_le _, rfl, rfl⟩
  case round =>
    obtain ⟨i, hi, rfl, rfl⟩ := hrel
    have kn : ((thoseN (kidB q) rs i).length : Int) ≤ 1000000 := by have := thoseN_len (kidB q) rs i; have := HL.out; omega
    by_cases hlt : i < rs.length
    · have hii : (i : Int) < (rs.length : Int) := by omega
      have hle : decide ((i : Int) + 1 ≤ (rs.length : Int)) = true := decide_eq_true (by omega)
      have HI := Aside0.mk hlt
      have hw3 : (i : Int) ≤ 1000000 := by have := HL.out; omega
      obtain ⟨g, c', X⟩ := RH.out.x (by omega)
      have eA := X.1.symm.trans BK.out
      injection eA with eA
      injection eA with eA
      injection eA with eA
      injection eA with _ eA
      injection eA with eA
      injection eA with eA _ _
      subst eA
      have f0 : w.cell? ⟨g, i * 5, none⟩ = some (.int .i64 (rs.getD i Row.z).pa) := (X.cell hlt (j := 0) rfl).1
      have LV := rlives_any ((i : Int) + 1) RH.out HL.out
      rw [rowAt_in hlt] at LV
      have LH := Aside0.mk LV
      clear X LV
      have HT : (thoseN (kidB q) rs (i + 1)).length = (thoseN (kidB q) rs i).length + (if kidB q (rs.getD i Row.z) = true then 1 else 0) := by
        rw [show thoseN (kidB q) rs (i + 1) = if kidB q (rs.getD i Row.z) = true then thoseN (kidB q) rs i ++ [(i : Int) + 1] else thoseN (kidB q) rs i from rfl]
        by_cases hp : kidB q (rs.getD i Row.z) = true
        · rw [if_pos hp, if_pos hp, List.length_append]; rfl
        · rw [if_neg hp, if_neg hp]; rfl
      generalize hrow : rs.getD i Row.z = r at f0 LH HT
      clear hrow hlt hi
      by_cases hlv : liveB r = true
      · have L := Aside0.mk hlv
        by_cases h1 : r.pa = q
        · have e1 : (r.pa == q) = true := by simpa using h1
          by_cases h0 : 0 < q
          · have er : kidB q r = true := by simp [kidB, h0, hlv, h1]
            rw [if_pos er] at HT
            have HTT := Aside0.mk HT
            clear hlv h1 er HT
            go_wp2_with (first | (go_at_call 46; (with_reducible refine LH.out.mono ?_); rintro e w' ⟨rfl, rfl⟩; rw [L.out]))
            go_round
            case rel => exact ⟨i + 1, HI.out, by go_num, by rw [HTT.out]; go_num⟩
            case measure => have := HI.out; simp [intOf]; omega
          · have er : kidB q r = false := by simp [kidB, h0]
            rw [if_neg (by rw [er]; simp)] at HT
            have HTT := Aside0.mk HT
            clear hlv h1 er HT
            go_wp2_with (first | (go_at_call 46; (with_reducible refine LH.out.mono ?_); rintro e w' ⟨rfl, rfl⟩; rw [L.out]))
            go_round
            case rel => exact ⟨i + 1, HI.out, by go_num, by rw [HTT.out]; rfl⟩
            case measure => have := HI.out; simp [intOf]; omega
        · have e1 : (r.pa == q) = false := by simpa using h1
          have er : kidB q r = false := by simp [kidB, h1]
          rw [if_neg (by rw [er]; simp)] at HT
          have HTT := Aside0.mk HT
          clear hlv h1 er HT
          go_wp2_with (first | (go_at_call 46; (with_reducible refine LH.out.mono ?_); rintro e w' ⟨rfl, rfl⟩; rw [L.out]))
          go_round
          case rel => exact ⟨i + 1, HI.out, by go_num, by rw [HTT.out]; rfl⟩
          case measure => have := HI.out; simp [intOf]; omega
      · have hl' : liveB r = false := Bool.eq_false_iff.2 hlv
        have L := Aside0.mk hl'
        have er : kidB q r = false := by simp [kidB, hl']
        rw [if_neg (by rw [er]; simp)] at HT
        have HTT := Aside0.mk HT
        clear hlv hl' er HT
        go_wp2_with (first | (go_at_call 46; (with_reducible refine LH.out.mono ?_); rintro e w' ⟨rfl, rfl⟩; rw [L.out]))
        go_round
        case rel => exact ⟨i + 1, HI.out, by go_num, by rw [HTT.out]; rfl⟩
        case measure => have := HI.out; simp [intOf]; omega
    · obtain rfl : i = rs.length := by omega
      have hle : decide ((rs.length : Int) + 1 ≤ (rs.length : Int)) = false := decide_eq_false (by omega)
      clear hlt hi
      go_wp2_with (fail)
      go_ret
      exact ⟨rfl, rfl⟩
end

end Go.Proofs.Ytfllnpfikdhdbaa.PProcs
