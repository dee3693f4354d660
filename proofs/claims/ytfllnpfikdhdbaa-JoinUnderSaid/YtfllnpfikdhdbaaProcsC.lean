import Derived.Test.YtfllnpfikdhdbaaPProcsx0
import Derived.Test.YtfllnpfikdhdbaaProcsA
import Derived.Test.YtfllnpfikdhdbaaProcsB
import Derived.StillTailTactics
import Derived.Laws.LoneSync
import Derived.Laws.EntriesVeiled
namespace Go.Proofs.Ytfllnpfikdhdbaa.PProcs
open Go.RowKit Go.Proofs.YtfllnpfikdhdbaaW.PrintWords Go.Proofs.YtfllnpfikdhdbaaW.PrintLast Go.Proofs.YtfllnpfikdhdbaaW.PrintMore
attribute [local go_sem] max2_int min2_int max_two min_two max_three min_three max_four min_four
set_option linter.unusedVariables false
set_option linter.unusedSimpArgs false
/-- The numbers of those among the first i rows that are so. -/
def thoseN (f : Row → Bool) (rs : List Row) : Nat → List Int
  | 0 => []
  | i + 1 => if f (rs.getD i Row.z) = true then thoseN f rs i ++ [(i : Int) + 1] else thoseN f rs i
theorem thoseN_len (f : Row → Bool) (rs : List Row) : ∀ i, (thoseN f rs i).length ≤ i
  | 0 => Nat.le_refl 0
  | i + 1 => by
    have := thoseN_len f rs i
    unfold thoseN
    split
    · rw [List.length_append]; simp; omega
    · omega
def thoseL (f : Row → Bool) (rs : List Row) : List Int := thoseN f rs rs.length
set_option maxHeartbeats 2000000 in
theorem those_live {w : World} {p : Value} {base : Nat} {most : Int} {rs : List Row} (h : TV w p base most rs) (hl : rs.length ≤ 1000000) :
    Calls Try.prog 54 #[p, .func (.func 44) #[] #[]] w fun e w' => ∃ v : Value, e = .returned v ∧ Kd.R (Kd.int .i64) 3 w' w.heap.size (fun _ => True) v (thoseL liveB rs) ∧ Below w.heap.size w w' := by
  have TVH := Aside0.mk h
  have HL := Aside0.mk hl
  have HB := Aside0.mk (Below.refl w.heap.size w)
  clear h hl
  go_enter Try.func54, Try.ntmps54
  go_wp2_with (fail)
  go_loopw [4, 5] (fun v4 v5 wx => ∃ i : Nat, i ≤ rs.length ∧ v5 = .int .i64 ((i : Int) + 1) ∧ Aside0 (Kd.R (Kd.int .i64) 3 wx w.heap.size (fun _ => True) v4 (thoseN liveB rs i)) ∧ Aside0 (Below w.heap.size w wx)) (fun _ v5 _ => rs.length + 1 - (intOf v5).toNat)
  case atStart => exact ⟨0, Nat.zero_le _, rfl, ⟨Kd.R_nil _ _ _ _ _⟩, HB⟩
  case round =>
    clear HB
    obtain ⟨i, hi, rfl, HO, HB⟩ := hrel
    by_cases hlt : i < rs.length
    · have hle : decide ((i : Int) + 1 ≤ (rs.length : Int)) = true := decide_eq_true (by omega)
      have HI := Aside0.mk hlt
      have hw3 : (i : Int) ≤ 1000000 := by have := HL.out; omega
      have hi0 : (0 : Int) ≤ (i : Int) := by omega
      have RC := fun (W : World) (hb : Below w.heap.size w W) => row_any ((i : Int) + 1) (TVH.out.below hb) HL.out
      rw [rowAt_in hlt] at RC
      have RCH := Aside0.mk RC
      clear RC
      cases hp : liveB (rs.getD i Row.z) with
      | true =>
        have HP := Aside0.mk hp
        have HT : Aside0 (thoseN liveB rs (i + 1) = thoseN liveB rs i ++ [(i : Int) + 1]) := ⟨by rw [thoseN, if_pos hp]⟩
        clear hp hlt hi
        generalize hrow : rs.getD i Row.z = r at RCH HP
        clear hrow
        go_wp2_with (first
          | (go_at_call 31; (with_reducible refine (count_any (TVH.out.below HB.out)).mono ?_); rintro e w' ⟨rfl, rfl⟩)
          | (go_at_call 43; (with_reducible refine (RCH.out _ HB.out).mono ?_); rintro e w15 ⟨rfl, hb⟩; have n0_ := Aside0.mk (below_step HB.out hb); have n1_ := Aside0.mk (Kd.R_below HO.out hb); clear HB HO hb; have HB := n0_; have HO := n1_; clear n0_ n1_)
          | (go_at_call 44; (with_reducible refine (live_any _ r).mono ?_); rintro e w16 ⟨rfl, hb⟩; rw [HP.out]; have n0_ := Aside0.mk (below_step HB.out hb); have n1_ := Aside0.mk (Kd.R_below HO.out hb); clear HB HO hb; have HB := n0_; have HO := n1_; clear n0_ n1_)
          | ((with_reducible refine gate_builtin (b := .append) (xs := #[.tmp 17, .tmp 19]) rfl ?_); at_builtin; refine Kd.R_append (Kd.int .i64) (w0 := w) w.heap.size rfl (.tmp 17) (.tmp 19) 42 3 (.int .i64 0) 8 rfl Try.underlying42 info3 rfl (by decide) (by omega) u4 (thoseN liveB rs i) ((i : Int) + 1) [.int .i64 ((i : Int) + 1)] (fun _ => True) (fun _ => False) rfl rfl ?aP (fun _ hk => hk.elim) ?aF ?aO ?aB ?aS ?aL ?_; (case aP => exact rfl); (case aB => exact HB.out); (case aF => exact (fun _ _ => trivial)); (case aO => exact HO.out); (case aS => exact (below_size HB.out)); (case aL => have := thoseN_len liveB rs i; have := HI.out; have := HL.out; omega); intro v20 w20 ho hb hg hat; clear HB HO; have HB := Aside0.mk hb; have HO := Aside0.mk ho; clear ho hb hg hat))
        exact ⟨⟨i + 1, HI.out, by go_num, ⟨by rw [HT.out]; exact HO.out⟩, HB⟩, by have := HI.out; simp [intOf]; omega⟩
      | false =>
        have HP := Aside0.mk hp
        have HT : Aside0 (thoseN liveB rs (i + 1) = thoseN liveB rs i) := ⟨by rw [thoseN, if_neg (by rw [hp]; simp)]⟩
        clear hp hlt hi
        generalize hrow : rs.getD i Row.z = r at RCH HP
        clear hrow
        go_wp2_with (first
          | (go_at_call 31; (with_reducible refine (count_any (TVH.out.below HB.out)).mono ?_); rintro e w' ⟨rfl, rfl⟩)
          | (go_at_call 43; (with_reducible refine (RCH.out _ HB.out).mono ?_); rintro e w15 ⟨rfl, hb⟩; have n0_ := Aside0.mk (below_step HB.out hb); have n1_ := Aside0.mk (Kd.R_below HO.out hb); clear HB HO hb; have HB := n0_; have HO := n1_; clear n0_ n1_)
          | (go_at_call 44; (with_reducible refine (live_any _ r).mono ?_); rintro e w16 ⟨rfl, hb⟩; rw [HP.out]; have n0_ := Aside0.mk (below_step HB.out hb); have n1_ := Aside0.mk (Kd.R_below HO.out hb); clear HB HO hb; have HB := n0_; have HO := n1_; clear n0_ n1_))
        exact ⟨⟨i + 1, HI.out, by go_num, ⟨by rw [HT.out]; exact HO.out⟩, HB⟩, by have := HI.out; simp [intOf]; omega⟩
    · obtain rfl : i = rs.length := by omega
      have hle : decide ((rs.length : Int) + 1 ≤ (rs.length : Int)) = false := decide_eq_false (by omega)
      clear hlt hi
      go_wp2_with (first | (go_at_call 31; (with_reducible refine (count_any (TVH.out.below HB.out)).mono ?_); rintro e w' ⟨rfl, rfl⟩))
      go_ret
      exact ⟨_, rfl, HO.out, HB.out⟩
set_option maxHeartbeats 2000000 in
theorem those_ready {w : World} {p : Value} {base : Nat} {most : Int} {rs : List Row} (h : TV w p base most rs) (hl : rs.length ≤ 1000000) :
    Calls Try.prog 54 #[p, .func (.func 55) #[] #[]] w fun e w' => ∃ v : Value, e = .returned v ∧ Kd.R (Kd.int .i64) 3 w' w.heap.size (fun _ => True) v (thoseL (isB 1) rs) ∧ Below w.heap.size w w' := by
  have TVH := Aside0.mk h
  have HL := Aside0.mk hl
  have HB := Aside0.mk (Below.refl w.heap.size w)
  clear h hl
  go_enter Try.func54, Try.ntmps54
  go_wp2_with (fail)
  go_loopw [4, 5] (fun v4 v5 wx => ∃ i : Nat, i ≤ rs.length ∧ v5 = .int .i64 ((i : Int) + 1) ∧ Aside0 (Kd.R (Kd.int .i64) 3 wx w.heap.size (fun _ => True) v4 (thoseN (isB 1) rs i)) ∧ Aside0 (Below w.heap.size w wx)) (fun _ v5 _ => rs.length + 1 - (intOf v5).toNat)
  case atStart => exact ⟨0, Nat.zero_le _, rfl, ⟨Kd.R_nil _ _ _ _ _⟩, HB⟩
  case round =>
    clear HB
    obtain ⟨i, hi, rfl, HO, HB⟩ := hrel
    by_cases hlt : i < rs.length
    · have hle : decide ((i : Int) + 1 ≤ (rs.length : Int)) = true := decide_eq_true (by omega)
      have HI := Aside0.mk hlt
      have hw3 : (i : Int) ≤ 1000000 := by have := HL.out; omega
      have hi0 : (0 : Int) ≤ (i : Int) := by omega
      have RC := fun (W : World) (hb : Below w.heap.size w W) => row_any ((i : Int) + 1) (TVH.out.below hb) HL.out
      rw [rowAt_in hlt] at RC
      have RCH := Aside0.mk RC
      clear RC
      cases hp : (isB 1) (rs.getD i Row.z) with
      | true =>
        have HP := Aside0.mk hp
        have HT : Aside0 (thoseN (isB 1) rs (i + 1) = thoseN (isB 1) rs i ++ [(i : Int) + 1]) := ⟨by rw [thoseN, if_pos hp]⟩
        clear hp hlt hi
        generalize hrow : rs.getD i Row.z = r at RCH HP
        clear hrow
        go_wp2_with (first
          | (go_at_call 31; (with_reducible refine (count_any (TVH.out.below HB.out)).mono ?_); rintro e w' ⟨rfl, rfl⟩)
          | (go_at_call 43; (with_reducible refine (RCH.out _ HB.out).mono ?_); rintro e w15 ⟨rfl, hb⟩; have n0_ := Aside0.mk (below_step HB.out hb); have n1_ := Aside0.mk (Kd.R_below HO.out hb); clear HB HO hb; have HB := n0_; have HO := n1_; clear n0_ n1_)
          | (go_at_call 55; (with_reducible refine (isready_any _ r).mono ?_); rintro e w16 ⟨rfl, hb⟩; rw [HP.out]; have n0_ := Aside0.mk (below_step HB.out hb); have n1_ := Aside0.mk (Kd.R_below HO.out hb); clear HB HO hb; have HB := n0_; have HO := n1_; clear n0_ n1_)
          | ((with_reducible refine gate_builtin (b := .append) (xs := #[.tmp 17, .tmp 19]) rfl ?_); at_builtin; refine Kd.R_append (Kd.int .i64) (w0 := w) w.heap.size rfl (.tmp 17) (.tmp 19) 42 3 (.int .i64 0) 8 rfl Try.underlying42 info3 rfl (by decide) (by omega) u4 (thoseN (isB 1) rs i) ((i : Int) + 1) [.int .i64 ((i : Int) + 1)] (fun _ => True) (fun _ => False) rfl rfl ?aP (fun _ hk => hk.elim) ?aF ?aO ?aB ?aS ?aL ?_; (case aP => exact rfl); (case aB => exact HB.out); (case aF => exact (fun _ _ => trivial)); (case aO => exact HO.out); (case aS => exact (below_size HB.out)); (case aL => have := thoseN_len (isB 1) rs i; have := HI.out; have := HL.out; omega); intro v20 w20 ho hb hg hat; clear HB HO; have HB := Aside0.mk hb; have HO := Aside0.mk ho; clear ho hb hg hat))
        exact ⟨⟨i + 1, HI.out, by go_num, ⟨by rw [HT.out]; exact HO.out⟩, HB⟩, by have := HI.out; simp [intOf]; omega⟩
      | false =>
        have HP := Aside0.mk hp
        have HT : Aside0 (thoseN (isB 1) rs (i + 1) = thoseN (isB 1) rs i) := ⟨by rw [thoseN, if_neg (by rw [hp]; simp)]⟩
        clear hp hlt hi
        generalize hrow : rs.getD i Row.z = r at RCH HP
        clear hrow
        go_wp2_with (first
          | (go_at_call 31; (with_reducible refine (count_any (TVH.out.below HB.out)).mono ?_); rintro e w' ⟨rfl, rfl⟩)
          | (go_at_call 43; (with_reducible refine (RCH.out _ HB.out).mono ?_); rintro e w15 ⟨rfl, hb⟩; have n0_ := Aside0.mk (below_step HB.out hb); have n1_ := Aside0.mk (Kd.R_below HO.out hb); clear HB HO hb; have HB := n0_; have HO := n1_; clear n0_ n1_)
          | (go_at_call 55; (with_reducible refine (isready_any _ r).mono ?_); rintro e w16 ⟨rfl, hb⟩; rw [HP.out]; have n0_ := Aside0.mk (below_step HB.out hb); have n1_ := Aside0.mk (Kd.R_below HO.out hb); clear HB HO hb; have HB := n0_; have HO := n1_; clear n0_ n1_))
        exact ⟨⟨i + 1, HI.out, by go_num, ⟨by rw [HT.out]; exact HO.out⟩, HB⟩, by have := HI.out; simp [intOf]; omega⟩
    · obtain rfl : i = rs.length := by omega
      have hle : decide ((rs.length : Int) + 1 ≤ (rs.length : Int)) = false := decide_eq_false (by omega)
      clear hlt hi
      go_wp2_with (first | (go_at_call 31; (with_reducible refine (count_any (TVH.out.below HB.out)).mono ?_); rintro e w' ⟨rfl, rfl⟩))
      go_ret
      exact ⟨_, rfl, HO.out, HB.out⟩
set_option maxHeartbeats 2000000 in
theorem those_blocked {w : World} {p : Value} {base : Nat} {most : Int} {rs : List Row} (h : TV w p base most rs) (hl : rs.length ≤ 1000000) :
    Calls Try.prog 54 #[p, .func (.func 56) #[] #[]] w fun e w' => ∃ v : Value, e = .returned v ∧ Kd.R (Kd.int .i64) 3 w' w.heap.size (fun _ => True) v (thoseL (isB 2) rs) ∧ Below w.heap.size w w' := by
  have TVH := Aside0.mk h
  have HL := Aside0.mk hl
  have HB := Aside0.mk (Below.refl w.heap.size w)
  clear h hl
  go_enter Try.func54, Try.ntmps54
  go_wp2_with (fail)
  go_loopw [4, 5] (fun v4 v5 wx => ∃ i : Nat, i ≤ rs.length ∧ v5 = .int .i64 ((i : Int) + 1) ∧ Aside0 (Kd.R (Kd.int .i64) 3 wx w.heap.size (fun _ => True) v4 (thoseN (isB 2) rs i)) ∧ Aside0 (Below w.heap.size w wx)) (fun _ v5 _ => rs.length + 1 - (intOf v5).toNat)
  case atStart => exact ⟨0, Nat.zero_le _, rfl, ⟨Kd.R_nil _ _ _ _ _⟩, HB⟩
  case round =>
    clear HB
    obtain ⟨i, hi, rfl, HO, HB⟩ := hrel
    by_cases hlt : i < rs.length
    · have hle : decide ((i : Int) + 1 ≤ (rs.length : Int)) = true := decide_eq_true (by omega)
      have HI := Aside0.mk hlt
      have hw3 : (i : Int) ≤ 1000000 := by have := HL.out; omega
      have hi0 : (0 : Int) ≤ (i : Int) := by omega
      have RC := fun (W : World) (hb : Below w.heap.size w W) => row_any ((i : Int) + 1) (TVH.out.below hb) HL.out
      rw [rowAt_in hlt] at RC
      have RCH := Aside0.mk RC
      clear RC
      cases hp : (isB 2) (rs.getD i Row.z) with
      | true =>
        have HP := Aside0.mk hp
        have HT : Aside0 (thoseN (isB 2) rs (i + 1) = thoseN (isB 2) rs i ++ [(i : Int) + 1]) := ⟨by rw [thoseN, if_pos hp]⟩
        clear hp hlt hi
        generalize hrow : rs.getD i Row.z = r at RCH HP
        clear hrow
        go_wp2_with (first
          | (go_at_call 31; (with_reducible refine (count_any (TVH.out.below HB.out)).mono ?_); rintro e w' ⟨rfl, rfl⟩)
          | (go_at_call 43; (with_reducible refine (RCH.out _ HB.out).mono ?_); rintro e w15 ⟨rfl, hb⟩; have n0_ := Aside0.mk (below_step HB.out hb); have n1_ := Aside0.mk (Kd.R_below HO.out hb); clear HB HO hb; have HB := n0_; have HO := n1_; clear n0_ n1_)
          | (go_at_call 56; (with_reducible refine (isblocked_any _ r).mono ?_); rintro e w16 ⟨rfl, hb⟩; rw [HP.out]; have n0_ := Aside0.mk (below_step HB.out hb); have n1_ := Aside0.mk (Kd.R_below HO.out hb); clear HB HO hb; have HB := n0_; have HO := n1_; clear n0_ n1_)
          | ((with_reducible refine gate_builtin (b := .append) (xs := #[.tmp 17, .tmp 19]) rfl ?_); at_builtin; refine Kd.R_append (Kd.int .i64) (w0 := w) w.heap.size rfl (.tmp 17) (.tmp 19) 42 3 (.int .i64 0) 8 rfl Try.underlying42 info3 rfl (by decide) (by omega) u4 (thoseN (isB 2) rs i) ((i : Int) + 1) [.int .i64 ((i : Int) + 1)] (fun _ => True) (fun _ => False) rfl rfl ?aP (fun _ hk => hk.elim) ?aF ?aO ?aB ?aS ?aL ?_; (case aP => exact rfl); (case aB => exact HB.out); (case aF => exact (fun _ _ => trivial)); (case aO => exact HO.out); (case aS => exact (below_size HB.out)); (case aL => have := thoseN_len (isB 2) rs i; have := HI.out; have := HL.out; omega); intro v20 w20 ho hb hg hat; clear HB HO; have HB := Aside0.mk hb; have HO := Aside0.mk ho; clear ho hb hg hat))
        exact ⟨⟨i + 1, HI.out, by go_num, ⟨by rw [HT.out]; exact HO.out⟩, HB⟩, by have := HI.out; simp [intOf]; omega⟩
      | false =>
        have HP := Aside0.mk hp
        have HT : Aside0 (thoseN (isB 2) rs (i + 1) = thoseN (isB 2) rs i) := ⟨by rw [thoseN, if_neg (by rw [hp]; simp)]⟩
        clear hp hlt hi
        generalize hrow : rs.getD i Row.z = r at RCH HP
        clear hrow
        go_wp2_with (first
          | (go_at_call 31; (with_reducible refine (count_any (TVH.out.below HB.out)).mono ?_); rintro e w' ⟨rfl, rfl⟩)
          | (go_at_call 43; (with_reducible refine (RCH.out _ HB.out).mono ?_); rintro e w15 ⟨rfl, hb⟩; have n0_ := Aside0.mk (below_step HB.out hb); have n1_ := Aside0.mk (Kd.R_below HO.out hb); clear HB HO hb; have HB := n0_; have HO := n1_; clear n0_ n1_)
          | (go_at_call 56; (with_reducible refine (isblocked_any _ r).mono ?_); rintro e w16 ⟨rfl, hb⟩; rw [HP.out]; have n0_ := Aside0.mk (below_step HB.out hb); have n1_ := Aside0.mk (Kd.R_below HO.out hb); clear HB HO hb; have HB := n0_; have HO := n1_; clear n0_ n1_))
        exact ⟨⟨i + 1, HI.out, by go_num, ⟨by rw [HT.out]; exact HO.out⟩, HB⟩, by have := HI.out; simp [intOf]; omega⟩
    · obtain rfl : i = rs.length := by omega
      have hle : decide ((rs.length : Int) + 1 ≤ (rs.length : Int)) = false := decide_eq_false (by omega)
      clear hlt hi
      go_wp2_with (first | (go_at_call 31; (with_reducible refine (count_any (TVH.out.below HB.out)).mono ?_); rintro e w' ⟨rfl, rfl⟩))
      go_ret
      exact ⟨_, rfl, HO.out, HB.out⟩
set_option maxHeartbeats 2000000 in
theorem those_kids {w : World} {p : Value} {base : Nat} {most : Int} {rs : List Row} (bp : Nat) (q : Int) (h : TV w p base most rs) (hl : rs.length ≤ 1000000) (hbp : w.heap[bp]? = some (.cells #[.int .i64 q] 3 (0, 0))) :
    Calls Try.prog 54 #[p, .func (.func 57) #[] #[.pointer (some ⟨bp, 0, none⟩)]] w fun e w' => ∃ v : Value, e = .returned v ∧ Kd.R (Kd.int .i64) 3 w' w.heap.size (fun _ => True) v (thoseL (kidB q) rs) ∧ Below w.heap.size w w' := by
  have TVH := Aside0.mk h
  have HL := Aside0.mk hl
  have HB := Aside0.mk (Below.refl w.heap.size w)
  have HBP := Aside0.mk hbp
  clear hbp
  clear h hl
  go_enter Try.func54, Try.ntmps54
  go_wp2_with (fail)
  go_loopw [4, 5] (fun v4 v5 wx => ∃ i : Nat, i ≤ rs.length ∧ v5 = .int .i64 ((i : Int) + 1) ∧ Aside0 (Kd.R (Kd.int .i64) 3 wx w.heap.size (fun _ => True) v4 (thoseN (kidB q) rs i)) ∧ Aside0 (Below w.heap.size w wx)) (fun _ v5 _ => rs.length + 1 - (intOf v5).toNat)
  case atStart => exact ⟨0, Nat.zero_le _, rfl, ⟨Kd.R_nil _ _ _ _ _⟩, HB⟩
  case round =>
    clear HB
    obtain ⟨i, hi, rfl, HO, HB⟩ := hrel
    by_cases hlt : i < rs.length
    · have hle : decide ((i : Int) + 1 ≤ (rs.length : Int)) = true := decide_eq_true (by omega)
      have HI := Aside0.mk hlt
      have hw3 : (i : Int) ≤ 1000000 := by have := HL.out; omega
      have hi0 : (0 : Int) ≤ (i : Int) := by omega
      have RC := fun (W : World) (hb : Below w.heap.size w W) => row_any ((i : Int) + 1) (TVH.out.below hb) HL.out
      rw [rowAt_in hlt] at RC
      have RCH := Aside0.mk RC
      clear RC
      cases hp : (kidB q) (rs.getD i Row.z) with
      | true =>
        have HP := Aside0.mk hp
        have HT : Aside0 (thoseN (kidB q) rs (i + 1) = thoseN (kidB q) rs i ++ [(i : Int) + 1]) := ⟨by rw [thoseN, if_pos hp]⟩
        clear hp hlt hi
        generalize hrow : rs.getD i Row.z = r at RCH HP
        clear hrow
        go_wp2_with (first
          | (go_at_call 31; (with_reducible refine (count_any (TVH.out.below HB.out)).mono ?_); rintro e w' ⟨rfl, rfl⟩)
          | (go_at_call 43; (with_reducible refine (RCH.out _ HB.out).mono ?_); rintro e w15 ⟨rfl, hb⟩; have n0_ := Aside0.mk (below_step HB.out hb); have n1_ := Aside0.mk (Kd.R_below HO.out hb); clear HB HO hb; have HB := n0_; have HO := n1_; clear n0_ n1_)
          | (go_at_call 57; (with_reducible refine (iskid_any _ r bp q (blk_below HBP.out HB.out)).mono ?_); rintro e w16 ⟨rfl, hb⟩; rw [HP.out]; have n0_ := Aside0.mk (below_step HB.out hb); have n1_ := Aside0.mk (Kd.R_below HO.out hb); clear HB HO hb; have HB := n0_; have HO := n1_; clear n0_ n1_)
          | ((with_reducible refine gate_builtin (b := .append) (xs := #[.tmp 17, .tmp 19]) rfl ?_); at_builtin; refine Kd.R_append (Kd.int .i64) (w0 := w) w.heap.size rfl (.tmp 17) (.tmp 19) 42 3 (.int .i64 0) 8 rfl Try.underlying42 info3 rfl (by decide) (by omega) u4 (thoseN (kidB q) rs i) ((i : Int) + 1) [.int .i64 ((i : Int) + 1)] (fun _ => True) (fun _ => False) rfl rfl ?aP (fun _ hk => hk.elim) ?aF ?aO ?aB ?aS ?aL ?_; (case aP => exact rfl); (case aB => exact HB.out); (case aF => exact (fun _ _ => trivial)); (case aO => exact HO.out); (case aS => exact (below_size HB.out)); (case aL => have := thoseN_len (kidB q) rs i; have := HI.out; have := HL.out; omega); intro v20 w20 ho hb hg hat; clear HB HO; have HB := Aside0.mk hb; have HO := Aside0.mk ho; clear ho hb hg hat))
        exact ⟨⟨i + 1, HI.out, by go_num, ⟨by rw [HT.out]; exact HO.out⟩, HB⟩, by have := HI.out; simp [intOf]; omega⟩
      | false =>
        have HP := Aside0.mk hp
        have HT : Aside0 (thoseN (kidB q) rs (i + 1) = thoseN (kidB q) rs i) := ⟨by rw [thoseN, if_neg (by rw [hp]; simp)]⟩
        clear hp hlt hi
        generalize hrow : rs.getD i Row.z = r at RCH HP
        clear hrow
        go_wp2_with (first
          | (go_at_call 31; (with_reducible refine (count_any (TVH.out.below HB.out)).mono ?_); rintro e w' ⟨rfl, rfl⟩)
          | (go_at_call 43; (with_reducible refine (RCH.out _ HB.out).mono ?_); rintro e w15 ⟨rfl, hb⟩; have n0_ := Aside0.mk (below_step HB.out hb); have n1_ := Aside0.mk (Kd.R_below HO.out hb); clear HB HO hb; have HB := n0_; have HO := n1_; clear n0_ n1_)
          | (go_at_call 57; (with_reducible refine (iskid_any _ r bp q (blk_below HBP.out HB.out)).mono ?_); rintro e w16 ⟨rfl, hb⟩; rw [HP.out]; have n0_ := Aside0.mk (below_step HB.out hb); have n1_ := Aside0.mk (Kd.R_below HO.out hb); clear HB HO hb; have HB := n0_; have HO := n1_; clear n0_ n1_))
        exact ⟨⟨i + 1, HI.out, by go_num, ⟨by rw [HT.out]; exact HO.out⟩, HB⟩, by have := HI.out; simp [intOf]; omega⟩
    · obtain rfl : i = rs.length := by omega
      have hle : decide ((rs.length : Int) + 1 ≤ (rs.length : Int)) = false := decide_eq_false (by omega)
      clear hlt hi
      go_wp2_with (first | (go_at_call 31; (with_reducible refine (count_any (TVH.out.below HB.out)).mono ?_); rintro e w' ⟨rfl, rfl⟩))
      go_ret
      exact ⟨_, rfl, HO.out, HB.out⟩
section
variable {w : World} {p : Value} {base : Nat} {most : Int} {rs : List Row}
set_option maxHeartbeats 1000000 in
theorem nlive_any (h : TV w p base most rs) (hl : rs.length ≤ 1000000) : Calls Try.prog 22 #[p] w fun e w' => e = .returned (.int .i64 ((thoseL liveB rs).length : Int)) ∧ Below w.heap.size w w' := by
  have H := Aside0.mk (those_live h hl)
  clear h
  go_enter Try.func22, Try.ntmps22
  go_wp2_with (first | (go_at_call 54; (with_reducible refine H.out.mono ?_); rintro e w' ⟨v, rfl, hr, hb⟩; obtain ⟨A, c, rfl⟩ := Kd.R_slice hr; have HB := Aside0.mk hb; clear hb hr))
  go_ret
  exact ⟨rfl, HB.out⟩
set_option maxHeartbeats 1000000 in
theorem lready_any (h : TV w p base most rs) (hl : rs.length ≤ 1000000) : Calls Try.prog 23 #[p] w fun e w' => ∃ v : Value, e = .returned v ∧ Kd.R (Kd.int .i64) 3 w' w.heap.size (fun _ => True) v (thoseL (isB 1) rs) ∧ Below w.heap.size w w' := by
  have H := Aside0.mk (those_ready h hl)
  clear h
  go_enter Try.func23, Try.ntmps23
  go_wp2_with (first | (go_at_call 54; (with_reducible refine H.out.mono ?_); rintro e w' ⟨v, rfl, hr, hb⟩; have HB := Aside0.mk hb; have HO := Aside0.mk hr; clear hb hr))
  go_ret
  exact ⟨_, rfl, HO.out, HB.out⟩
set_option maxHeartbeats 1000000 in
theorem lblocked_any (h : TV w p base most rs) (hl : rs.length ≤ 1000000) : Calls Try.prog 28 #[p] w fun e w' => ∃ v : Value, e = .returned v ∧ Kd.R (Kd.int .i64) 3 w' w.heap.size (fun _ => True) v (thoseL (isB 2) rs) ∧ Below w.heap.size w w' := by
  have H := Aside0.mk (those_blocked h hl)
  clear h
  go_enter Try.func28, Try.ntmps28
  go_wp2_with (first | (go_at_call 54; (with_reducible refine H.out.mono ?_); rintro e w' ⟨v, rfl, hr, hb⟩; have HB := Aside0.mk hb; have HO := Aside0.mk hr; clear hb hr))
  go_ret
  exact ⟨_, rfl, HO.out, HB.out⟩
set_option maxHeartbeats 1000000 in
theorem kids_any (q : Int) (h : TV w p base most rs) (hl : rs.length ≤ 1000000) : Calls Try.prog 30 #[p, .int .i64 q] w fun e w' => e = .returned (.int .i64 ((thoseL (kidB q) rs).length : Int)) ∧ Below w.heap.size w w' := by
  have TVH := Aside0.mk h
  have HB := Aside0.mk (Below.refl w.heap.size w)
  clear h
  go_enter Try.func30, Try.ntmps30
  go_wp2_with (first | ((with_reducible refine gate_dst (N := 3) rfl ?_); refine box_event ?hg (N := 3) ?hd (cs := #[.int .i64 q]) (t := 3) ?hr ?_; (case hd => rfl); (case hg => rfl); (case hr => first | (go_simp; done) | (go_simp; rfl)); intro g3 hg w3 hbox hb; have n0_ := Aside0.mk (below_step HB.out hb); have n1_ := Aside0.mk (hbox); clear HB; have HB := n0_; have BK3 := n1_; clear n0_ n1_; clear hg hbox hb) | (go_at_call 54; (with_reducible refine (those_kids g3 q (TVH.out.below HB.out) hl BK3.out).mono ?_); rintro e w' ⟨v, rfl, hr, hb⟩; obtain ⟨A, c, rfl⟩ := Kd.R_slice hr; have n0_ := Aside0.mk (below_step HB.out hb); clear HB hb hr; have HB := n0_; clear n0_))
  go_ret
  exact ⟨rfl, HB.out⟩
end

end Go.Proofs.Ytfllnpfikdhdbaa.PProcs
