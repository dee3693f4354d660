import Derived.Test.YtdgaklldijkoaaaPCodex0
import Derived.Test.YtdgaklldijkoaaaCodeD
import Derived.BigQuiet
import Derived.IntWalk
import Derived.WalkMore
import Derived.Laws.EntriesVeiled
import Derived.StillTailTactics
import Derived.Laws.BitsAllLaws
import Derived.Laws.BitsLemmas
namespace Go.Proofs.Ytdgaklldijkoaaa.PCode
open Go.RowKit Go.Proofs.YtdgaklldijkoaaaW.PrintWords Go.Proofs.YtdgaklldijkoaaaW.PrintLast Go.Proofs.YtdgaklldijkoaaaW.PrintMore
attribute [local go_sem] max2_int min2_int max_two min_two max_three min_three max_four min_four
set_option linter.unusedVariables false
set_option linter.unusedSimpArgs false
/-! The reader. -/
/-- The number that bytes are, the lowest first. -/
def fromLE : List Int → Int
  | [] => 0
  | b :: t => b + 256 * fromLE t
def Byt (l : List Int) : Prop := ∀ x ∈ l, 0 ≤ x ∧ x ≤ 255
theorem Byt.drop {l : List Int} (h : Byt l) (k : Nat) : Byt (l.drop k) := fun x hx => h x (List.mem_of_mem_drop hx)
theorem Byt.take {l : List Int} (h : Byt l) (k : Nat) : Byt (l.take k) := fun x hx => h x (List.mem_of_mem_take hx)
theorem fromLE_snoc (b : Int) : ∀ l : List Int, fromLE (l ++ [b]) = fromLE l + b * 256 ^ l.length
  | [] => by simp [fromLE]
  | x :: l => by
    rw [List.cons_append, fromLE, fromLE_snoc b l, fromLE, List.length_cons, Int.pow_succ, Int.mul_add, ← Int.add_assoc]
    congr 1
    rw [Int.mul_comm (256 ^ l.length) 256, ← Int.mul_assoc, ← Int.mul_assoc, Int.mul_comm b 256]
theorem fromLE_bd : ∀ l : List Int, Byt l → 0 ≤ fromLE l ∧ fromLE l < 256 ^ l.length
  | [], _ => by simp [fromLE]
  | x :: l, h => by
    have h1 := fromLE_bd l (fun y hy => h y (by simp [hy]))
    have h2 := h x (by simp)
    rw [fromLE, List.length_cons, Int.pow_succ]
    omega
theorem or_byte {a x : Int} {i : Nat} (hi : i ≤ 7) (h0 : 0 ≤ a) (h1 : a < 256 ^ i) (h2 : 0 ≤ x) (h3 : x ≤ 255) : bits .or .u64 a (IntKind.u64.wrap (x * 2 ^ (8 * i))) = a + x * 256 ^ i := by
  obtain ⟨A, rfl⟩ := Int.eq_ofNat_of_zero_le h0
  obtain ⟨X, rfl⟩ := Int.eq_ofNat_of_zero_le h2
  have e2 : (256 : Int) ^ i = ((2 ^ (8 * i) : Nat) : Int) := by rw [Nat.pow_mul]; simp
  have e3 : ((X : Int) * 2 ^ (8 * i)) = ((X * 2 ^ (8 * i) : Nat) : Int) := by simp
  rw [e2] at h1
  have hA : A < 2 ^ (8 * i) := by exact_mod_cast h1
  have hp : 2 ^ (8 * i) ≤ 2 ^ 56 := Nat.pow_le_pow_right (by decide) (by omega)
  have hX : X * 2 ^ (8 * i) ≤ 255 * 2 ^ 56 := Nat.mul_le_mul (by omega) hp
  have hb : X * 2 ^ (8 * i) < 18446744073709551616 := Nat.lt_of_le_of_lt hX (by decide)
  have ha : A < 18446744073709551616 := Nat.lt_of_lt_of_le hA (Nat.le_trans hp (by decide))
  have ew : IntKind.u64.wrap ((X * 2 ^ (8 * i) : Nat) : Int) = ((X * 2 ^ (8 * i) : Nat) : Int) := by
    have e : IntKind.u64.wrap ((X * 2 ^ (8 * i) : Nat) : Int) = ((X * 2 ^ (8 * i) : Nat) : Int) % 18446744073709551616 := rfl
    rw [e]; omega
  rw [e3, ew, e2, u64_or_nat _ _ ha hb, Nat.or_comm, nat_join (8 * i) _ _ (Nat.mul_mod_left _ _) hA]
  simp [Int.add_comm]
/-- The reader's box: what is left, how many classes, and whether there was too little. -/
def RDB (w0 w : World) (g : Nat) (l : List Int) (cl : Int) (bad : Bool) : Prop := ∃ A c, w.heap[g]? = some (.cells #[.slice A l.length c, .int .i64 cl, .bool bad] 73 (0, 0)) ∧ l.length ≤ c ∧ Kd.C (Kd.int .u8) w0 A l.length l ∧ w0.heap.size ≤ g ∧ Below w0.heap.size w0 w
theorem RDB.below {w0 w w' : World} {g : Nat} {l : List Int} {cl : Int} {bad : Bool} (h : RDB w0 w g l cl bad) (hb : Below w.heap.size w w') : RDB w0 w' g l cl bad := by
  obtain ⟨A, c, a, b, d, e, f⟩ := h
  exact ⟨A, c, blk_below a hb, b, d, e, below_step f hb⟩
theorem RDB.at {w0 w : World} {g : Nat} {l : List Int} {cl : Int} {bad : Bool} (h : RDB w0 w g l cl bad) : Below w0.heap.size w0 w := h.choose_spec.choose_spec.2.2.2.2
set_option maxHeartbeats 4000000 in
set_option maxRecDepth 100000 in
theorem rlow_bad {w0 w : World} {g : Nat} {l : List Int} {cl : Int} {bad : Bool} (k : Nat) (h : RDB w0 w g l cl bad) (hb : bad = true ∨ l.length < k) (hk : k ≤ 8) :
    Calls Try.prog 61 #[.pointer (some ⟨g, 0, none⟩), .int .i64 (k : Int)] w fun e w' => e = .returned (.int .u64 0) ∧ RDB w0 w' g l cl true ∧ Fr [73] w w' := by
  obtain ⟨A, c, hbk, hlc, hC, hge, hbel⟩ := h
  have BK := Aside0.mk hbk
  have HLC := Aside0.mk hlc
  have HC := Aside0.mk hC
  have GE := Aside0.mk hge
  have HB := Aside0.mk hbel
  have hc0 : w.cell? ⟨g, 0, none⟩ = some (.slice A l.length c) := (blk_cell hbk 0).trans rfl
  have hc2 : w.cell? ⟨g, 2, none⟩ = some (.bool bad) := (blk_cell hbk 2).trans rfl
  have hf2 : w.frozen? ⟨g, 2, none⟩ = false := blk_frozen hbk 2
  have hn2 : (w.setCell ⟨g, 2, none⟩ (.bool true)).cell? ⟨g, 2, none⟩ = some (.bool true) := (blk_cell (blk_put (cs' := #[.slice A l.length c, .int .i64 cl, .bool true]) hbk 2 (.bool true) rfl) 2).trans rfl
  have FIN : Aside0 (RDB w0 (w.setCell ⟨g, 2, none⟩ (.bool true)) g l cl true ∧ Fr [73] w (w.setCell ⟨g, 2, none⟩ (.bool true))) := ⟨⟨A, c, blk_put BK.out 2 _ rfl, hlc, hC, hge, below_set hbel hge⟩, Fr.set BK.out (by simp)⟩
  clear hbk hlc hC hge hbel BK HLC HC GE HB
  cases bad with
  | true =>
    clear hb
    go_enter Try.func61, Try.ntmps61
    go_wp2_with (fail)
    go_ret
    exact ⟨rfl, FIN.out⟩
  | false =>
    have hlk : l.length < k := hb.resolve_left (by decide)
    have hb1 : decide (l.length < k) = true := decide_eq_true hlk
    have hb2 : decide ((l.length : Int) < (k : Int)) = true := decide_eq_true (by omega)
    clear hb
    go_enter Try.func61, Try.ntmps61
    go_wp2_with (fail)
    go_ret
    exact ⟨rfl, FIN.out⟩
set_option maxHeartbeats 4000000 in
set_option maxRecDepth 100000 in
theorem rlow_ok {w0 w : World} {g : Nat} {l : List Int} {cl : Int} (k : Nat) (h : RDB w0 w g l cl false) (hl : k ≤ l.length) (hk : k ≤ 8) (hB : Byt l) :
    Calls Try.prog 61 #[.pointer (some ⟨g, 0, none⟩), .int .i64 (k : Int)] w fun e w' => e = .returned (.int .u64 (fromLE (l.take k))) ∧ RDB w0 w' g (l.drop k) cl false ∧ Fr [73] w w' := by
  obtain ⟨A, c, hbk, hlc, hC, hge, hbel⟩ := h
  have hb1 : decide (l.length < k) = false := decide_eq_false (by omega)
  have hb2 : decide ((l.length : Int) < (k : Int)) = false := decide_eq_false (by omega)
  have hc0 : w.cell? ⟨g, 0, none⟩ = some (.slice A l.length c) := (blk_cell hbk 0).trans rfl
  have hc2 : w.cell? ⟨g, 2, none⟩ = some (.bool false) := (blk_cell hbk 2).trans rfl
  have hf2 : w.frozen? ⟨g, 2, none⟩ = false := blk_frozen hbk 2
  have n0_ := Aside0.mk (blk_put (cs' := #[.slice A l.length c, .int .i64 cl, .bool false]) hbk 2 (.bool false) rfl)
  have n1_ := Aside0.mk (below_set (j := 2) (v := .bool false) hbel hge)
  have n2_ := Aside0.mk (Fr.set (S := [73]) (j := 2) (v := .bool false) hbk (by simp))
  have HLC := Aside0.mk hlc
  have HC := Aside0.mk hC
  have GE := Aside0.mk hge
  have HL := Aside0.mk hl
  have HY := Aside0.mk hB
  have hk8 : (k : Int) ≤ 8 := by omega
  clear hbk hlc hC hge hbel hl hB
  go_enter Try.func61, Try.ntmps61
  go_upto_region 2 with (fail)
  clear hc0 hc2 hf2 hb1 hb2
  generalize (w.setCell { block := g, off := 2 } (Value.bool false)) = W1 at n0_ n1_ n2_ ⊢
  have BK := n0_
  have HB := n1_
  have HF := n2_
  clear n0_ n1_ n2_
  have hc0 : W1.cell? ⟨g, 0, none⟩ = some (.slice A l.length c) := (blk_cell BK.out 0).trans rfl
  have hc2 : W1.cell? ⟨g, 2, none⟩ = some (.bool false) := (blk_cell BK.out 2).trans rfl
  go_wp2_with (fail)
  go_loopw [4, 27] (fun v4 v27 wx => ∃ i : Nat, v27 = .int .i64 (i : Int) ∧ i ≤ k ∧ v4 = .int .u64 (fromLE (l.take i)) ∧ W1 = wx) (fun _ v27 _ => k - (intOf v27).toNat)
  case atStart => exact ⟨0, rfl, Nat.zero_le _, rfl, rfl⟩
  case round =>
    obtain ⟨i, rfl, hik, rfl, rfl⟩ := hrel
    by_cases hlt : i < k
    · have hltb : decide (i < k) = true := decide_eq_true hlt
      have HI := Aside0.mk hlt
      have hi8 : (i : Int) ≤ 7 := by omega
      have hil : i < l.length := by have := HL.out; omega
      have hi0 : (0 : Int) ≤ (i : Int) := by omega
      have hi1 : (i : Int) < (l.length : Int) := by omega
      obtain ⟨ad, e, hx⟩ := Kd.at_int (Kd.C_below HC.out HB.out) (i : Int) hi0 hi1
      subst e
      rw [Int.toNat_natCast] at hx
      have HT : Aside0 (fromLE (l.take (i + 1)) = fromLE (l.take i) + rd l (i : Int) * 256 ^ i) := ⟨by rw [take_snoc l hil, fromLE_snoc, List.length_take, Nat.min_eq_left (by omega)]⟩
      have HAE : Aside0 (0 ≤ fromLE (l.take i) ∧ fromLE (l.take i) < 256 ^ i) := ⟨by have h := fromLE_bd (l.take i) (HY.out.take i); rwa [List.length_take, Nat.min_eq_left (by omega)] at h⟩
      have HX : Aside0 (0 ≤ rd l (i : Int) ∧ rd l (i : Int) ≤ 255) := ⟨HY.out _ (by show l.getD (i : Int).toNat 0 ∈ l; rw [Int.toNat_natCast, List.getD_eq_getElem?_getD, List.getElem?_eq_getElem hil]; exact List.getElem_mem hil)⟩
      generalize rd l (i : Int) = x at hx HT HX
      generalize fromLE (l.take i) = a at HT HAE ⊢
      have hx0 := HX.out.1
      have hx1 := HX.out.2
      go_wp2_with (fail)
      go_roundw
      case rel => exact ⟨i + 1, by go_num, HI.out, by rw [or_byte (by omega) HAE.out.1 HAE.out.2 hx0 hx1, HT.out], by first | rfl | trivial⟩
      case measure => have := HI.out; simp [intOf]; omega
    · have hltb : decide (i < k) = false := decide_eq_false hlt
      obtain rfl : i = k := by omega
      obtain ⟨A2, e2⟩ : ∃ A2, A2 = (if c = ((i : Nat) : Int).toNat then A else A.map (·.add (((i : Nat) : Int).toNat * 1))) := ⟨_, rfl⟩
      obtain ⟨i0, hi0_, _, hsz_, _⟩ := info_parts info5
      have hcut := cut_from (P := Try.prog) 32 5 .i64 Try.underlying32 hi0_ 1 hsz_ A l.length c (i : Int) (Int.natCast_nonneg _) (by have := HL.out; omega)
      rw [← e2, Int.toNat_natCast] at hcut
      rw [Int.toNat_natCast, Nat.mul_one] at e2
      have HC2 : Aside0 (Kd.C (Kd.int .u8) w0 A2 (l.drop i).length (l.drop i)) := ⟨by rw [e2]; have h := Kd.C_drop HC.out HL.out HLC.out; rwa [show (Kd.int .u8).sz = 1 from rfl, Nat.mul_one] at h⟩
      have EL : Aside0 ((l.drop i).length = l.length - i) := ⟨List.length_drop⟩
      have hf0 : W1.frozen? ⟨g, 0, none⟩ = false := blk_frozen BK.out 0
      have n0_ : Aside0 (RDB w0 (W1.setCell ⟨g, 0, none⟩ (.slice A2 (l.length - i) (c - i))) g (l.drop i) cl false) := ⟨⟨A2, c - i, by rw [EL.out]; exact blk_put BK.out 0 _ rfl, by rw [EL.out]; have := HLC.out; omega, HC2.out, GE.out, below_set HB.out GE.out⟩⟩
      have n1_ := Aside0.mk (HF.out.then_ (Fr.set (S := [73]) (j := 0) (v := .slice A2 (l.length - i) (c - i)) BK.out (by simp)))
      clear e2 hltb hlt hik HC2 EL
      go_wp2_with (fail)
      go_ret
      exact ⟨rfl, n0_.out, n1_.out⟩

end Go.Proofs.Ytdgaklldijkoaaa.PCode
