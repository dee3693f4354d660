import Derived.Test.YtdgaklldijkoaaaPCodex0
import Derived.Test.YtdgaklldijkoaaaCodeE
import Derived.BigQuiet
import Derived.IntWalk
import Derived.WalkMore
import Derived.Laws.EntriesVeiled
import Derived.StillTailTactics
import Derived.Laws.BitsAllLaws
import Derived.Laws.BitsLemmas
namespace Go.Proofs.Ytdgaklldijkoaaa.PCode
open Go.RowKit Go.Proofs.YtdgaklldijkoaaaW.PrintWords Go.Proofs.YtdgaklldijkoaaaW.PrintLast Go.Proofs.YtdgaklldijkoaaaW.PrintMore
attribute [local go_sem] max2_int min2_int max_two min_two max_three min_three max_four min_four
set_option linter.unusedVariables false
set_option linter.unusedSimpArgs false
/-! Numbers read: what is left, and whether there was too little. -/
abbrev RS := List Int × Bool
def rgetV (k : Nat) (s : RS) : Int := if s.2 = true ∨ s.1.length < k then 0 else fromLE (s.1.take k)
def rgetS (k : Nat) (s : RS) : RS := if s.2 = true ∨ s.1.length < k then (s.1, true) else (s.1.drop k, false)
def rnumV (s : RS) : Int := wrap64 (rgetV 8 s)
def rnumS (s : RS) : RS := rgetS 8 s
def rrowV : Nat → RS → List Int
  | 0, _ => []
  | m + 1, s => rnumV s :: rrowV m (rnumS s)
def rrowS : Nat → RS → RS
  | 0, s => s
  | m + 1, s => rrowS m (rnumS s)
def rtakeV (m : Nat) : Nat → RS → List (List Int)
  | 0, _ => []
  | n + 1, s => if s.2 = true then [] else rrowV m s :: rtakeV m n (rrowS m s)
def rtakeS (m : Nat) : Nat → RS → RS
  | 0, s => s
  | n + 1, s => if s.2 = true then s else rtakeS m n (rrowS m s)
def rlistV (m : Nat) (s : RS) : List (List Int) := rtakeV m (rgetV 2 s).toNat (rgetS 2 s)
def rlistS (m : Nat) (s : RS) : RS := rtakeS m (rgetV 2 s).toNat (rgetS 2 s)
theorem Byt.get {s : RS} (h : Byt s.1) (k : Nat) : Byt (rgetS k s).1 := by
  unfold rgetS
  split
  · exact h
  · exact h.drop k
theorem Byt.row {s : RS} (h : Byt s.1) : ∀ m : Nat, Byt (rrowS m s).1
  | 0 => h
  | m + 1 => Byt.row (s := rnumS s) (h.get 8) m
theorem Byt.takes {m : Nat} : ∀ (n : Nat) {s : RS}, Byt s.1 → Byt (rtakeS m n s).1
  | 0, s, h => h
  | n + 1, s, h => by
    unfold rtakeS
    split
    · exact h
    · exact Byt.takes n (h.row m)
theorem Byt.lists {s : RS} (h : Byt s.1) (m : Nat) : Byt (rlistS m s).1 := Byt.takes _ (h.get 2)
theorem rget2_bd {s : RS} (h : Byt s.1) : 0 ≤ rgetV 2 s ∧ rgetV 2 s < 65536 := by
  unfold rgetV
  split
  · decide
  · have := fromLE_bd (s.1.take 2) (h.take 2)
    rw [List.length_take, Nat.min_eq_left (by omega)] at this
    exact this
theorem rtake_len (m : Nat) : ∀ (n : Nat) (s : RS), (rtakeV m n s).length ≤ n
  | 0, s => Nat.le_refl 0
  | n + 1, s => by
    unfold rtakeV
    split
    · simp
    · have := rtake_len m n (rrowS m s); simp; omega
theorem rlist_len {s : RS} (h : Byt s.1) (m : Nat) : (rlistV m s).length ≤ 65535 := by
  have := rtake_len m (rgetV 2 s).toNat (rgetS 2 s)
  have := rget2_bd h
  unfold rlistV; omega
theorem rrow_len : ∀ (m : Nat) (s : RS), (rrowV m s).length = m
  | 0, _ => rfl
  | m + 1, s => by rw [rrowV, List.length_cons, rrow_len m]
abbrev RDS (w0 w : World) (g : Nat) (s : RS) (cl : Int) : Prop := RDB w0 w g s.1 cl s.2
theorem RDB.step {w0 w w' : World} {g : Nat} {l : List Int} {cl : Int} {bad : Bool} (h : RDB w0 w g l cl bad) {S : List Nat} (hf : Fr S w w') (hS : 73 ∉ S) (hb : Below w0.heap.size w0 w') : RDB w0 w' g l cl bad := by
  obtain ⟨A, c, a, b, d, e, f⟩ := h
  exact ⟨A, c, hf.cells a hS, b, d, e, hb⟩
theorem RDB.bad {w0 w : World} {g : Nat} {l : List Int} {cl : Int} {bad : Bool} (h : RDB w0 w g l cl bad) : w.cell? ⟨g, 2, none⟩ = some (.bool bad) := by
  obtain ⟨A, c, a, _⟩ := h
  exact (blk_cell a 2).trans rfl
theorem RDB.cls {w0 w : World} {g : Nat} {l : List Int} {cl : Int} {bad : Bool} (h : RDB w0 w g l cl bad) : w.cell? ⟨g, 1, none⟩ = some (.int .i64 cl) := by
  obtain ⟨A, c, a, _⟩ := h
  exact (blk_cell a 1).trans rfl
theorem rlow_any {w0 w : World} {g : Nat} {s : RS} {cl : Int} (k : Nat) (h : RDS w0 w g s cl) (hk : k ≤ 8) (hB : Byt s.1) :
    Calls Try.prog 61 #[.pointer (some ⟨g, 0, none⟩), .int .i64 (k : Int)] w fun e w' => e = .returned (.int .u64 (rgetV k s)) ∧ RDS w0 w' g (rgetS k s) cl ∧ Fr [73] w w' := by
  obtain ⟨l, bad⟩ := s
  unfold rgetV rgetS
  by_cases q : bad = true ∨ l.length < k
  · rw [if_pos q, if_pos q]
    exact rlow_bad k h q hk
  · rw [if_neg q, if_neg q]
    cases bad with
    | true => exact absurd (.inl rfl) q
    | false => exact rlow_ok k h (Nat.le_of_not_lt (fun h => q (.inr h))) hk hB
theorem rlow2 {w0 w : World} {g : Nat} {s : RS} {cl : Int} (h : RDS w0 w g s cl) (hB : Byt s.1) :
    Calls Try.prog 61 #[.pointer (some ⟨g, 0, none⟩), .int .i64 2] w fun e w' => e = .returned (.int .u64 (rgetV 2 s)) ∧ RDS w0 w' g (rgetS 2 s) cl ∧ Fr [73] w w' := rlow_any 2 h (by decide) hB
theorem rlow8 {w0 w : World} {g : Nat} {s : RS} {cl : Int} (h : RDS w0 w g s cl) (hB : Byt s.1) :
    Calls Try.prog 61 #[.pointer (some ⟨g, 0, none⟩), .int .i64 8] w fun e w' => e = .returned (.int .u64 (rgetV 8 s)) ∧ RDS w0 w' g (rgetS 8 s) cl ∧ Fr [73] w w' := rlow_any 8 h (by decide) hB
set_option maxHeartbeats 2000000 in
theorem rnum_any {w0 w : World} {g : Nat} {s : RS} {cl : Int} (h : RDS w0 w g s cl) (hB : Byt s.1) :
    Calls Try.prog 42 #[.pointer (some ⟨g, 0, none⟩)] w fun e w' => e = .returned (.int .i64 (rnumV s)) ∧ RDS w0 w' g (rnumS s) cl ∧ Fr [73] w w' := by
  have H := Aside0.mk (rlow8 h hB)
  clear h hB
  unfold rnumV rnumS
  go_enter Try.func42, Try.ntmps42
  go_wp2_with (first | (go_at_call 61; (with_reducible refine H.out.mono ?_); rintro e w61 ⟨rfl, hh, hf⟩; have HH := Aside0.mk hh; have HF := Aside0.mk hf; clear hh hf))
  go_ret
  exact ⟨rfl, HH.out, HF.out⟩

end Go.Proofs.Ytdgaklldijkoaaa.PCode
