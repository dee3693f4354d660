-- Written by a program of this session (over the kit's printer): not typed by hand.
import Derived.Test.YtdgaklldijkoaaaPCodex0
import Derived.Test.YtdgaklldijkoaaaPCodex1
import Derived.Test.YtdgaklldijkoaaaPCodex2
import Derived.Test.YtdgaklldijkoaaaPCodex3
import Derived.Test.YtdgaklldijkoaaaPCodex4
import Derived.Test.YtdgaklldijkoaaaCodeP
namespace Go.Proofs.Ytdgaklldijkoaaa.PCode
open Go.RowKit Go.Proofs.YtdgaklldijkoaaaW.PrintWords Go.Proofs.YtdgaklldijkoaaaW.PrintLast Go.Proofs.YtdgaklldijkoaaaW.PrintMore
attribute [local go_sem] max2_int min2_int max_two min_two max_three min_three max_four min_four   -- for this text's walks alone
set_option linter.unusedVariables false
set_option linter.unusedSimpArgs false

attribute [local go_sem high] eqA44 eqA46 eqA56 eqA65
/-! ### signalboxref1_Same: function 15 -/
mutual
def signalboxref1_Same.j0 : Nat → Bool → List (S44) → List (S46) → List (S56) → Int → List Int → List Int → List (List Int) → List (S65) → Int → List (S44) → List (S46) → List (S56) → Int → List Int → List Int → List (List Int) → List (S65) → Int → Option (Bool)
  | 0, _, _, _, _, _, _, _, _, _, _, _, _, _, _, _, _, _, _, _ => none
  | k + 1, x82, x144000, x144001, x144002, x144003, x144004, x144005, x144006, x144007, x144008, x145000, x145001, x145002, x145003, x145004, x145005, x145006, x145007, x145008 => if x82 = true then (some false) else (signalboxref1_Same.l0 k 0 x144000 x144001 x144002 x144003 x144004 x144005 x144006 x144007 x144008 x145000 x145001 x145002 x145003 x145004 x145005 x145006 x145007 x145008)
def signalboxref1_Same.l0 : Nat → Int → List (S44) → List (S46) → List (S56) → Int → List Int → List Int → List (List Int) → List (S65) → Int → List (S44) → List (S46) → List (S56) → Int → List Int → List Int → List (List Int) → List (S65) → Int → Option (Bool)
  | 0, _, _, _, _, _, _, _, _, _, _, _, _, _, _, _, _, _, _, _ => none
  | k + 1, x5, x144000, x144001, x144002, x144003, x144004, x144005, x144006, x144007, x144008, x145000, x145001, x145002, x145003, x145004, x145005, x145006, x145007, x145008 => if x5 < (x144000.length : Int) then (if 0 ≤ x5 then (if x5 < (x145000.length : Int) then (if (!(((rd_T44 x144000 x5).f0) == ((rd_T44 x145000 x5).f0)) || (!(((rd_T44 x144000 x5).f1) == ((rd_T44 x145000 x5).f1)) || (!(((rd_T44 x144000 x5).f2) == ((rd_T44 x145000 x5).f2))))) = true then (some false) else (signalboxref1_Same.l0 k (wrap64 (x5 + 1)) x144000 x144001 x144002 x144003 x144004 x144005 x144006 x144007 x144008 x145000 x145001 x145002 x145003 x145004 x145005 x145006 x145007 x145008)) else (none)) else (none)) else (signalboxref1_Same.l1 k 0 x144000 x144001 x144002 x144003 x144004 x144005 x144006 x144007 x144008 x145000 x145001 x145002 x145003 x145004 x145005 x145006 x145007 x145008)
def signalboxref1_Same.l1 : Nat → Int → List (S44) → List (S46) → List (S56) → Int → List Int → List Int → List (List Int) → List (S65) → Int → List (S44) → List (S46) → List (S56) → Int → List Int → List Int → List (List Int) → List (S65) → Int → Option (Bool)
  | 0, _, _, _, _, _, _, _, _, _, _, _, _, _, _, _, _, _, _, _ => none
  | k + 1, x6, x144000, x144001, x144002, x144003, x144004, x144005, x144006, x144007, x144008, x145000, x145001, x145002, x145003, x145004, x145005, x145006, x145007, x145008 => if x6 < (x144001.length : Int) then (if 0 ≤ x6 then (if x6 < (x145001.length : Int) then (if (!(((rd_T46 x144001 x6).f0) == ((rd_T46 x145001 x6).f0)) || (!(((rd_T46 x144001 x6).f1) == ((rd_T46 x145001 x6).f1)) || (!(((rd_T46 x144001 x6).f2) == ((rd_T46 x145001 x6).f2))))) = true then (some false) else (signalboxref1_Same.l1 k (wrap64 (x6 + 1)) x144000 x144001 x144002 x144003 x144004 x144005 x144006 x144007 x144008 x145000 x145001 x145002 x145003 x145004 x145005 x145006 x145007 x145008)) else (none)) else (none)) else (signalboxref1_Same.l2 k 0 x144000 x144001 x144002 x144003 x144004 x144005 x144006 x144007 x144008 x145000 x145001 x145002 x145003 x145004 x145005 x145006 x145007 x145008)
def signalboxref1_Same.l2 : Nat → Int → List (S44) → List (S46) → List (S56) → Int → List Int → List Int → List (List Int) → List (S65) → Int → List (S44) → List (S46) → List (S56) → Int → List Int → List Int → List (List Int) → List (S65) → Int → Option (Bool)
  | 0, _, _, _, _, _, _, _, _, _, _, _, _, _, _, _, _, _, _, _ => none
  | k + 1, x7, x144000, x144001, x144002, x144003, x144004, x144005, x144006, x144007, x144008, x145000, x145001, x145002, x145003, x145004, x145005, x145006, x145007, x145008 => if x7 < (x144002.length : Int) then (if 0 ≤ x7 then (if x7 < (x145002.length : Int) then (if (!(((rd_T56 x144002 x7).f0) == ((rd_T56 x145002 x7).f0)) || (!(((rd_T56 x144002 x7).f1) == ((rd_T56 x145002 x7).f1)))) = true then (some false) else (signalboxref1_Same.l2 k (wrap64 (x7 + 1)) x144000 x144001 x144002 x144003 x144004 x144005 x144006 x144007 x144008 x145000 x145001 x145002 x145003 x145004 x145005 x145006 x145007 x145008)) else (none)) else (none)) else (signalboxref1_Same.l3 k 0 x144000 x144001 x144002 x144003 x144004 x144005 x144006 x144007 x144008 x145000 x145001 x145002 x145003 x145004 x145005 x145006 x145007 x145008)
def signalboxref1_Same.l3 : Nat → Int → List (S44) → List (S46) → List (S56) → Int → List Int → List Int → List (List Int) → List (S65) → Int → List (S44) → List (S46) → List (S56) → Int → List Int → List Int → List (List Int) → List (S65) → Int → Option (Bool)
  | 0, _, _, _, _, _, _, _, _, _, _, _, _, _, _, _, _, _, _, _ => none
  | k + 1, x8, x144000, x144001, x144002, x144003, x144004, x144005, x144006, x144007, x144008, x145000, x145001, x145002, x145003, x145004, x145005, x145006, x145007, x145008 => if x8 < (x144006.length : Int) then (if 0 ≤ x8 then (if x8 < (x145006.length : Int) then ((signalboxref1_Ints.f k (rd_L1 x144006 x8) (rd_L1 x145006 x8)).bind fun t155 => (if t155 = true then (signalboxref1_Same.l3 k (wrap64 (x8 + 1)) x144000 x144001 x144002 x144003 x144004 x144005 x144006 x144007 x144008 x145000 x145001 x145002 x145003 x145004 x145005 x145006 x145007 x145008) else (some false))) else (none)) else (none)) else (signalboxref1_Same.l4 k 0 x144000 x144001 x144002 x144003 x144004 x144005 x144006 x144007 x144008 x145000 x145001 x145002 x145003 x145004 x145005 x145006 x145007 x145008)
def signalboxref1_Same.l4 : Nat → Int → List (S44) → List (S46) → List (S56) → Int → List Int → List Int → List (List Int) → List (S65) → Int → List (S44) → List (S46) → List (S56) → Int → List Int → List Int → List (List Int) → List (S65) → Int → Option (Bool)
  | 0, _, _, _, _, _, _, _, _, _, _, _, _, _, _, _, _, _, _, _ => none
  | k + 1, x9, x144000, x144001, x144002, x144003, x144004, x144005, x144006, x144007, x144008, x145000, x145001, x145002, x145003, x145004, x145005, x145006, x145007, x145008 => if x9 < (x144007.length : Int) then (if 0 ≤ x9 then (if x9 < (x145007.length : Int) then (if (!(((rd_T65 x144007 x9).f0) == ((rd_T65 x145007 x9).f0)) || (!(((rd_T65 x144007 x9).f1) == ((rd_T65 x145007 x9).f1)))) = true then (some false) else (signalboxref1_Same.l4 k (wrap64 (x9 + 1)) x144000 x144001 x144002 x144003 x144004 x144005 x144006 x144007 x144008 x145000 x145001 x145002 x145003 x145004 x145005 x145006 x145007 x145008)) else (none)) else (none)) else (some true)
end
def signalboxref1_Same.f (k : Nat) (l0_0 : List (S44)) (l0_1 : List (S46)) (l0_2 : List (S56)) (a0_3 : Int) (l0_4 : List Int) (l0_5 : List Int) (l0_6 : List (List Int)) (l0_7 : List (S65)) (a0_8 : Int) (l1_0 : List (S44)) (l1_1 : List (S46)) (l1_2 : List (S56)) (a1_3 : Int) (l1_4 : List Int) (l1_5 : List Int) (l1_6 : List (List Int)) (l1_7 : List (S65)) (a1_8 : Int) : Option (Bool) := if (l0_0.length : Int) = (l1_0.length : Int) then (if (l0_1.length : Int) = (l1_1.length : Int) then (if (l0_2.length : Int) = (l1_2.length : Int) then (if a0_3 = a1_3 then ((signalboxref1_Ints.f k l0_4 l1_4).bind fun t145 => (if t145 = true then ((signalboxref1_Ints.f k l0_5 l1_5).bind fun t146 => (if t146 = true then (if (l0_6.length : Int) = (l1_6.length : Int) then (if (l0_7.length : Int) = (l1_7.length : Int) then (signalboxref1_Same.j0 k (a0_8 != a1_8) l0_0 l0_1 l0_2 a0_3 l0_4 l0_5 l0_6 l0_7 a0_8 l1_0 l1_1 l1_2 a1_3 l1_4 l1_5 l1_6 l1_7 a1_8) else (signalboxref1_Same.j0 k true l0_0 l0_1 l0_2 a0_3 l0_4 l0_5 l0_6 l0_7 a0_8 l1_0 l1_1 l1_2 a1_3 l1_4 l1_5 l1_6 l1_7 a1_8)) else (signalboxref1_Same.j0 k true l0_0 l0_1 l0_2 a0_3 l0_4 l0_5 l0_6 l0_7 a0_8 l1_0 l1_1 l1_2 a1_3 l1_4 l1_5 l1_6 l1_7 a1_8)) else (signalboxref1_Same.j0 k true l0_0 l0_1 l0_2 a0_3 l0_4 l0_5 l0_6 l0_7 a0_8 l1_0 l1_1 l1_2 a1_3 l1_4 l1_5 l1_6 l1_7 a1_8))) else (signalboxref1_Same.j0 k true l0_0 l0_1 l0_2 a0_3 l0_4 l0_5 l0_6 l0_7 a0_8 l1_0 l1_1 l1_2 a1_3 l1_4 l1_5 l1_6 l1_7 a1_8))) else (signalboxref1_Same.j0 k true l0_0 l0_1 l0_2 a0_3 l0_4 l0_5 l0_6 l0_7 a0_8 l1_0 l1_1 l1_2 a1_3 l1_4 l1_5 l1_6 l1_7 a1_8)) else (signalboxref1_Same.j0 k true l0_0 l0_1 l0_2 a0_3 l0_4 l0_5 l0_6 l0_7 a0_8 l1_0 l1_1 l1_2 a1_3 l1_4 l1_5 l1_6 l1_7 a1_8)) else (signalboxref1_Same.j0 k true l0_0 l0_1 l0_2 a0_3 l0_4 l0_5 l0_6 l0_7 a0_8 l1_0 l1_1 l1_2 a1_3 l1_4 l1_5 l1_6 l1_7 a1_8)) else (signalboxref1_Same.j0 k true l0_0 l0_1 l0_2 a0_3 l0_4 l0_5 l0_6 l0_7 a0_8 l1_0 l1_1 l1_2 a1_3 l1_4 l1_5 l1_6 l1_7 a1_8)
set_option maxHeartbeats 8000000 in
set_option maxRecDepth 100000 in
theorem signalboxref1_Same.calls (k : Nat) (A0_0 : Option Addr) (c0_0 : Nat) (l0_0 : List (S44)) (A0_1 : Option Addr) (c0_1 : Nat) (l0_1 : List (S46)) (A0_2 : Option Addr) (c0_2 : Nat) (l0_2 : List (S56)) (a0_3 : Int) (A0_4 : Option Addr) (c0_4 : Nat) (l0_4 : List Int) (A0_5 : Option Addr) (c0_5 : Nat) (l0_5 : List Int) (A0_6 : Option Addr) (c0_6 : Nat) (l0_6 : List (List Int)) (A0_7 : Option Addr) (c0_7 : Nat) (l0_7 : List (S65)) (a0_8 : Int) (A1_0 : Option Addr) (c1_0 : Nat) (l1_0 : List (S44)) (A1_1 : Option Addr) (c1_1 : Nat) (l1_1 : List (S46)) (A1_2 : Option Addr) (c1_2 : Nat) (l1_2 : List (S56)) (a1_3 : Int) (A1_4 : Option Addr) (c1_4 : Nat) (l1_4 : List Int) (A1_5 : Option Addr) (c1_5 : Nat) (l1_5 : List Int) (A1_6 : Option Addr) (c1_6 : Nat) (l1_6 : List (List Int)) (A1_7 : Option Addr) (c1_7 : Nat) (l1_7 : List (S65)) (a1_8 : Int) (r : Bool) (w : World) (hr0_0 : Kd.C k44 w A0_0 l0_0.length l0_0) (hc0_0 : l0_0.length ≤ c0_0) (hr0_1 : Kd.C k46 w A0_1 l0_1.length l0_1) (hc0_1 : l0_1.length ≤ c0_1) (hr0_2 : Kd.C k56 w A0_2 l0_2.length l0_2) (hc0_2 : l0_2.length ≤ c0_2) (hr0_4 : Kd.C (Kd.int .i64) w A0_4 l0_4.length l0_4) (hc0_4 : l0_4.length ≤ c0_4) (hr0_5 : Kd.C (Kd.int .i64) w A0_5 l0_5.length l0_5) (hc0_5 : l0_5.length ≤ c0_5) (hr0_6 : Kd.C (Kd.slice 3 (Kd.int .i64)) w A0_6 l0_6.length l0_6) (hc0_6 : l0_6.length ≤ c0_6) (hr0_7 : Kd.C k65 w A0_7 l0_7.length l0_7) (hc0_7 : l0_7.length ≤ c0_7) (hr1_0 : Kd.C k44 w A1_0 l1_0.length l1_0) (hc1_0 : l1_0.length ≤ c1_0) (hr1_1 : Kd.C k46 w A1_1 l1_1.length l1_1) (hc1_1 : l1_1.length ≤ c1_1) (hr1_2 : Kd.C k56 w A1_2 l1_2.length l1_2) (hc1_2 : l1_2.length ≤ c1_2) (hr1_4 : Kd.C (Kd.int .i64) w A1_4 l1_4.length l1_4) (hc1_4 : l1_4.length ≤ c1_4) (hr1_5 : Kd.C (Kd.int .i64) w A1_5 l1_5.length l1_5) (hc1_5 : l1_5.length ≤ c1_5) (hr1_6 : Kd.C (Kd.slice 3 (Kd.int .i64)) w A1_6 l1_6.length l1_6) (hc1_6 : l1_6.length ≤ c1_6) (hr1_7 : Kd.C k65 w A1_7 l1_7.length l1_7) (hc1_7 : l1_7.length ≤ c1_7) (h : signalboxref1_Same.f k l0_0 l0_1 l0_2 a0_3 l0_4 l0_5 l0_6 l0_7 a0_8 l1_0 l1_1 l1_2 a1_3 l1_4 l1_5 l1_6 l1_7 a1_8 = some r) :
    Calls Try.prog 15 #[.agg #[.slice A0_0 l0_0.length c0_0, .slice A0_1 l0_1.length c0_1, .slice A0_2 l0_2.length c0_2, .int .i64 a0_3, .slice A0_4 l0_4.length c0_4, .slice A0_5 l0_5.length c0_5, .slice A0_6 l0_6.length c0_6, .slice A0_7 l0_7.length c0_7, .int .i64 a0_8], .agg #[.slice A1_0 l1_0.length c1_0, .slice A1_1 l1_1.length c1_1, .slice A1_2 l1_2.length c1_2, .int .i64 a1_3, .slice A1_4 l1_4.length c1_4, .slice A1_5 l1_5.length c1_5, .slice A1_6 l1_6.length c1_6, .slice A1_7 l1_7.length c1_7, .int .i64 a1_8]] w fun e w' => e = .returned (.bool r) ∧ Below w.heap.size w w' := by
  have hu29 := Try.underlying29; have hu44 := Try.underlying44; have hu46 := Try.underlying46; have hu56 := Try.underlying56; have hu65 := Try.underlying65; have HR0_0 := Aside0.mk hr0_0; have HC0_0 := Aside0.mk hc0_0; clear hr0_0 hc0_0; have HR0_1 := Aside0.mk hr0_1; have HC0_1 := Aside0.mk hc0_1; clear hr0_1 hc0_1; have HR0_2 := Aside0.mk hr0_2; have HC0_2 := Aside0.mk hc0_2; clear hr0_2 hc0_2; have HR0_4 := Aside0.mk hr0_4; have HC0_4 := Aside0.mk hc0_4; clear hr0_4 hc0_4; have HR0_5 := Aside0.mk hr0_5; have HC0_5 := Aside0.mk hc0_5; clear hr0_5 hc0_5; have HR0_6 := Aside0.mk hr0_6; have HC0_6 := Aside0.mk hc0_6; clear hr0_6 hc0_6; have HR0_7 := Aside0.mk hr0_7; have HC0_7 := Aside0.mk hc0_7; clear hr0_7 hc0_7; have HR1_0 := Aside0.mk hr1_0; have HC1_0 := Aside0.mk hc1_0; clear hr1_0 hc1_0; have HR1_1 := Aside0.mk hr1_1; have HC1_1 := Aside0.mk hc1_1; clear hr1_1 hc1_1; have HR1_2 := Aside0.mk hr1_2; have HC1_2 := Aside0.mk hc1_2; clear hr1_2 hc1_2; have HR1_4 := Aside0.mk hr1_4; have HC1_4 := Aside0.mk hc1_4; clear hr1_4 hc1_4; have HR1_5 := Aside0.mk hr1_5; have HC1_5 := Aside0.mk hc1_5; clear hr1_5 hc1_5; have HR1_6 := Aside0.mk hr1_6; have HC1_6 := Aside0.mk hc1_6; clear hr1_6 hc1_6; have HR1_7 := Aside0.mk hr1_7; have HC1_7 := Aside0.mk hc1_7; clear hr1_7 hc1_7; have HB := Aside0.mk (Below.refl w.heap.size w); have H : (if (l0_0.length : Int) = (l1_0.length : Int) then (if (l0_1.length : Int) = (l1_1.length : Int) then (if (l0_2.length : Int) = (l1_2.length : Int) then (if a0_3 = a1_3 then ((signalboxref1_Ints.f k l0_4 l1_4).bind fun t145 => (if t145 = true then ((signalboxref1_Ints.f k l0_5 l1_5).bind fun t146 => (if t146 = true then (if (l0_6.length : Int) = (l1_6.length : Int) then (if (l0_7.length : Int) = (l1_7.length : Int) then (signalboxref1_Same.j0 k (a0_8 != a1_8) l0_0 l0_1 l0_2 a0_3 l0_4 l0_5 l0_6 l0_7 a0_8 l1_0 l1_1 l1_2 a1_3 l1_4 l1_5 l1_6 l1_7 a1_8) else (signalboxref1_Same.j0 k true l0_0 l0_1 l0_2 a0_3 l0_4 l0_5 l0_6 l0_7 a0_8 l1_0 l1_1 l1_2 a1_3 l1_4 l1_5 l1_6 l1_7 a1_8)) else (signalboxref1_Same.j0 k true l0_0 l0_1 l0_2 a0_3 l0_4 l0_5 l0_6 l0_7 a0_8 l1_0 l1_1 l1_2 a1_3 l1_4 l1_5 l1_6 l1_7 a1_8)) else (signalboxref1_Same.j0 k true l0_0 l0_1 l0_2 a0_3 l0_4 l0_5 l0_6 l0_7 a0_8 l1_0 l1_1 l1_2 a1_3 l1_4 l1_5 l1_6 l1_7 a1_8))) else (signalboxref1_Same.j0 k true l0_0 l0_1 l0_2 a0_3 l0_4 l0_5 l0_6 l0_7 a0_8 l1_0 l1_1 l1_2 a1_3 l1_4 l1_5 l1_6 l1_7 a1_8))) else (signalboxref1_Same.j0 k true l0_0 l0_1 l0_2 a0_3 l0_4 l0_5 l0_6 l0_7 a0_8 l1_0 l1_1 l1_2 a1_3 l1_4 l1_5 l1_6 l1_7 a1_8)) else (signalboxref1_Same.j0 k true l0_0 l0_1 l0_2 a0_3 l0_4 l0_5 l0_6 l0_7 a0_8 l1_0 l1_1 l1_2 a1_3 l1_4 l1_5 l1_6 l1_7 a1_8)) else (signalboxref1_Same.j0 k true l0_0 l0_1 l0_2 a0_3 l0_4 l0_5 l0_6 l0_7 a0_8 l1_0 l1_1 l1_2 a1_3 l1_4 l1_5 l1_6 l1_7 a1_8)) else (signalboxref1_Same.j0 k true l0_0 l0_1 l0_2 a0_3 l0_4 l0_5 l0_6 l0_7 a0_8 l1_0 l1_1 l1_2 a1_3 l1_4 l1_5 l1_6 l1_7 a1_8)) = some r := h
  clear h; have HC3 := Aside0.mk H; clear H; go_enter Try.func15, Try.ntmps15
  (try simp only [List.append_eq, List.cons_append, List.nil_append])
  go_upto_region 1 with (first | ((with_reducible refine gate_dst (N := 2) rfl ?_); (try (refine gate_guard (by rfl) ?_; dsimp only)); refine box_event ?hg (N := 2) ?hd (cs := #[.slice A0_0 l0_0.length c0_0, .slice A0_1 l0_1.length c0_1, .slice A0_2 l0_2.length c0_2, .int .i64 a0_3, .slice A0_4 l0_4.length c0_4, .slice A0_5 l0_5.length c0_5, .slice A0_6 l0_6.length c0_6, .slice A0_7 l0_7.length c0_7, .int .i64 a0_8]) (t := 29) ?hr ?_; (case hd => rfl); (case hg => rfl); (case hr => first | (go_simp; done) | (go_simp; rfl)); intro gb143 hg w4 hbox hb; have n0_ := Aside0.mk (below_step (by repeat (first | (with_reducible first | exact HB.out | apply below_alloc | apply pw_below_drewN | apply below_drew1) | exact HB.out)) hb); have n1_ := Aside0.mk (hbox); have n2_ := Aside0.mk ((by rw [hg]; exact (below_size (by repeat (first | (with_reducible first | exact HB.out | apply below_alloc | apply pw_below_drewN | apply below_drew1) | exact HB.out))) : w.heap.size ≤ gb143)); have n3_ := Aside0.mk ((by rw [hg]; exact (below_size (by repeat (first | (with_reducible first | exact HB.out | apply below_alloc | apply pw_below_drewN | apply below_drew1) | exact HB.out))) : w.heap.size ≤ gb143)); clear HB; have HB := n0_; have BK143 := n1_; have GW143 := n2_; have GE143 := n3_; clear n0_ n1_ n2_ n3_; clear hb hbox hg) | ((with_reducible refine gate_dst (N := 3) rfl ?_); (try (refine gate_guard (by rfl) ?_; dsimp only)); refine box_event ?hg (N := 3) ?hd (cs := #[.slice A1_0 l1_0.length c1_0, .slice A1_1 l1_1.length c1_1, .slice A1_2 l1_2.length c1_2, .int .i64 a1_3, .slice A1_4 l1_4.length c1_4, .slice A1_5 l1_5.length c1_5, .slice A1_6 l1_6.length c1_6, .slice A1_7 l1_7.length c1_7, .int .i64 a1_8]) (t := 29) ?hr ?_; (case hd => rfl); (case hg => rfl); (case hr => first | (go_simp; done) | (go_simp; rfl)); intro gb144 hg w5 hbox hb; have n0_ := Aside0.mk (blk_below (g := gb143) (o := .cells #[.slice A0_0 l0_0.length c0_0, .slice A0_1 l0_1.length c0_1, .slice A0_2 l0_2.length c0_2, .int .i64 a0_3, .slice A0_4 l0_4.length c0_4, .slice A0_5 l0_5.length c0_5, .slice A0_6 l0_6.length c0_6, .slice A0_7 l0_7.length c0_7, .int .i64 a0_8] 29 (0, 0)) (by (with_reducible repeat (first | refine blk_drewN ?_ _ | refine blk_drew ?_ | refine blk_alloc ?_ _)); exact BK143.out) hb); have n1_ := Aside0.mk (below_step (by repeat (first | (with_reducible first | exact HB.out | apply below_alloc | apply pw_below_drewN | apply below_drew1 | refine below_set ?_ GE143.out) | exact HB.out)) hb); have n2_ := Aside0.mk (hbox); have n3_ := Aside0.mk ((by rw [hg]; exact (below_size (by repeat (first | (with_reducible first | exact HB.out | apply below_alloc | apply pw_below_drewN | apply below_drew1 | refine below_set ?_ GE143.out) | exact HB.out))) : w.heap.size ≤ gb144)); have n4_ := Aside0.mk ((by rw [hg]; exact (below_size (by repeat (first | (with_reducible first | exact HB.out | apply below_alloc | apply pw_below_drewN | apply below_drew1 | refine below_set ?_ GE143.out) | exact HB.out))) : w.heap.size ≤ gb144)); have n5_ := Aside0.mk ((by rw [hg]; exact Nat.ne_of_lt (blk_lt (g := gb143) (o := .cells #[.slice A0_0 l0_0.length c0_0, .slice A0_1 l0_1.length c0_1, .slice A0_2 l0_2.length c0_2, .int .i64 a0_3, .slice A0_4 l0_4.length c0_4, .slice A0_5 l0_5.length c0_5, .slice A0_6 l0_6.length c0_6, .slice A0_7 l0_7.length c0_7, .int .i64 a0_8] 29 (0, 0)) (by (with_reducible repeat (first | refine blk_drewN ?_ _ | refine blk_drew ?_ | refine blk_alloc ?_ _)); exact BK143.out)) : gb143 ≠ gb144)); have n6_ := Aside0.mk ((by rw [hg]; exact Nat.ne_of_gt (blk_lt (g := gb143) (o := .cells #[.slice A0_0 l0_0.length c0_0, .slice A0_1 l0_1.length c0_1, .slice A0_2 l0_2.length c0_2, .int .i64 a0_3, .slice A0_4 l0_4.length c0_4, .slice A0_5 l0_5.length c0_5, .slice A0_6 l0_6.length c0_6, .slice A0_7 l0_7.length c0_7, .int .i64 a0_8] 29 (0, 0)) (by (with_reducible repeat (first | refine blk_drewN ?_ _ | refine blk_drew ?_ | refine blk_alloc ?_ _)); exact BK143.out)) : gb144 ≠ gb143)); clear BK143; clear HB; have BK143 := n0_; have HB := n1_; have BK144 := n2_; have GW144 := n3_; have GE144 := n4_; have NB143_144 := n5_; have NB144_143 := n6_; clear n0_ n1_ n2_ n3_ n4_ n5_ n6_; clear hb hbox hg))
  repeat (go_quiet (first | ((with_reducible refine gate_dst (N := 2) rfl ?_); (try (refine gate_guard (by rfl) ?_; dsimp only)); refine box_event ?hg (N := 2) ?hd (cs := #[.slice A0_0 l0_0.length c0_0, .slice A0_1 l0_1.length c0_1, .slice A0_2 l0_2.length c0_2, .int .i64 a0_3, .slice A0_4 l0_4.length c0_4, .slice A0_5 l0_5.length c0_5, .slice A0_6 l0_6.length c0_6, .slice A0_7 l0_7.length c0_7, .int .i64 a0_8]) (t := 29) ?hr ?_; (case hd => rfl); (case hg => rfl); (case hr => first | (go_simp; done) | (go_simp; rfl)); intro gb143 hg w4 hbox hb; have n0_ := Aside0.mk (below_step (by repeat (first | (with_reducible first | exact HB.out | apply below_alloc | apply pw_below_drewN | apply below_drew1) | exact HB.out)) hb); have n1_ := Aside0.mk (hbox); have n2_ := Aside0.mk ((by rw [hg]; exact (below_size (by repeat (first | (with_reducible first | exact HB.out | apply below_alloc | apply pw_below_drewN | apply below_drew1) | exact HB.out))) : w.heap.size ≤ gb143)); have n3_ := Aside0.mk ((by rw [hg]; exact (below_size (by repeat (first | (with_reducible first | exact HB.out | apply below_alloc | apply pw_below_drewN | apply below_drew1) | exact HB.out))) : w.heap.size ≤ gb143)); clear HB; have HB := n0_; have BK143 := n1_; have GW143 := n2_; have GE143 := n3_; clear n0_ n1_ n2_ n3_; clear hb hbox hg) | ((with_reducible refine gate_dst (N := 3) rfl ?_); (try (refine gate_guard (by rfl) ?_; dsimp only)); refine box_event ?hg (N := 3) ?hd (cs := #[.slice A1_0 l1_0.length c1_0, .slice A1_1 l1_1.length c1_1, .slice A1_2 l1_2.length c1_2, .int .i64 a1_3, .slice A1_4 l1_4.length c1_4, .slice A1_5 l1_5.length c1_5, .slice A1_6 l1_6.length c1_6, .slice A1_7 l1_7.length c1_7, .int .i64 a1_8]) (t := 29) ?hr ?_; (case hd => rfl); (case hg => rfl); (case hr => first | (go_simp; done) | (go_simp; rfl)); intro gb144 hg w5 hbox hb; have n0_ := Aside0.mk (blk_below (g := gb143) (o := .cells #[.slice A0_0 l0_0.length c0_0, .slice A0_1 l0_1.length c0_1, .slice A0_2 l0_2.length c0_2, .int .i64 a0_3, .slice A0_4 l0_4.length c0_4, .slice A0_5 l0_5.length c0_5, .slice A0_6 l0_6.length c0_6, .slice A0_7 l0_7.length c0_7, .int .i64 a0_8] 29 (0, 0)) (by (with_reducible repeat (first | refine blk_drewN ?_ _ | refine blk_drew ?_ | refine blk_alloc ?_ _)); exact BK143.out) hb); have n1_ := Aside0.mk (below_step (by repeat (first | (with_reducible first | exact HB.out | apply below_alloc | apply pw_below_drewN | apply below_drew1 | refine below_set ?_ GE143.out) | exact HB.out)) hb); have n2_ := Aside0.mk (hbox); have n3_ := Aside0.mk ((by rw [hg]; exact (below_size (by repeat (first | (with_reducible first | exact HB.out | apply below_alloc | apply pw_below_drewN | apply below_drew1 | refine below_set ?_ GE143.out) | exact HB.out))) : w.heap.size ≤ gb144)); have n4_ := Aside0.mk ((by rw [hg]; exact (below_size (by repeat (first | (with_reducible first | exact HB.out | apply below_alloc | apply pw_below_drewN | apply below_drew1 | refine below_set ?_ GE143.out) | exact HB.out))) : w.heap.size ≤ gb144)); have n5_ := Aside0.mk ((by rw [hg]; exact Nat.ne_of_lt (blk_lt (g := gb143) (o := .cells #[.slice A0_0 l0_0.length c0_0, .slice A0_1 l0_1.length c0_1, .slice A0_2 l0_2.length c0_2, .int .i64 a0_3, .slice A0_4 l0_4.length c0_4, .slice A0_5 l0_5.length c0_5, .slice A0_6 l0_6.length c0_6, .slice A0_7 l0_7.length c0_7, .int .i64 a0_8] 29 (0, 0)) (by (with_reducible repeat (first | refine blk_drewN ?_ _ | refine blk_drew ?_ | refine blk_alloc ?_ _)); exact BK143.out)) : gb143 ≠ gb144)); have n6_ := Aside0.mk ((by rw [hg]; exact Nat.ne_of_gt (blk_lt (g := gb143) (o := .cells #[.slice A0_0 l0_0.length c0_0, .slice A0_1 l0_1.length c0_1, .slice A0_2 l0_2.length c0_2, .int .i64 a0_3, .slice A0_4 l0_4.length c0_4, .slice A0_5 l0_5.length c0_5, .slice A0_6 l0_6.length c0_6, .slice A0_7 l0_7.length c0_7, .int .i64 a0_8] 29 (0, 0)) (by (with_reducible repeat (first | refine blk_drewN ?_ _ | refine blk_drew ?_ | refine blk_alloc ?_ _)); exact BK143.out)) : gb144 ≠ gb143)); clear BK143; clear HB; have BK143 := n0_; have HB := n1_; have BK144 := n2_; have GW144 := n3_; have GE144 := n4_; have NB143_144 := n5_; have NB144_143 := n6_; clear n0_ n1_ n2_ n3_ n4_ n5_ n6_; clear hb hbox hg)); go_upto_region 1 with (first | ((with_reducible refine gate_dst (N := 2) rfl ?_); (try (refine gate_guard (by rfl) ?_; dsimp only)); refine box_event ?hg (N := 2) ?hd (cs := #[.slice A0_0 l0_0.length c0_0, .slice A0_1 l0_1.length c0_1, .slice A0_2 l0_2.length c0_2, .int .i64 a0_3, .slice A0_4 l0_4.length c0_4, .slice A0_5 l0_5.length c0_5, .slice A0_6 l0_6.length c0_6, .slice A0_7 l0_7.length c0_7, .int .i64 a0_8]) (t := 29) ?hr ?_; (case hd => rfl); (case hg => rfl); (case hr => first | (go_simp; done) | (go_simp; rfl)); intro gb143 hg w4 hbox hb; have n0_ := Aside0.mk (below_step (by repeat (first | (with_reducible first | exact HB.out | apply below_alloc | apply pw_below_drewN | apply below_drew1) | exact HB.out)) hb); have n1_ := Aside0.mk (hbox); have n2_ := Aside0.mk ((by rw [hg]; exact (below_size (by repeat (first | (with_reducible first | exact HB.out | apply below_alloc | apply pw_below_drewN | apply below_drew1) | exact HB.out))) : w.heap.size ≤ gb143)); have n3_ := Aside0.mk ((by rw [hg]; exact (below_size (by repeat (first | (with_reducible first | exact HB.out | apply below_alloc | apply pw_below_drewN | apply below_drew1) | exact HB.out))) : w.heap.size ≤ gb143)); clear HB; have HB := n0_; have BK143 := n1_; have GW143 := n2_; have GE143 := n3_; clear n0_ n1_ n2_ n3_; clear hb hbox hg) | ((with_reducible refine gate_dst (N := 3) rfl ?_); (try (refine gate_guard (by rfl) ?_; dsimp only)); refine box_event ?hg (N := 3) ?hd (cs := #[.slice A1_0 l1_0.length c1_0, .slice A1_1 l1_1.length c1_1, .slice A1_2 l1_2.length c1_2, .int .i64 a1_3, .slice A1_4 l1_4.length c1_4, .slice A1_5 l1_5.length c1_5, .slice A1_6 l1_6.length c1_6, .slice A1_7 l1_7.length c1_7, .int .i64 a1_8]) (t := 29) ?hr ?_; (case hd => rfl); (case hg => rfl); (case hr => first | (go_simp; done) | (go_simp; rfl)); intro gb144 hg w5 hbox hb; have n0_ := Aside0.mk (blk_below (g := gb143) (o := .cells #[.slice A0_0 l0_0.length c0_0, .slice A0_1 l0_1.length c0_1, .slice A0_2 l0_2.length c0_2, .int .i64 a0_3, .slice A0_4 l0_4.length c0_4, .slice A0_5 l0_5.length c0_5, .slice A0_6 l0_6.length c0_6, .slice A0_7 l0_7.length c0_7, .int .i64 a0_8] 29 (0, 0)) (by (with_reducible repeat (first | refine blk_drewN ?_ _ | refine blk_drew ?_ | refine blk_alloc ?_ _)); exact BK143.out) hb); have n1_ := Aside0.mk (below_step (by repeat (first | (with_reducible first | exact HB.out | apply below_alloc | apply pw_below_drewN | apply below_drew1 | refine below_set ?_ GE143.out) | exact HB.out)) hb); have n2_ := Aside0.mk (hbox); have n3_ := Aside0.mk ((by rw [hg]; exact (below_size (by repeat (first | (with_reducible first | exact HB.out | apply below_alloc | apply pw_below_drewN | apply below_drew1 | refine below_set ?_ GE143.out) | exact HB.out))) : w.heap.size ≤ gb144)); have n4_ := Aside0.mk ((by rw [hg]; exact (below_size (by repeat (first | (with_reducible first | exact HB.out | apply below_alloc | apply pw_below_drewN | apply below_drew1 | refine below_set ?_ GE143.out) | exact HB.out))) : w.heap.size ≤ gb144)); have n5_ := Aside0.mk ((by rw [hg]; exact Nat.ne_of_lt (blk_lt (g := gb143) (o := .cells #[.slice A0_0 l0_0.length c0_0, .slice A0_1 l0_1.length c0_1, .slice A0_2 l0_2.length c0_2, .int .i64 a0_3, .slice A0_4 l0_4.length c0_4, .slice A0_5 l0_5.length c0_5, .slice A0_6 l0_6.length c0_6, .slice A0_7 l0_7.length c0_7, .int .i64 a0_8] 29 (0, 0)) (by (with_reducible repeat (first | refine blk_drewN ?_ _ | refine blk_drew ?_ | refine blk_alloc ?_ _)); exact BK143.out)) : gb143 ≠ gb144)); have n6_ := Aside0.mk ((by rw [hg]; exact Nat.ne_of_gt (blk_lt (g := gb143) (o := .cells #[.slice A0_0 l0_0.length c0_0, .slice A0_1 l0_1.length c0_1, .slice A0_2 l0_2.length c0_2, .int .i64 a0_3, .slice A0_4 l0_4.length c0_4, .slice A0_5 l0_5.length c0_5, .slice A0_6 l0_6.length c0_6, .slice A0_7 l0_7.length c0_7, .int .i64 a0_8] 29 (0, 0)) (by (with_reducible repeat (first | refine blk_drewN ?_ _ | refine blk_drew ?_ | refine blk_alloc ?_ _)); exact BK143.out)) : gb144 ≠ gb143)); clear BK143; clear HB; have BK143 := n0_; have HB := n1_; have BK144 := n2_; have GW144 := n3_; have GE144 := n4_; have NB143_144 := n5_; have NB144_143 := n6_; clear n0_ n1_ n2_ n3_ n4_ n5_ n6_; clear hb hbox hg)))
  (try simp only [Act.put, List.setIfInBounds_toArray, List.set_cons_zero, List.set_cons_succ])
  go_cut [82] (fun v82 wc => ∃ (kq : Nat) (x82_2 : Bool), v82 = .bool x82_2 ∧ Aside0 (signalboxref1_Same.j0 kq x82_2 l0_0 l0_1 l0_2 a0_3 l0_4 l0_5 l0_6 l0_7 a0_8 l1_0 l1_1 l1_2 a1_3 l1_4 l1_5 l1_6 l1_7 a1_8 = some r) ∧ Aside0 (kq ≤ k) ∧ Aside0 (wc.heap[gb143]? = some (.cells #[(.slice A0_0 l0_0.length c0_0), (.slice A0_1 l0_1.length c0_1), (.slice A0_2 l0_2.length c0_2), .int .i64 a0_3, (.slice A0_4 l0_4.length c0_4), (.slice A0_5 l0_5.length c0_5), (.slice A0_6 l0_6.length c0_6), (.slice A0_7 l0_7.length c0_7), .int .i64 a0_8] 29 (0, 0))) ∧ Aside0 (wc.heap[gb144]? = some (.cells #[(.slice A1_0 l1_0.length c1_0), (.slice A1_1 l1_1.length c1_1), (.slice A1_2 l1_2.length c1_2), .int .i64 a1_3, (.slice A1_4 l1_4.length c1_4), (.slice A1_5 l1_5.length c1_5), (.slice A1_6 l1_6.length c1_6), (.slice A1_7 l1_7.length c1_7), .int .i64 a1_8] 29 (0, 0))) ∧ Aside0 (Below w.heap.size w wc))
  case first =>
    have H := HC3.out; clear HC3
    by_cases c6 : (l0_0.length : Int) = (l1_0.length : Int)
    · rw [if_pos c6] at H
      have c6b0 : ((l0_0.length : Int) == (l1_0.length : Int)) = true := beq_iff_eq.mpr c6; have c6b1 : ((l0_0.length : Int) != (l1_0.length : Int)) = false := bne_eq_false_iff_eq.mpr c6; have c6b2 : (l0_0.length == l1_0.length) = true := by first | simpa using c6 | (simp at c6 ⊢; omega)
      clear c6
      (first | rw [c6b0] | (simp only [i64_w, i32_w]; rw [c6b0]) | skip)
      by_cases c7 : (l0_1.length : Int) = (l1_1.length : Int)
      · rw [if_pos c7] at H
        have c7b0 : ((l0_1.length : Int) == (l1_1.length : Int)) = true := beq_iff_eq.mpr c7; have c7b1 : ((l0_1.length : Int) != (l1_1.length : Int)) = false := bne_eq_false_iff_eq.mpr c7; have c7b2 : (l0_1.length == l1_1.length) = true := by first | simpa using c7 | (simp at c7 ⊢; omega)
        clear c7
        by_cases c8 : (l0_2.length : Int) = (l1_2.length : Int)
        · rw [if_pos c8] at H
          have c8b0 : ((l0_2.length : Int) == (l1_2.length : Int)) = true := beq_iff_eq.mpr c8; have c8b1 : ((l0_2.length : Int) != (l1_2.length : Int)) = false := bne_eq_false_iff_eq.mpr c8; have c8b2 : (l0_2.length == l1_2.length) = true := by first | simpa using c8 | (simp at c8 ⊢; omega)
          clear c8
          by_cases c9 : a0_3 = a1_3
          · rw [if_pos c9] at H
            have c9b0 : (a0_3 == a1_3) = true := beq_iff_eq.mpr c9; have c9b1 : (a0_3 != a1_3) = false := bne_eq_false_iff_eq.mpr c9; clear c9; replace H := Option.bind_eq_some_iff.mp H; obtain ⟨t145, A100, H⟩ := H
            replace H : (if t145 = true then ((signalboxref1_Ints.f k l0_5 l1_5).bind fun t146 => (if t146 = true then (if (l0_6.length : Int) = (l1_6.length : Int) then (if (l0_7.length : Int) = (l1_7.length : Int) then (signalboxref1_Same.j0 k (a0_8 != a1_8) l0_0 l0_1 l0_2 a0_3 l0_4 l0_5 l0_6 l0_7 a0_8 l1_0 l1_1 l1_2 a1_3 l1_4 l1_5 l1_6 l1_7 a1_8) else (signalboxref1_Same.j0 k true l0_0 l0_1 l0_2 a0_3 l0_4 l0_5 l0_6 l0_7 a0_8 l1_0 l1_1 l1_2 a1_3 l1_4 l1_5 l1_6 l1_7 a1_8)) else (signalboxref1_Same.j0 k true l0_0 l0_1 l0_2 a0_3 l0_4 l0_5 l0_6 l0_7 a0_8 l1_0 l1_1 l1_2 a1_3 l1_4 l1_5 l1_6 l1_7 a1_8)) else (signalboxref1_Same.j0 k true l0_0 l0_1 l0_2 a0_3 l0_4 l0_5 l0_6 l0_7 a0_8 l1_0 l1_1 l1_2 a1_3 l1_4 l1_5 l1_6 l1_7 a1_8))) else (signalboxref1_Same.j0 k true l0_0 l0_1 l0_2 a0_3 l0_4 l0_5 l0_6 l0_7 a0_8 l1_0 l1_1 l1_2 a1_3 l1_4 l1_5 l1_6 l1_7 a1_8)) = some r := H
            have A10 := Aside0.mk A100; clear A100
            by_cases c11 : t145 = true
            · subst c11; have H1 : ((signalboxref1_Ints.f k l0_5 l1_5).bind fun t146 => (if t146 = true then (if (l0_6.length : Int) = (l1_6.length : Int) then (if (l0_7.length : Int) = (l1_7.length : Int) then (signalboxref1_Same.j0 k (a0_8 != a1_8) l0_0 l0_1 l0_2 a0_3 l0_4 l0_5 l0_6 l0_7 a0_8 l1_0 l1_1 l1_2 a1_3 l1_4 l1_5 l1_6 l1_7 a1_8) else (signalboxref1_Same.j0 k true l0_0 l0_1 l0_2 a0_3 l0_4 l0_5 l0_6 l0_7 a0_8 l1_0 l1_1 l1_2 a1_3 l1_4 l1_5 l1_6 l1_7 a1_8)) else (signalboxref1_Same.j0 k true l0_0 l0_1 l0_2 a0_3 l0_4 l0_5 l0_6 l0_7 a0_8 l1_0 l1_1 l1_2 a1_3 l1_4 l1_5 l1_6 l1_7 a1_8)) else (signalboxref1_Same.j0 k true l0_0 l0_1 l0_2 a0_3 l0_4 l0_5 l0_6 l0_7 a0_8 l1_0 l1_1 l1_2 a1_3 l1_4 l1_5 l1_6 l1_7 a1_8))) = some r := by rw [if_pos rfl] at H; exact H
              clear H; have H := H1; clear H1; replace H := Option.bind_eq_some_iff.mp H; obtain ⟨t146, A120, H⟩ := H
              replace H : (if t146 = true then (if (l0_6.length : Int) = (l1_6.length : Int) then (if (l0_7.length : Int) = (l1_7.length : Int) then (signalboxref1_Same.j0 k (a0_8 != a1_8) l0_0 l0_1 l0_2 a0_3 l0_4 l0_5 l0_6 l0_7 a0_8 l1_0 l1_1 l1_2 a1_3 l1_4 l1_5 l1_6 l1_7 a1_8) else (signalboxref1_Same.j0 k true l0_0 l0_1 l0_2 a0_3 l0_4 l0_5 l0_6 l0_7 a0_8 l1_0 l1_1 l1_2 a1_3 l1_4 l1_5 l1_6 l1_7 a1_8)) else (signalboxref1_Same.j0 k true l0_0 l0_1 l0_2 a0_3 l0_4 l0_5 l0_6 l0_7 a0_8 l1_0 l1_1 l1_2 a1_3 l1_4 l1_5 l1_6 l1_7 a1_8)) else (signalboxref1_Same.j0 k true l0_0 l0_1 l0_2 a0_3 l0_4 l0_5 l0_6 l0_7 a0_8 l1_0 l1_1 l1_2 a1_3 l1_4 l1_5 l1_6 l1_7 a1_8)) = some r := H
              have A12 := Aside0.mk A120; clear A120
              by_cases c13 : t146 = true
              · subst c13; have H1 : (if (l0_6.length : Int) = (l1_6.length : Int) then (if (l0_7.length : Int) = (l1_7.length : Int) then (signalboxref1_Same.j0 k (a0_8 != a1_8) l0_0 l0_1 l0_2 a0_3 l0_4 l0_5 l0_6 l0_7 a0_8 l1_0 l1_1 l1_2 a1_3 l1_4 l1_5 l1_6 l1_7 a1_8) else (signalboxref1_Same.j0 k true l0_0 l0_1 l0_2 a0_3 l0_4 l0_5 l0_6 l0_7 a0_8 l1_0 l1_1 l1_2 a1_3 l1_4 l1_5 l1_6 l1_7 a1_8)) else (signalboxref1_Same.j0 k true l0_0 l0_1 l0_2 a0_3 l0_4 l0_5 l0_6 l0_7 a0_8 l1_0 l1_1 l1_2 a1_3 l1_4 l1_5 l1_6 l1_7 a1_8)) = some r := by rw [if_pos rfl] at H; exact H
                clear H; have H := H1; clear H1
                by_cases c14 : (l0_6.length : Int) = (l1_6.length : Int)
                · rw [if_pos c14] at H
                  have c14b0 : ((l0_6.length : Int) == (l1_6.length : Int)) = true := beq_iff_eq.mpr c14; have c14b1 : ((l0_6.length : Int) != (l1_6.length : Int)) = false := bne_eq_false_iff_eq.mpr c14; have c14b2 : (l0_6.length == l1_6.length) = true := by first | simpa using c14 | (simp at c14 ⊢; omega)
                  clear c14
                  by_cases c15 : (l0_7.length : Int) = (l1_7.length : Int)
                  · rw [if_pos c15] at H
                    have c15b0 : ((l0_7.length : Int) == (l1_7.length : Int)) = true := beq_iff_eq.mpr c15; have c15b1 : ((l0_7.length : Int) != (l1_7.length : Int)) = false := bne_eq_false_iff_eq.mpr c15; have c15b2 : (l0_7.length == l1_7.length) = true := by first | simpa using c15 | (simp at c15 ⊢; omega)
                    clear c15; have H' := Aside0.mk H
                    clear H; have hnb16 := NB143_144.out; have hnc16 := NB144_143.out; have hcz17_0 : w5.cell? ⟨gb143, 0, none⟩ = some (.slice A0_0 l0_0.length c0_0) := (blk_cell BK143.out 0).trans rfl; have hcz17_1 : w5.cell? ⟨gb143, 1, none⟩ = some (.slice A0_1 l0_1.length c0_1) := (blk_cell BK143.out 1).trans rfl; have hcz17_2 : w5.cell? ⟨gb143, 2, none⟩ = some (.slice A0_2 l0_2.length c0_2) := (blk_cell BK143.out 2).trans rfl; have hcz17_3 : w5.cell? ⟨gb143, 3, none⟩ = some (.int .i64 a0_3) := (blk_cell BK143.out 3).trans rfl; have hcz17_4 : w5.cell? ⟨gb143, 4, none⟩ = some (.slice A0_4 l0_4.length c0_4) := (blk_cell BK143.out 4).trans rfl; have hcz17_5 : w5.cell? ⟨gb143, 5, none⟩ = some (.slice A0_5 l0_5.length c0_5) := (blk_cell BK143.out 5).trans rfl; have hcz17_6 : w5.cell? ⟨gb143, 6, none⟩ = some (.slice A0_6 l0_6.length c0_6) := (blk_cell BK143.out 6).trans rfl; have hcz17_7 : w5.cell? ⟨gb143, 7, none⟩ = some (.slice A0_7 l0_7.length c0_7) := (blk_cell BK143.out 7).trans rfl; have hcz17_8 : w5.cell? ⟨gb143, 8, none⟩ = some (.int .i64 a0_8) := (blk_cell BK143.out 8).trans rfl; have hfz17_0 := blk_frozen BK143.out 0; have hfz17_1 := blk_frozen BK143.out 1; have hfz17_2 := blk_frozen BK143.out 2; have hfz17_3 := blk_frozen BK143.out 3; have hfz17_4 := blk_frozen BK143.out 4; have hfz17_5 := blk_frozen BK143.out 5; have hfz17_6 := blk_frozen BK143.out 6; have hfz17_7 := blk_frozen BK143.out 7; have hfz17_8 := blk_frozen BK143.out 8; have hcz18_0 : w5.cell? ⟨gb144, 0, none⟩ = some (.slice A1_0 l1_0.length c1_0) := (blk_cell BK144.out 0).trans rfl; have hcz18_1 : w5.cell? ⟨gb144, 1, none⟩ = some (.slice A1_1 l1_1.length c1_1) := (blk_cell BK144.out 1).trans rfl; have hcz18_2 : w5.cell? ⟨gb144, 2, none⟩ = some (.slice A1_2 l1_2.length c1_2) := (blk_cell BK144.out 2).trans rfl; have hcz18_3 : w5.cell? ⟨gb144, 3, none⟩ = some (.int .i64 a1_3) := (blk_cell BK144.out 3).trans rfl; have hcz18_4 : w5.cell? ⟨gb144, 4, none⟩ = some (.slice A1_4 l1_4.length c1_4) := (blk_cell BK144.out 4).trans rfl; have hcz18_5 : w5.cell? ⟨gb144, 5, none⟩ = some (.slice A1_5 l1_5.length c1_5) := (blk_cell BK144.out 5).trans rfl; have hcz18_6 : w5.cell? ⟨gb144, 6, none⟩ = some (.slice A1_6 l1_6.length c1_6) := (blk_cell BK144.out 6).trans rfl; have hcz18_7 : w5.cell? ⟨gb144, 7, none⟩ = some (.slice A1_7 l1_7.length c1_7) := (blk_cell BK144.out 7).trans rfl; have hcz18_8 : w5.cell? ⟨gb144, 8, none⟩ = some (.int .i64 a1_8) := (blk_cell BK144.out 8).trans rfl; have hfz18_0 := blk_frozen BK144.out 0; have hfz18_1 := blk_frozen BK144.out 1; have hfz18_2 := blk_frozen BK144.out 2; have hfz18_3 := blk_frozen BK144.out 3; have hfz18_4 := blk_frozen BK144.out 4; have hfz18_5 := blk_frozen BK144.out 5; have hfz18_6 := blk_frozen BK144.out 6; have hfz18_7 := blk_frozen BK144.out 7; have hfz18_8 := blk_frozen BK144.out 8; go_wp2_with (first | (go_at_call 49; (with_reducible refine (signalboxref1_Ints.calls k _ _ l0_4 _ _ l1_4 true _ ?side1 ?side2 ?side3 ?side4 A10.out).mono ?_); (case side1 => repeat (first | exact (Kd.C_below HR0_4.out HB.out) | (with_reducible refine Kd.C_alloc ?_ _) | (with_reducible refine Kd.C_drewN ?_ _) | (with_reducible refine Kd.C_drew ?_))); (case side2 => exact HC0_4.out); (case side3 => repeat (first | exact (Kd.C_below HR1_4.out HB.out) | (with_reducible refine Kd.C_alloc ?_ _) | (with_reducible refine Kd.C_drewN ?_ _) | (with_reducible refine Kd.C_drew ?_))); (case side4 => exact HC1_4.out); rintro e w' ⟨rfl, ⟨nd, rfl⟩⟩; (try first | exact ⟨rfl, _, World.drewN_drewN _ _ _⟩ | exact ⟨rfl, _, Eq.trans (World.drewN_drewN _ _ _) (congrArg (World.drewN _) (Nat.add_assoc _ _ _))⟩)) | (go_at_call 49; (with_reducible refine (signalboxref1_Ints.calls k _ _ l0_5 _ _ l1_5 true _ ?side1 ?side2 ?side3 ?side4 A12.out).mono ?_); (case side1 => repeat (first | exact (Kd.C_below HR0_5.out (by repeat (first | (with_reducible first | exact HB.out | apply below_alloc | apply pw_below_drewN | apply below_drew1 | refine below_set ?_ GE143.out | refine below_set ?_ GE144.out) | exact HB.out))) | (with_reducible refine Kd.C_alloc ?_ _) | (with_reducible refine Kd.C_drewN ?_ _) | (with_reducible refine Kd.C_drew ?_))); (case side2 => exact HC0_5.out); (case side3 => repeat (first | exact (Kd.C_below HR1_5.out (by repeat (first | (with_reducible first | exact HB.out | apply below_alloc | apply pw_below_drewN | apply below_drew1 | refine below_set ?_ GE143.out | refine below_set ?_ GE144.out) | exact HB.out))) | (with_reducible refine Kd.C_alloc ?_ _) | (with_reducible refine Kd.C_drewN ?_ _) | (with_reducible refine Kd.C_drew ?_))); (case side4 => exact HC1_5.out); rintro e w' ⟨rfl, ⟨nd, rfl⟩⟩; (try first | exact ⟨rfl, _, World.drewN_drewN _ _ _⟩ | exact ⟨rfl, _, Eq.trans (World.drewN_drewN _ _ _) (congrArg (World.drewN _) (Nat.add_assoc _ _ _))⟩)))
                    repeat (go_quiet (first | (go_at_call 49; (with_reducible refine (signalboxref1_Ints.calls k _ _ l0_4 _ _ l1_4 true _ ?side1 ?side2 ?side3 ?side4 A10.out).mono ?_); (case side1 => repeat (first | exact (Kd.C_below HR0_4.out HB.out) | (with_reducible refine Kd.C_alloc ?_ _) | (with_reducible refine Kd.C_drewN ?_ _) | (with_reducible refine Kd.C_drew ?_))); (case side2 => exact HC0_4.out); (case side3 => repeat (first | exact (Kd.C_below HR1_4.out HB.out) | (with_reducible refine Kd.C_alloc ?_ _) | (with_reducible refine Kd.C_drewN ?_ _) | (with_reducible refine Kd.C_drew ?_))); (case side4 => exact HC1_4.out); rintro e w' ⟨rfl, ⟨nd, rfl⟩⟩; (try first | exact ⟨rfl, _, World.drewN_drewN _ _ _⟩ | exact ⟨rfl, _, Eq.trans (World.drewN_drewN _ _ _) (congrArg (World.drewN _) (Nat.add_assoc _ _ _))⟩)) | (go_at_call 49; (with_reducible refine (signalboxref1_Ints.calls k _ _ l0_5 _ _ l1_5 true _ ?side1 ?side2 ?side3 ?side4 A12.out).mono ?_); (case side1 => repeat (first | exact (Kd.C_below HR0_5.out (by repeat (first | (with_reducible first | exact HB.out | apply below_alloc | apply pw_below_drewN | apply below_drew1 | refine below_set ?_ GE143.out | refine below_set ?_ GE144.out) | exact HB.out))) | (with_reducible refine Kd.C_alloc ?_ _) | (with_reducible refine Kd.C_drewN ?_ _) | (with_reducible refine Kd.C_drew ?_))); (case side2 => exact HC0_5.out); (case side3 => repeat (first | exact (Kd.C_below HR1_5.out (by repeat (first | (with_reducible first | exact HB.out | apply below_alloc | apply pw_below_drewN | apply below_drew1 | refine below_set ?_ GE143.out | refine below_set ?_ GE144.out) | exact HB.out))) | (with_reducible refine Kd.C_alloc ?_ _) | (with_reducible refine Kd.C_drewN ?_ _) | (with_reducible refine Kd.C_drew ?_))); (case side4 => exact HC1_5.out); rintro e w' ⟨rfl, ⟨nd, rfl⟩⟩; (try first | exact ⟨rfl, _, World.drewN_drewN _ _ _⟩ | exact ⟨rfl, _, Eq.trans (World.drewN_drewN _ _ _) (congrArg (World.drewN _) (Nat.add_assoc _ _ _))⟩))); try go_wp2_with (first | (go_at_call 49; (with_reducible refine (signalboxref1_Ints.calls k _ _ l0_4 _ _ l1_4 true _ ?side1 ?side2 ?side3 ?side4 A10.out).mono ?_); (case side1 => repeat (first | exact (Kd.C_below HR0_4.out HB.out) | (with_reducible refine Kd.C_alloc ?_ _) | (with_reducible refine Kd.C_drewN ?_ _) | (with_reducible refine Kd.C_drew ?_))); (case side2 => exact HC0_4.out); (case side3 => repeat (first | exact (Kd.C_below HR1_4.out HB.out) | (with_reducible refine Kd.C_alloc ?_ _) | (with_reducible refine Kd.C_drewN ?_ _) | (with_reducible refine Kd.C_drew ?_))); (case side4 => exact HC1_4.out); rintro e w' ⟨rfl, ⟨nd, rfl⟩⟩; (try first | exact ⟨rfl, _, World.drewN_drewN _ _ _⟩ | exact ⟨rfl, _, Eq.trans (World.drewN_drewN _ _ _) (congrArg (World.drewN _) (Nat.add_assoc _ _ _))⟩)) | (go_at_call 49; (with_reducible refine (signalboxref1_Ints.calls k _ _ l0_5 _ _ l1_5 true _ ?side1 ?side2 ?side3 ?side4 A12.out).mono ?_); (case side1 => repeat (first | exact (Kd.C_below HR0_5.out (by repeat (first | (with_reducible first | exact HB.out | apply below_alloc | apply pw_below_drewN | apply below_drew1 | refine below_set ?_ GE143.out | refine below_set ?_ GE144.out) | exact HB.out))) | (with_reducible refine Kd.C_alloc ?_ _) | (with_reducible refine Kd.C_drewN ?_ _) | (with_reducible refine Kd.C_drew ?_))); (case side2 => exact HC0_5.out); (case side3 => repeat (first | exact (Kd.C_below HR1_5.out (by repeat (first | (with_reducible first | exact HB.out | apply below_alloc | apply pw_below_drewN | apply below_drew1 | refine below_set ?_ GE143.out | refine below_set ?_ GE144.out) | exact HB.out))) | (with_reducible refine Kd.C_alloc ?_ _) | (with_reducible refine Kd.C_drewN ?_ _) | (with_reducible refine Kd.C_drew ?_))); (case side4 => exact HC1_5.out); rintro e w' ⟨rfl, ⟨nd, rfl⟩⟩; (try first | exact ⟨rfl, _, World.drewN_drewN _ _ _⟩ | exact ⟨rfl, _, Eq.trans (World.drewN_drewN _ _ _) (congrArg (World.drewN _) (Nat.add_assoc _ _ _))⟩))))
                    go_meet
                    case rel => exact ⟨_, ((a0_8 != a1_8)), (by first | rfl | (simp; done) | (simp [*]; done)), H', ⟨by first | omega | exact Nat.le_refl _⟩, ⟨by (with_reducible repeat (first | refine blk_drewN ?_ _ | refine blk_drew ?_ | refine blk_alloc ?_ _)); exact BK143.out⟩, ⟨by (with_reducible repeat (first | refine blk_drewN ?_ _ | refine blk_drew ?_ | refine blk_alloc ?_ _)); exact BK144.out⟩, ⟨by repeat (first | (with_reducible first | exact HB.out | apply below_alloc | apply pw_below_drewN | apply below_drew1 | refine below_set ?_ GE143.out | refine below_set ?_ GE144.out) | exact HB.out)⟩⟩
                  · rw [if_neg c15] at H
                    have c15b0 : ((l0_7.length : Int) == (l1_7.length : Int)) = false := beq_eq_false_iff_ne.mpr c15; have c15b1 : ((l0_7.length : Int) != (l1_7.length : Int)) = true := bne_iff_ne.mpr c15; have c15b2 : (l0_7.length == l1_7.length) = false := by first | simpa using c15 | (simp at c15 ⊢; omega)
                    have H' := Aside0.mk H
                    clear H; have hnb19 := NB143_144.out; have hnc19 := NB144_143.out; have hcz20_0 : w5.cell? ⟨gb143, 0, none⟩ = some (.slice A0_0 l0_0.length c0_0) := (blk_cell BK143.out 0).trans rfl; have hcz20_1 : w5.cell? ⟨gb143, 1, none⟩ = some (.slice A0_1 l0_1.length c0_1) := (blk_cell BK143.out 1).trans rfl; have hcz20_2 : w5.cell? ⟨gb143, 2, none⟩ = some (.slice A0_2 l0_2.length c0_2) := (blk_cell BK143.out 2).trans rfl; have hcz20_3 : w5.cell? ⟨gb143, 3, none⟩ = some (.int .i64 a0_3) := (blk_cell BK143.out 3).trans rfl; have hcz20_4 : w5.cell? ⟨gb143, 4, none⟩ = some (.slice A0_4 l0_4.length c0_4) := (blk_cell BK143.out 4).trans rfl; have hcz20_5 : w5.cell? ⟨gb143, 5, none⟩ = some (.slice A0_5 l0_5.length c0_5) := (blk_cell BK143.out 5).trans rfl; have hcz20_6 : w5.cell? ⟨gb143, 6, none⟩ = some (.slice A0_6 l0_6.length c0_6) := (blk_cell BK143.out 6).trans rfl; have hcz20_7 : w5.cell? ⟨gb143, 7, none⟩ = some (.slice A0_7 l0_7.length c0_7) := (blk_cell BK143.out 7).trans rfl; have hcz20_8 : w5.cell? ⟨gb143, 8, none⟩ = some (.int .i64 a0_8) := (blk_cell BK143.out 8).trans rfl; have hfz20_0 := blk_frozen BK143.out 0; have hfz20_1 := blk_frozen BK143.out 1; have hfz20_2 := blk_frozen BK143.out 2; have hfz20_3 := blk_frozen BK143.out 3; have hfz20_4 := blk_frozen BK143.out 4; have hfz20_5 := blk_frozen BK143.out 5; have hfz20_6 := blk_frozen BK143.out 6; have hfz20_7 := blk_frozen BK143.out 7; have hfz20_8 := blk_frozen BK143.out 8; have hcz21_0 : w5.cell? ⟨gb144, 0, none⟩ = some (.slice A1_0 l1_0.length c1_0) := (blk_cell BK144.out 0).trans rfl; have hcz21_1 : w5.cell? ⟨gb144, 1, none⟩ = some (.slice A1_1 l1_1.length c1_1) := (blk_cell BK144.out 1).trans rfl; have hcz21_2 : w5.cell? ⟨gb144, 2, none⟩ = some (.slice A1_2 l1_2.length c1_2) := (blk_cell BK144.out 2).trans rfl; have hcz21_3 : w5.cell? ⟨gb144, 3, none⟩ = some (.int .i64 a1_3) := (blk_cell BK144.out 3).trans rfl; have hcz21_4 : w5.cell? ⟨gb144, 4, none⟩ = some (.slice A1_4 l1_4.length c1_4) := (blk_cell BK144.out 4).trans rfl; have hcz21_5 : w5.cell? ⟨gb144, 5, none⟩ = some (.slice A1_5 l1_5.length c1_5) := (blk_cell BK144.out 5).trans rfl; have hcz21_6 : w5.cell? ⟨gb144, 6, none⟩ = some (.slice A1_6 l1_6.length c1_6) := (blk_cell BK144.out 6).trans rfl; have hcz21_7 : w5.cell? ⟨gb144, 7, none⟩ = some (.slice A1_7 l1_7.length c1_7) := (blk_cell BK144.out 7).trans rfl; have hcz21_8 : w5.cell? ⟨gb144, 8, none⟩ = some (.int .i64 a1_8) := (blk_cell BK144.out 8).trans rfl; have hfz21_0 := blk_frozen BK144.out 0; have hfz21_1 := blk_frozen BK144.out 1; have hfz21_2 := blk_frozen BK144.out 2; have hfz21_3 := blk_frozen BK144.out 3; have hfz21_4 := blk_frozen BK144.out 4; have hfz21_5 := blk_frozen BK144.out 5; have hfz21_6 := blk_frozen BK144.out 6; have hfz21_7 := blk_frozen BK144.out 7; have hfz21_8 := blk_frozen BK144.out 8; go_wp2_with (first | (go_at_call 49; (with_reducible refine (signalboxref1_Ints.calls k _ _ l0_4 _ _ l1_4 true _ ?side1 ?side2 ?side3 ?side4 A10.out).mono ?_); (case side1 => repeat (first | exact (Kd.C_below HR0_4.out HB.out) | (with_reducible refine Kd.C_alloc ?_ _) | (with_reducible refine Kd.C_drewN ?_ _) | (with_reducible refine Kd.C_drew ?_))); (case side2 => exact HC0_4.out); (case side3 => repeat (first | exact (Kd.C_below HR1_4.out HB.out) | (with_reducible refine Kd.C_alloc ?_ _) | (with_reducible refine Kd.C_drewN ?_ _) | (with_reducible refine Kd.C_drew ?_))); (case side4 => exact HC1_4.out); rintro e w' ⟨rfl, ⟨nd, rfl⟩⟩; (try first | exact ⟨rfl, _, World.drewN_drewN _ _ _⟩ | exact ⟨rfl, _, Eq.trans (World.drewN_drewN _ _ _) (congrArg (World.drewN _) (Nat.add_assoc _ _ _))⟩)) | (go_at_call 49; (with_reducible refine (signalboxref1_Ints.calls k _ _ l0_5 _ _ l1_5 true _ ?side1 ?side2 ?side3 ?side4 A12.out).mono ?_); (case side1 => repeat (first | exact (Kd.C_below HR0_5.out (by repeat (first | (with_reducible first | exact HB.out | apply below_alloc | apply pw_below_drewN | apply below_drew1 | refine below_set ?_ GE143.out | refine below_set ?_ GE144.out) | exact HB.out))) | (with_reducible refine Kd.C_alloc ?_ _) | (with_reducible refine Kd.C_drewN ?_ _) | (with_reducible refine Kd.C_drew ?_))); (case side2 => exact HC0_5.out); (case side3 => repeat (first | exact (Kd.C_below HR1_5.out (by repeat (first | (with_reducible first | exact HB.out | apply below_alloc | apply pw_below_drewN | apply below_drew1 | refine below_set ?_ GE143.out | refine below_set ?_ GE144.out) | exact HB.out))) | (with_reducible refine Kd.C_alloc ?_ _) | (with_reducible refine Kd.C_drewN ?_ _) | (with_reducible refine Kd.C_drew ?_))); (case side4 => exact HC1_5.out); rintro e w' ⟨rfl, ⟨nd, rfl⟩⟩; (try first | exact ⟨rfl, _, World.drewN_drewN _ _ _⟩ | exact ⟨rfl, _, Eq.trans (World.drewN_drewN _ _ _) (congrArg (World.drewN _) (Nat.add_assoc _ _ _))⟩)))
                    repeat (go_quiet (first | (go_at_call 49; (with_reducible refine (signalboxref1_Ints.calls k _ _ l0_4 _ _ l1_4 true _ ?side1 ?side2 ?side3 ?side4 A10.out).mono ?_); (case side1 => repeat (first | exact (Kd.C_below HR0_4.out HB.out) | (with_reducible refine Kd.C_alloc ?_ _) | (with_reducible refine Kd.C_drewN ?_ _) | (with_reducible refine Kd.C_drew ?_))); (case side2 => exact HC0_4.out); (case side3 => repeat (first | exact (Kd.C_below HR1_4.out HB.out) | (with_reducible refine Kd.C_alloc ?_ _) | (with_reducible refine Kd.C_drewN ?_ _) | (with_reducible refine Kd.C_drew ?_))); (case side4 => exact HC1_4.out); rintro e w' ⟨rfl, ⟨nd, rfl⟩⟩; (try first | exact ⟨rfl, _, World.drewN_drewN _ _ _⟩ | exact ⟨rfl, _, Eq.trans (World.drewN_drewN _ _ _) (congrArg (World.drewN _) (Nat.add_assoc _ _ _))⟩)) | (go_at_call 49; (with_reducible refine (signalboxref1_Ints.calls k _ _ l0_5 _ _ l1_5 true _ ?side1 ?side2 ?side3 ?side4 A12.out).mono ?_); (case side1 => repeat (first | exact (Kd.C_below HR0_5.out (by repeat (first | (with_reducible first | exact HB.out | apply below_alloc | apply pw_below_drewN | apply below_drew1 | refine below_set ?_ GE143.out | refine below_set ?_ GE144.out) | exact HB.out))) | (with_reducible refine Kd.C_alloc ?_ _) | (with_reducible refine Kd.C_drewN ?_ _) | (with_reducible refine Kd.C_drew ?_))); (case side2 => exact HC0_5.out); (case side3 => repeat (first | exact (Kd.C_below HR1_5.out (by repeat (first | (with_reducible first | exact HB.out | apply below_alloc | apply pw_below_drewN | apply below_drew1 | refine below_set ?_ GE143.out | refine below_set ?_ GE144.out) | exact HB.out))) | (with_reducible refine Kd.C_alloc ?_ _) | (with_reducible refine Kd.C_drewN ?_ _) | (with_reducible refine Kd.C_drew ?_))); (case side4 => exact HC1_5.out); rintro e w' ⟨rfl, ⟨nd, rfl⟩⟩; (try first | exact ⟨rfl, _, World.drewN_drewN _ _ _⟩ | exact ⟨rfl, _, Eq.trans (World.drewN_drewN _ _ _) (congrArg (World.drewN _) (Nat.add_assoc _ _ _))⟩))); try go_wp2_with (first | (go_at_call 49; (with_reducible refine (signalboxref1_Ints.calls k _ _ l0_4 _ _ l1_4 true _ ?side1 ?side2 ?side3 ?side4 A10.out).mono ?_); (case side1 => repeat (first | exact (Kd.C_below HR0_4.out HB.out) | (with_reducible refine Kd.C_alloc ?_ _) | (with_reducible refine Kd.C_drewN ?_ _) | (with_reducible refine Kd.C_drew ?_))); (case side2 => exact HC0_4.out); (case side3 => repeat (first | exact (Kd.C_below HR1_4.out HB.out) | (with_reducible refine Kd.C_alloc ?_ _) | (with_reducible refine Kd.C_drewN ?_ _) | (with_reducible refine Kd.C_drew ?_))); (case side4 => exact HC1_4.out); rintro e w' ⟨rfl, ⟨nd, rfl⟩⟩; (try first | exact ⟨rfl, _, World.drewN_drewN _ _ _⟩ | exact ⟨rfl, _, Eq.trans (World.drewN_drewN _ _ _) (congrArg (World.drewN _) (Nat.add_assoc _ _ _))⟩)) | (go_at_call 49; (with_reducible refine (signalboxref1_Ints.calls k _ _ l0_5 _ _ l1_5 true _ ?side1 ?side2 ?side3 ?side4 A12.out).mono ?_); (case side1 => repeat (first | exact (Kd.C_below HR0_5.out (by repeat (first | (with_reducible first | exact HB.out | apply below_alloc | apply pw_below_drewN | apply below_drew1 | refine below_set ?_ GE143.out | refine below_set ?_ GE144.out) | exact HB.out))) | (with_reducible refine Kd.C_alloc ?_ _) | (with_reducible refine Kd.C_drewN ?_ _) | (with_reducible refine Kd.C_drew ?_))); (case side2 => exact HC0_5.out); (case side3 => repeat (first | exact (Kd.C_below HR1_5.out (by repeat (first | (with_reducible first | exact HB.out | apply below_alloc | apply pw_below_drewN | apply below_drew1 | refine below_set ?_ GE143.out | refine below_set ?_ GE144.out) | exact HB.out))) | (with_reducible refine Kd.C_alloc ?_ _) | (with_reducible refine Kd.C_drewN ?_ _) | (with_reducible refine Kd.C_drew ?_))); (case side4 => exact HC1_5.out); rintro e w' ⟨rfl, ⟨nd, rfl⟩⟩; (try first | exact ⟨rfl, _, World.drewN_drewN _ _ _⟩ | exact ⟨rfl, _, Eq.trans (World.drewN_drewN _ _ _) (congrArg (World.drewN _) (Nat.add_assoc _ _ _))⟩))))
                    go_meet
                    case rel => exact ⟨_, (true), (by first | rfl | (simp; done) | (simp [*]; done)), H', ⟨by first | omega | exact Nat.le_refl _⟩, ⟨by (with_reducible repeat (first | refine blk_drewN ?_ _ | refine blk_drew ?_ | refine blk_alloc ?_ _)); exact BK143.out⟩, ⟨by (with_reducible repeat (first | refine blk_drewN ?_ _ | refine blk_drew ?_ | refine blk_alloc ?_ _)); exact BK144.out⟩, ⟨by repeat (first | (with_reducible first | exact HB.out | apply below_alloc | apply pw_below_drewN | apply below_drew1 | refine below_set ?_ GE143.out | refine below_set ?_ GE144.out) | exact HB.out)⟩⟩
                · rw [if_neg c14] at H
                  have c14b0 : ((l0_6.length : Int) == (l1_6.length : Int)) = false := beq_eq_false_iff_ne.mpr c14; have c14b1 : ((l0_6.length : Int) != (l1_6.length : Int)) = true := bne_iff_ne.mpr c14; have c14b2 : (l0_6.length == l1_6.length) = false := by first | simpa using c14 | (simp at c14 ⊢; omega)
                  have H' := Aside0.mk H
                  clear H; have hnb22 := NB143_144.out; have hnc22 := NB144_143.out; have hcz23_0 : w5.cell? ⟨gb143, 0, none⟩ = some (.slice A0_0 l0_0.length c0_0) := (blk_cell BK143.out 0).trans rfl; have hcz23_1 : w5.cell? ⟨gb143, 1, none⟩ = some (.slice A0_1 l0_1.length c0_1) := (blk_cell BK143.out 1).trans rfl; have hcz23_2 : w5.cell? ⟨gb143, 2, none⟩ = some (.slice A0_2 l0_2.length c0_2) := (blk_cell BK143.out 2).trans rfl; have hcz23_3 : w5.cell? ⟨gb143, 3, none⟩ = some (.int .i64 a0_3) := (blk_cell BK143.out 3).trans rfl; have hcz23_4 : w5.cell? ⟨gb143, 4, none⟩ = some (.slice A0_4 l0_4.length c0_4) := (blk_cell BK143.out 4).trans rfl; have hcz23_5 : w5.cell? ⟨gb143, 5, none⟩ = some (.slice A0_5 l0_5.length c0_5) := (blk_cell BK143.out 5).trans rfl; have hcz23_6 : w5.cell? ⟨gb143, 6, none⟩ = some (.slice A0_6 l0_6.length c0_6) := (blk_cell BK143.out 6).trans rfl; have hcz23_7 : w5.cell? ⟨gb143, 7, none⟩ = some (.slice A0_7 l0_7.length c0_7) := (blk_cell BK143.out 7).trans rfl; have hcz23_8 : w5.cell? ⟨gb143, 8, none⟩ = some (.int .i64 a0_8) := (blk_cell BK143.out 8).trans rfl; have hfz23_0 := blk_frozen BK143.out 0; have hfz23_1 := blk_frozen BK143.out 1; have hfz23_2 := blk_frozen BK143.out 2; have hfz23_3 := blk_frozen BK143.out 3; have hfz23_4 := blk_frozen BK143.out 4; have hfz23_5 := blk_frozen BK143.out 5; have hfz23_6 := blk_frozen BK143.out 6; have hfz23_7 := blk_frozen BK143.out 7; have hfz23_8 := blk_frozen BK143.out 8; have hcz24_0 : w5.cell? ⟨gb144, 0, none⟩ = some (.slice A1_0 l1_0.length c1_0) := (blk_cell BK144.out 0).trans rfl; have hcz24_1 : w5.cell? ⟨gb144, 1, none⟩ = some (.slice A1_1 l1_1.length c1_1) := (blk_cell BK144.out 1).trans rfl; have hcz24_2 : w5.cell? ⟨gb144, 2, none⟩ = some (.slice A1_2 l1_2.length c1_2) := (blk_cell BK144.out 2).trans rfl; have hcz24_3 : w5.cell? ⟨gb144, 3, none⟩ = some (.int .i64 a1_3) := (blk_cell BK144.out 3).trans rfl; have hcz24_4 : w5.cell? ⟨gb144, 4, none⟩ = some (.slice A1_4 l1_4.length c1_4) := (blk_cell BK144.out 4).trans rfl; have hcz24_5 : w5.cell? ⟨gb144, 5, none⟩ = some (.slice A1_5 l1_5.length c1_5) := (blk_cell BK144.out 5).trans rfl; have hcz24_6 : w5.cell? ⟨gb144, 6, none⟩ = some (.slice A1_6 l1_6.length c1_6) := (blk_cell BK144.out 6).trans rfl; have hcz24_7 : w5.cell? ⟨gb144, 7, none⟩ = some (.slice A1_7 l1_7.length c1_7) := (blk_cell BK144.out 7).trans rfl; have hcz24_8 : w5.cell? ⟨gb144, 8, none⟩ = some (.int .i64 a1_8) := (blk_cell BK144.out 8).trans rfl; have hfz24_0 := blk_frozen BK144.out 0; have hfz24_1 := blk_frozen BK144.out 1; have hfz24_2 := blk_frozen BK144.out 2; have hfz24_3 := blk_frozen BK144.out 3; have hfz24_4 := blk_frozen BK144.out 4; have hfz24_5 := blk_frozen BK144.out 5; have hfz24_6 := blk_frozen BK144.out 6; have hfz24_7 := blk_frozen BK144.out 7; have hfz24_8 := blk_frozen BK144.out 8; go_wp2_with (first | (go_at_call 49; (with_reducible refine (signalboxref1_Ints.calls k _ _ l0_4 _ _ l1_4 true _ ?side1 ?side2 ?side3 ?side4 A10.out).mono ?_); (case side1 => repeat (first | exact (Kd.C_below HR0_4.out HB.out) | (with_reducible refine Kd.C_alloc ?_ _) | (with_reducible refine Kd.C_drewN ?_ _) | (with_reducible refine Kd.C_drew ?_))); (case side2 => exact HC0_4.out); (case side3 => repeat (first | exact (Kd.C_below HR1_4.out HB.out) | (with_reducible refine Kd.C_alloc ?_ _) | (with_reducible refine Kd.C_drewN ?_ _) | (with_reducible refine Kd.C_drew ?_))); (case side4 => exact HC1_4.out); rintro e w' ⟨rfl, ⟨nd, rfl⟩⟩; (try first | exact ⟨rfl, _, World.drewN_drewN _ _ _⟩ | exact ⟨rfl, _, Eq.trans (World.drewN_drewN _ _ _) (congrArg (World.drewN _) (Nat.add_assoc _ _ _))⟩)) | (go_at_call 49; (with_reducible refine (signalboxref1_Ints.calls k _ _ l0_5 _ _ l1_5 true _ ?side1 ?side2 ?side3 ?side4 A12.out).mono ?_); (case side1 => repeat (first | exact (Kd.C_below HR0_5.out (by repeat (first | (with_reducible first | exact HB.out | apply below_alloc | apply pw_below_drewN | apply below_drew1 | refine below_set ?_ GE143.out | refine below_set ?_ GE144.out) | exact HB.out))) | (with_reducible refine Kd.C_alloc ?_ _) | (with_reducible refine Kd.C_drewN ?_ _) | (with_reducible refine Kd.C_drew ?_))); (case side2 => exact HC0_5.out); (case side3 => repeat (first | exact (Kd.C_below HR1_5.out (by repeat (first | (with_reducible first | exact HB.out | apply below_alloc | apply pw_below_drewN | apply below_drew1 | refine below_set ?_ GE143.out | refine below_set ?_ GE144.out) | exact HB.out))) | (with_reducible refine Kd.C_alloc ?_ _) | (with_reducible refine Kd.C_drewN ?_ _) | (with_reducible refine Kd.C_drew ?_))); (case side4 => exact HC1_5.out); rintro e w' ⟨rfl, ⟨nd, rfl⟩⟩; (try first | exact ⟨rfl, _, World.drewN_drewN _ _ _⟩ | exact ⟨rfl, _, Eq.trans (World.drewN_drewN _ _ _) (congrArg (World.drewN _) (Nat.add_assoc _ _ _))⟩)))
                  repeat (go_quiet (first | (go_at_call 49; (with_reducible refine (signalboxref1_Ints.calls k _ _ l0_4 _ _ l1_4 true _ ?side1 ?side2 ?side3 ?side4 A10.out).mono ?_); (case side1 => repeat (first | exact (Kd.C_below HR0_4.out HB.out) | (with_reducible refine Kd.C_alloc ?_ _) | (with_reducible refine Kd.C_drewN ?_ _) | (with_reducible refine Kd.C_drew ?_))); (case side2 => exact HC0_4.out); (case side3 => repeat (first | exact (Kd.C_below HR1_4.out HB.out) | (with_reducible refine Kd.C_alloc ?_ _) | (with_reducible refine Kd.C_drewN ?_ _) | (with_reducible refine Kd.C_drew ?_))); (case side4 => exact HC1_4.out); rintro e w' ⟨rfl, ⟨nd, rfl⟩⟩; (try first | exact ⟨rfl, _, World.drewN_drewN _ _ _⟩ | exact ⟨rfl, _, Eq.trans (World.drewN_drewN _ _ _) (congrArg (World.drewN _) (Nat.add_assoc _ _ _))⟩)) | (go_at_call 49; (with_reducible refine (signalboxref1_Ints.calls k _ _ l0_5 _ _ l1_5 true _ ?side1 ?side2 ?side3 ?side4 A12.out).mono ?_); (case side1 => repeat (first | exact (Kd.C_below HR0_5.out (by repeat (first | (with_reducible first | exact HB.out | apply below_alloc | apply pw_below_drewN | apply below_drew1 | refine below_set ?_ GE143.out | refine below_set ?_ GE144.out) | exact HB.out))) | (with_reducible refine Kd.C_alloc ?_ _) | (with_reducible refine Kd.C_drewN ?_ _) | (with_reducible refine Kd.C_drew ?_))); (case side2 => exact HC0_5.out); (case side3 => repeat (first | exact (Kd.C_below HR1_5.out (by repeat (first | (with_reducible first | exact HB.out | apply below_alloc | apply pw_below_drewN | apply below_drew1 | refine below_set ?_ GE143.out | refine below_set ?_ GE144.out) | exact HB.out))) | (with_reducible refine Kd.C_alloc ?_ _) | (with_reducible refine Kd.C_drewN ?_ _) | (with_reducible refine Kd.C_drew ?_))); (case side4 => exact HC1_5.out); rintro e w' ⟨rfl, ⟨nd, rfl⟩⟩; (try first | exact ⟨rfl, _, World.drewN_drewN _ _ _⟩ | exact ⟨rfl, _, Eq.trans (World.drewN_drewN _ _ _) (congrArg (World.drewN _) (Nat.add_assoc _ _ _))⟩))); try go_wp2_with (first | (go_at_call 49; (with_reducible refine (signalboxref1_Ints.calls k _ _ l0_4 _ _ l1_4 true _ ?side1 ?side2 ?side3 ?side4 A10.out).mono ?_); (case side1 => repeat (first | exact (Kd.C_below HR0_4.out HB.out) | (with_reducible refine Kd.C_alloc ?_ _) | (with_reducible refine Kd.C_drewN ?_ _) | (with_reducible refine Kd.C_drew ?_))); (case side2 => exact HC0_4.out); (case side3 => repeat (first | exact (Kd.C_below HR1_4.out HB.out) | (with_reducible refine Kd.C_alloc ?_ _) | (with_reducible refine Kd.C_drewN ?_ _) | (with_reducible refine Kd.C_drew ?_))); (case side4 => exact HC1_4.out); rintro e w' ⟨rfl, ⟨nd, rfl⟩⟩; (try first | exact ⟨rfl, _, World.drewN_drewN _ _ _⟩ | exact ⟨rfl, _, Eq.trans (World.drewN_drewN _ _ _) (congrArg (World.drewN _) (Nat.add_assoc _ _ _))⟩)) | (go_at_call 49; (with_reducible refine (signalboxref1_Ints.calls k _ _ l0_5 _ _ l1_5 true _ ?side1 ?side2 ?side3 ?side4 A12.out).mono ?_); (case side1 => repeat (first | exact (Kd.C_below HR0_5.out (by repeat (first | (with_reducible first | exact HB.out | apply below_alloc | apply pw_below_drewN | apply below_drew1 | refine below_set ?_ GE143.out | refine below_set ?_ GE144.out) | exact HB.out))) | (with_reducible refine Kd.C_alloc ?_ _) | (with_reducible refine Kd.C_drewN ?_ _) | (with_reducible refine Kd.C_drew ?_))); (case side2 => exact HC0_5.out); (case side3 => repeat (first | exact (Kd.C_below HR1_5.out (by repeat (first | (with_reducible first | exact HB.out | apply below_alloc | apply pw_below_drewN | apply below_drew1 | refine below_set ?_ GE143.out | refine below_set ?_ GE144.out) | exact HB.out))) | (with_reducible refine Kd.C_alloc ?_ _) | (with_reducible refine Kd.C_drewN ?_ _) | (with_reducible refine Kd.C_drew ?_))); (case side4 => exact HC1_5.out); rintro e w' ⟨rfl, ⟨nd, rfl⟩⟩; (try first | exact ⟨rfl, _, World.drewN_drewN _ _ _⟩ | exact ⟨rfl, _, Eq.trans (World.drewN_drewN _ _ _) (congrArg (World.drewN _) (Nat.add_assoc _ _ _))⟩))))
                  go_meet
                  case rel => exact ⟨_, (true), (by first | rfl | (simp; done) | (simp [*]; done)), H', ⟨by first | omega | exact Nat.le_refl _⟩, ⟨by (with_reducible repeat (first | refine blk_drewN ?_ _ | refine blk_drew ?_ | refine blk_alloc ?_ _)); exact BK143.out⟩, ⟨by (with_reducible repeat (first | refine blk_drewN ?_ _ | refine blk_drew ?_ | refine blk_alloc ?_ _)); exact BK144.out⟩, ⟨by repeat (first | (with_reducible first | exact HB.out | apply below_alloc | apply pw_below_drewN | apply below_drew1 | refine below_set ?_ GE143.out | refine below_set ?_ GE144.out) | exact HB.out)⟩⟩
              · replace c13 := Bool.eq_false_iff.mpr c13; subst c13; have H1 : (signalboxref1_Same.j0 k true l0_0 l0_1 l0_2 a0_3 l0_4 l0_5 l0_6 l0_7 a0_8 l1_0 l1_1 l1_2 a1_3 l1_4 l1_5 l1_6 l1_7 a1_8) = some r := by rw [if_neg (show ¬ (false = true) by decide)] at H; exact H
                clear H; have H := H1; clear H1; have H' := Aside0.mk H
                clear H; have hnb25 := NB143_144.out; have hnc25 := NB144_143.out; have hcz26_0 : w5.cell? ⟨gb143, 0, none⟩ = some (.slice A0_0 l0_0.length c0_0) := (blk_cell BK143.out 0).trans rfl; have hcz26_1 : w5.cell? ⟨gb143, 1, none⟩ = some (.slice A0_1 l0_1.length c0_1) := (blk_cell BK143.out 1).trans rfl; have hcz26_2 : w5.cell? ⟨gb143, 2, none⟩ = some (.slice A0_2 l0_2.length c0_2) := (blk_cell BK143.out 2).trans rfl; have hcz26_3 : w5.cell? ⟨gb143, 3, none⟩ = some (.int .i64 a0_3) := (blk_cell BK143.out 3).trans rfl; have hcz26_4 : w5.cell? ⟨gb143, 4, none⟩ = some (.slice A0_4 l0_4.length c0_4) := (blk_cell BK143.out 4).trans rfl; have hcz26_5 : w5.cell? ⟨gb143, 5, none⟩ = some (.slice A0_5 l0_5.length c0_5) := (blk_cell BK143.out 5).trans rfl; have hcz26_6 : w5.cell? ⟨gb143, 6, none⟩ = some (.slice A0_6 l0_6.length c0_6) := (blk_cell BK143.out 6).trans rfl; have hcz26_7 : w5.cell? ⟨gb143, 7, none⟩ = some (.slice A0_7 l0_7.length c0_7) := (blk_cell BK143.out 7).trans rfl; have hcz26_8 : w5.cell? ⟨gb143, 8, none⟩ = some (.int .i64 a0_8) := (blk_cell BK143.out 8).trans rfl; have hfz26_0 := blk_frozen BK143.out 0; have hfz26_1 := blk_frozen BK143.out 1; have hfz26_2 := blk_frozen BK143.out 2; have hfz26_3 := blk_frozen BK143.out 3; have hfz26_4 := blk_frozen BK143.out 4; have hfz26_5 := blk_frozen BK143.out 5; have hfz26_6 := blk_frozen BK143.out 6; have hfz26_7 := blk_frozen BK143.out 7; have hfz26_8 := blk_frozen BK143.out 8; have hcz27_0 : w5.cell? ⟨gb144, 0, none⟩ = some (.slice A1_0 l1_0.length c1_0) := (blk_cell BK144.out 0).trans rfl; have hcz27_1 : w5.cell? ⟨gb144, 1, none⟩ = some (.slice A1_1 l1_1.length c1_1) := (blk_cell BK144.out 1).trans rfl; have hcz27_2 : w5.cell? ⟨gb144, 2, none⟩ = some (.slice A1_2 l1_2.length c1_2) := (blk_cell BK144.out 2).trans rfl; have hcz27_3 : w5.cell? ⟨gb144, 3, none⟩ = some (.int .i64 a1_3) := (blk_cell BK144.out 3).trans rfl; have hcz27_4 : w5.cell? ⟨gb144, 4, none⟩ = some (.slice A1_4 l1_4.length c1_4) := (blk_cell BK144.out 4).trans rfl; have hcz27_5 : w5.cell? ⟨gb144, 5, none⟩ = some (.slice A1_5 l1_5.length c1_5) := (blk_cell BK144.out 5).trans rfl; have hcz27_6 : w5.cell? ⟨gb144, 6, none⟩ = some (.slice A1_6 l1_6.length c1_6) := (blk_cell BK144.out 6).trans rfl; have hcz27_7 : w5.cell? ⟨gb144, 7, none⟩ = some (.slice A1_7 l1_7.length c1_7) := (blk_cell BK144.out 7).trans rfl; have hcz27_8 : w5.cell? ⟨gb144, 8, none⟩ = some (.int .i64 a1_8) := (blk_cell BK144.out 8).trans rfl; have hfz27_0 := blk_frozen BK144.out 0; have hfz27_1 := blk_frozen BK144.out 1; have hfz27_2 := blk_frozen BK144.out 2; have hfz27_3 := blk_frozen BK144.out 3; have hfz27_4 := blk_frozen BK144.out 4; have hfz27_5 := blk_frozen BK144.out 5; have hfz27_6 := blk_frozen BK144.out 6; have hfz27_7 := blk_frozen BK144.out 7; have hfz27_8 := blk_frozen BK144.out 8; go_wp2_with (first | (go_at_call 49; (with_reducible refine (signalboxref1_Ints.calls k _ _ l0_4 _ _ l1_4 true _ ?side1 ?side2 ?side3 ?side4 A10.out).mono ?_); (case side1 => repeat (first | exact (Kd.C_below HR0_4.out HB.out) | (with_reducible refine Kd.C_alloc ?_ _) | (with_reducible refine Kd.C_drewN ?_ _) | (with_reducible refine Kd.C_drew ?_))); (case side2 => exact HC0_4.out); (case side3 => repeat (first | exact (Kd.C_below HR1_4.out HB.out) | (with_reducible refine Kd.C_alloc ?_ _) | (with_reducible refine Kd.C_drewN ?_ _) | (with_reducible refine Kd.C_drew ?_))); (case side4 => exact HC1_4.out); rintro e w' ⟨rfl, ⟨nd, rfl⟩⟩; (try first | exact ⟨rfl, _, World.drewN_drewN _ _ _⟩ | exact ⟨rfl, _, Eq.trans (World.drewN_drewN _ _ _) (congrArg (World.drewN _) (Nat.add_assoc _ _ _))⟩)) | (go_at_call 49; (with_reducible refine (signalboxref1_Ints.calls k _ _ l0_5 _ _ l1_5 false _ ?side1 ?side2 ?side3 ?side4 A12.out).mono ?_); (case side1 => repeat (first | exact (Kd.C_below HR0_5.out (by repeat (first | (with_reducible first | exact HB.out | apply below_alloc | apply pw_below_drewN | apply below_drew1 | refine below_set ?_ GE143.out | refine below_set ?_ GE144.out) | exact HB.out))) | (with_reducible refine Kd.C_alloc ?_ _) | (with_reducible refine Kd.C_drewN ?_ _) | (with_reducible refine Kd.C_drew ?_))); (case side2 => exact HC0_5.out); (case side3 => repeat (first | exact (Kd.C_below HR1_5.out (by repeat (first | (with_reducible first | exact HB.out | apply below_alloc | apply pw_below_drewN | apply below_drew1 | refine below_set ?_ GE143.out | refine below_set ?_ GE144.out) | exact HB.out))) | (with_reducible refine Kd.C_alloc ?_ _) | (with_reducible refine Kd.C_drewN ?_ _) | (with_reducible refine Kd.C_drew ?_))); (case side4 => exact HC1_5.out); rintro e w' ⟨rfl, ⟨nd, rfl⟩⟩; (try first | exact ⟨rfl, _, World.drewN_drewN _ _ _⟩ | exact ⟨rfl, _, Eq.trans (World.drewN_drewN _ _ _) (congrArg (World.drewN _) (Nat.add_assoc _ _ _))⟩)))
                repeat (go_quiet (first | (go_at_call 49; (with_reducible refine (signalboxref1_Ints.calls k _ _ l0_4 _ _ l1_4 true _ ?side1 ?side2 ?side3 ?side4 A10.out).mono ?_); (case side1 => repeat (first | exact (Kd.C_below HR0_4.out HB.out) | (with_reducible refine Kd.C_alloc ?_ _) | (with_reducible refine Kd.C_drewN ?_ _) | (with_reducible refine Kd.C_drew ?_))); (case side2 => exact HC0_4.out); (case side3 => repeat (first | exact (Kd.C_below HR1_4.out HB.out) | (with_reducible refine Kd.C_alloc ?_ _) | (with_reducible refine Kd.C_drewN ?_ _) | (with_reducible refine Kd.C_drew ?_))); (case side4 => exact HC1_4.out); rintro e w' ⟨rfl, ⟨nd, rfl⟩⟩; (try first | exact ⟨rfl, _, World.drewN_drewN _ _ _⟩ | exact ⟨rfl, _, Eq.trans (World.drewN_drewN _ _ _) (congrArg (World.drewN _) (Nat.add_assoc _ _ _))⟩)) | (go_at_call 49; (with_reducible refine (signalboxref1_Ints.calls k _ _ l0_5 _ _ l1_5 false _ ?side1 ?side2 ?side3 ?side4 A12.out).mono ?_); (case side1 => repeat (first | exact (Kd.C_below HR0_5.out (by repeat (first | (with_reducible first | exact HB.out | apply below_alloc | apply pw_below_drewN | apply below_drew1 | refine below_set ?_ GE143.out | refine below_set ?_ GE144.out) | exact HB.out))) | (with_reducible refine Kd.C_alloc ?_ _) | (with_reducible refine Kd.C_drewN ?_ _) | (with_reducible refine Kd.C_drew ?_))); (case side2 => exact HC0_5.out); (case side3 => repeat (first | exact (Kd.C_below HR1_5.out (by repeat (first | (with_reducible first | exact HB.out | apply below_alloc | apply pw_below_drewN | apply below_drew1 | refine below_set ?_ GE143.out | refine below_set ?_ GE144.out) | exact HB.out))) | (with_reducible refine Kd.C_alloc ?_ _) | (with_reducible refine Kd.C_drewN ?_ _) | (with_reducible refine Kd.C_drew ?_))); (case side4 => exact HC1_5.out); rintro e w' ⟨rfl, ⟨nd, rfl⟩⟩; (try first | exact ⟨rfl, _, World.drewN_drewN _ _ _⟩ | exact ⟨rfl, _, Eq.trans (World.drewN_drewN _ _ _) (congrArg (World.drewN _) (Nat.add_assoc _ _ _))⟩))); try go_wp2_with (first | (go_at_call 49; (with_reducible refine (signalboxref1_Ints.calls k _ _ l0_4 _ _ l1_4 true _ ?side1 ?side2 ?side3 ?side4 A10.out).mono ?_); (case side1 => repeat (first | exact (Kd.C_below HR0_4.out HB.out) | (with_reducible refine Kd.C_alloc ?_ _) | (with_reducible refine Kd.C_drewN ?_ _) | (with_reducible refine Kd.C_drew ?_))); (case side2 => exact HC0_4.out); (case side3 => repeat (first | exact (Kd.C_below HR1_4.out HB.out) | (with_reducible refine Kd.C_alloc ?_ _) | (with_reducible refine Kd.C_drewN ?_ _) | (with_reducible refine Kd.C_drew ?_))); (case side4 => exact HC1_4.out); rintro e w' ⟨rfl, ⟨nd, rfl⟩⟩; (try first | exact ⟨rfl, _, World.drewN_drewN _ _ _⟩ | exact ⟨rfl, _, Eq.trans (World.drewN_drewN _ _ _) (congrArg (World.drewN _) (Nat.add_assoc _ _ _))⟩)) | (go_at_call 49; (with_reducible refine (signalboxref1_Ints.calls k _ _ l0_5 _ _ l1_5 false _ ?side1 ?side2 ?side3 ?side4 A12.out).mono ?_); (case side1 => repeat (first | exact (Kd.C_below HR0_5.out (by repeat (first | (with_reducible first | exact HB.out | apply below_alloc | apply pw_below_drewN | apply below_drew1 | refine below_set ?_ GE143.out | refine below_set ?_ GE144.out) | exact HB.out))) | (with_reducible refine Kd.C_alloc ?_ _) | (with_reducible refine Kd.C_drewN ?_ _) | (with_reducible refine Kd.C_drew ?_))); (case side2 => exact HC0_5.out); (case side3 => repeat (first | exact (Kd.C_below HR1_5.out (by repeat (first | (with_reducible first | exact HB.out | apply below_alloc | apply pw_below_drewN | apply below_drew1 | refine below_set ?_ GE143.out | refine below_set ?_ GE144.out) | exact HB.out))) | (with_reducible refine Kd.C_alloc ?_ _) | (with_reducible refine Kd.C_drewN ?_ _) | (with_reducible refine Kd.C_drew ?_))); (case side4 => exact HC1_5.out); rintro e w' ⟨rfl, ⟨nd, rfl⟩⟩; (try first | exact ⟨rfl, _, World.drewN_drewN _ _ _⟩ | exact ⟨rfl, _, Eq.trans (World.drewN_drewN _ _ _) (congrArg (World.drewN _) (Nat.add_assoc _ _ _))⟩))))
                go_meet
                case rel => exact ⟨_, (true), (by first | rfl | (simp; done) | (simp [*]; done)), H', ⟨by first | omega | exact Nat.le_refl _⟩, ⟨by (with_reducible repeat (first | refine blk_drewN ?_ _ | refine blk_drew ?_ | refine blk_alloc ?_ _)); exact BK143.out⟩, ⟨by (with_reducible repeat (first | refine blk_drewN ?_ _ | refine blk_drew ?_ | refine blk_alloc ?_ _)); exact BK144.out⟩, ⟨by repeat (first | (with_reducible first | exact HB.out | apply below_alloc | apply pw_below_drewN | apply below_drew1 | refine below_set ?_ GE143.out | refine below_set ?_ GE144.out) | exact HB.out)⟩⟩
            · replace c11 := Bool.eq_false_iff.mpr c11; subst c11; have H1 : (signalboxref1_Same.j0 k true l0_0 l0_1 l0_2 a0_3 l0_4 l0_5 l0_6 l0_7 a0_8 l1_0 l1_1 l1_2 a1_3 l1_4 l1_5 l1_6 l1_7 a1_8) = some r := by rw [if_neg (show ¬ (false = true) by decide)] at H; exact H
              clear H; have H := H1; clear H1; have H' := Aside0.mk H
              clear H; have hnb28 := NB143_144.out; have hnc28 := NB144_143.out; have hcz29_0 : w5.cell? ⟨gb143, 0, none⟩ = some (.slice A0_0 l0_0.length c0_0) := (blk_cell BK143.out 0).trans rfl; have hcz29_1 : w5.cell? ⟨gb143, 1, none⟩ = some (.slice A0_1 l0_1.length c0_1) := (blk_cell BK143.out 1).trans rfl; have hcz29_2 : w5.cell? ⟨gb143, 2, none⟩ = some (.slice A0_2 l0_2.length c0_2) := (blk_cell BK143.out 2).trans rfl; have hcz29_3 : w5.cell? ⟨gb143, 3, none⟩ = some (.int .i64 a0_3) := (blk_cell BK143.out 3).trans rfl; have hcz29_4 : w5.cell? ⟨gb143, 4, none⟩ = some (.slice A0_4 l0_4.length c0_4) := (blk_cell BK143.out 4).trans rfl; have hcz29_5 : w5.cell? ⟨gb143, 5, none⟩ = some (.slice A0_5 l0_5.length c0_5) := (blk_cell BK143.out 5).trans rfl; have hcz29_6 : w5.cell? ⟨gb143, 6, none⟩ = some (.slice A0_6 l0_6.length c0_6) := (blk_cell BK143.out 6).trans rfl; have hcz29_7 : w5.cell? ⟨gb143, 7, none⟩ = some (.slice A0_7 l0_7.length c0_7) := (blk_cell BK143.out 7).trans rfl; have hcz29_8 : w5.cell? ⟨gb143, 8, none⟩ = some (.int .i64 a0_8) := (blk_cell BK143.out 8).trans rfl; have hfz29_0 := blk_frozen BK143.out 0; have hfz29_1 := blk_frozen BK143.out 1; have hfz29_2 := blk_frozen BK143.out 2; have hfz29_3 := blk_frozen BK143.out 3; have hfz29_4 := blk_frozen BK143.out 4; have hfz29_5 := blk_frozen BK143.out 5; have hfz29_6 := blk_frozen BK143.out 6; have hfz29_7 := blk_frozen BK143.out 7; have hfz29_8 := blk_frozen BK143.out 8; have hcz30_0 : w5.cell? ⟨gb144, 0, none⟩ = some (.slice A1_0 l1_0.length c1_0) := (blk_cell BK144.out 0).trans rfl; have hcz30_1 : w5.cell? ⟨gb144, 1, none⟩ = some (.slice A1_1 l1_1.length c1_1) := (blk_cell BK144.out 1).trans rfl; have hcz30_2 : w5.cell? ⟨gb144, 2, none⟩ = some (.slice A1_2 l1_2.length c1_2) := (blk_cell BK144.out 2).trans rfl; have hcz30_3 : w5.cell? ⟨gb144, 3, none⟩ = some (.int .i64 a1_3) := (blk_cell BK144.out 3).trans rfl; have hcz30_4 : w5.cell? ⟨gb144, 4, none⟩ = some (.slice A1_4 l1_4.length c1_4) := (blk_cell BK144.out 4).trans rfl; have hcz30_5 : w5.cell? ⟨gb144, 5, none⟩ = some (.slice A1_5 l1_5.length c1_5) := (blk_cell BK144.out 5).trans rfl; have hcz30_6 : w5.cell? ⟨gb144, 6, none⟩ = some (.slice A1_6 l1_6.length c1_6) := (blk_cell BK144.out 6).trans rfl; have hcz30_7 : w5.cell? ⟨gb144, 7, none⟩ = some (.slice A1_7 l1_7.length c1_7) := (blk_cell BK144.out 7).trans rfl; have hcz30_8 : w5.cell? ⟨gb144, 8, none⟩ = some (.int .i64 a1_8) := (blk_cell BK144.out 8).trans rfl; have hfz30_0 := blk_frozen BK144.out 0; have hfz30_1 := blk_frozen BK144.out 1; have hfz30_2 := blk_frozen BK144.out 2; have hfz30_3 := blk_frozen BK144.out 3; have hfz30_4 := blk_frozen BK144.out 4; have hfz30_5 := blk_frozen BK144.out 5; have hfz30_6 := blk_frozen BK144.out 6; have hfz30_7 := blk_frozen BK144.out 7; have hfz30_8 := blk_frozen BK144.out 8; go_wp2_with (first | (go_at_call 49; (with_reducible refine (signalboxref1_Ints.calls k _ _ l0_4 _ _ l1_4 false _ ?side1 ?side2 ?side3 ?side4 A10.out).mono ?_); (case side1 => repeat (first | exact (Kd.C_below HR0_4.out HB.out) | (with_reducible refine Kd.C_alloc ?_ _) | (with_reducible refine Kd.C_drewN ?_ _) | (with_reducible refine Kd.C_drew ?_))); (case side2 => exact HC0_4.out); (case side3 => repeat (first | exact (Kd.C_below HR1_4.out HB.out) | (with_reducible refine Kd.C_alloc ?_ _) | (with_reducible refine Kd.C_drewN ?_ _) | (with_reducible refine Kd.C_drew ?_))); (case side4 => exact HC1_4.out); rintro e w' ⟨rfl, ⟨nd, rfl⟩⟩; (try first | exact ⟨rfl, _, World.drewN_drewN _ _ _⟩ | exact ⟨rfl, _, Eq.trans (World.drewN_drewN _ _ _) (congrArg (World.drewN _) (Nat.add_assoc _ _ _))⟩)))
              repeat (go_quiet (first | (go_at_call 49; (with_reducible refine (signalboxref1_Ints.calls k _ _ l0_4 _ _ l1_4 false _ ?side1 ?side2 ?side3 ?side4 A10.out).mono ?_); (case side1 => repeat (first | exact (Kd.C_below HR0_4.out HB.out) | (with_reducible refine Kd.C_alloc ?_ _) | (with_reducible refine Kd.C_drewN ?_ _) | (with_reducible refine Kd.C_drew ?_))); (case side2 => exact HC0_4.out); (case side3 => repeat (first | exact (Kd.C_below HR1_4.out HB.out) | (with_reducible refine Kd.C_alloc ?_ _) | (with_reducible refine Kd.C_drewN ?_ _) | (with_reducible refine Kd.C_drew ?_))); (case side4 => exact HC1_4.out); rintro e w' ⟨rfl, ⟨nd, rfl⟩⟩; (try first | exact ⟨rfl, _, World.drewN_drewN _ _ _⟩ | exact ⟨rfl, _, Eq.trans (World.drewN_drewN _ _ _) (congrArg (World.drewN _) (Nat.add_assoc _ _ _))⟩))); try go_wp2_with (first | (go_at_call 49; (with_reducible refine (signalboxref1_Ints.calls k _ _ l0_4 _ _ l1_4 false _ ?side1 ?side2 ?side3 ?side4 A10.out).mono ?_); (case side1 => repeat (first | exact (Kd.C_below HR0_4.out HB.out) | (with_reducible refine Kd.C_alloc ?_ _) | (with_reducible refine Kd.C_drewN ?_ _) | (with_reducible refine Kd.C_drew ?_))); (case side2 => exact HC0_4.out); (case side3 => repeat (first | exact (Kd.C_below HR1_4.out HB.out) | (with_reducible refine Kd.C_alloc ?_ _) | (with_reducible refine Kd.C_drewN ?_ _) | (with_reducible refine Kd.C_drew ?_))); (case side4 => exact HC1_4.out); rintro e w' ⟨rfl, ⟨nd, rfl⟩⟩; (try first | exact ⟨rfl, _, World.drewN_drewN _ _ _⟩ | exact ⟨rfl, _, Eq.trans (World.drewN_drewN _ _ _) (congrArg (World.drewN _) (Nat.add_assoc _ _ _))⟩))))
              go_meet
              case rel => exact ⟨_, (true), (by first | rfl | (simp; done) | (simp [*]; done)), H', ⟨by first | omega | exact Nat.le_refl _⟩, ⟨by (with_reducible repeat (first | refine blk_drewN ?_ _ | refine blk_drew ?_ | refine blk_alloc ?_ _)); exact BK143.out⟩, ⟨by (with_reducible repeat (first | refine blk_drewN ?_ _ | refine blk_drew ?_ | refine blk_alloc ?_ _)); exact BK144.out⟩, ⟨by repeat (first | (with_reducible first | exact HB.out | apply below_alloc | apply pw_below_drewN | apply below_drew1 | refine below_set ?_ GE143.out | refine below_set ?_ GE144.out) | exact HB.out)⟩⟩
          · rw [if_neg c9] at H
            have c9b0 : (a0_3 == a1_3) = false := beq_eq_false_iff_ne.mpr c9; have c9b1 : (a0_3 != a1_3) = true := bne_iff_ne.mpr c9; have H' := Aside0.mk H
            clear H; have hnb31 := NB143_144.out; have hnc31 := NB144_143.out; have hcz32_0 : w5.cell? ⟨gb143, 0, none⟩ = some (.slice A0_0 l0_0.length c0_0) := (blk_cell BK143.out 0).trans rfl; have hcz32_1 : w5.cell? ⟨gb143, 1, none⟩ = some (.slice A0_1 l0_1.length c0_1) := (blk_cell BK143.out 1).trans rfl; have hcz32_2 : w5.cell? ⟨gb143, 2, none⟩ = some (.slice A0_2 l0_2.length c0_2) := (blk_cell BK143.out 2).trans rfl; have hcz32_3 : w5.cell? ⟨gb143, 3, none⟩ = some (.int .i64 a0_3) := (blk_cell BK143.out 3).trans rfl; have hcz32_4 : w5.cell? ⟨gb143, 4, none⟩ = some (.slice A0_4 l0_4.length c0_4) := (blk_cell BK143.out 4).trans rfl; have hcz32_5 : w5.cell? ⟨gb143, 5, none⟩ = some (.slice A0_5 l0_5.length c0_5) := (blk_cell BK143.out 5).trans rfl; have hcz32_6 : w5.cell? ⟨gb143, 6, none⟩ = some (.slice A0_6 l0_6.length c0_6) := (blk_cell BK143.out 6).trans rfl; have hcz32_7 : w5.cell? ⟨gb143, 7, none⟩ = some (.slice A0_7 l0_7.length c0_7) := (blk_cell BK143.out 7).trans rfl; have hcz32_8 : w5.cell? ⟨gb143, 8, none⟩ = some (.int .i64 a0_8) := (blk_cell BK143.out 8).trans rfl; have hfz32_0 := blk_frozen BK143.out 0; have hfz32_1 := blk_frozen BK143.out 1; have hfz32_2 := blk_frozen BK143.out 2; have hfz32_3 := blk_frozen BK143.out 3; have hfz32_4 := blk_frozen BK143.out 4; have hfz32_5 := blk_frozen BK143.out 5; have hfz32_6 := blk_frozen BK143.out 6; have hfz32_7 := blk_frozen BK143.out 7; have hfz32_8 := blk_frozen BK143.out 8; have hcz33_0 : w5.cell? ⟨gb144, 0, none⟩ = some (.slice A1_0 l1_0.length c1_0) := (blk_cell BK144.out 0).trans rfl; have hcz33_1 : w5.cell? ⟨gb144, 1, none⟩ = some (.slice A1_1 l1_1.length c1_1) := (blk_cell BK144.out 1).trans rfl; have hcz33_2 : w5.cell? ⟨gb144, 2, none⟩ = some (.slice A1_2 l1_2.length c1_2) := (blk_cell BK144.out 2).trans rfl; have hcz33_3 : w5.cell? ⟨gb144, 3, none⟩ = some (.int .i64 a1_3) := (blk_cell BK144.out 3).trans rfl; have hcz33_4 : w5.cell? ⟨gb144, 4, none⟩ = some (.slice A1_4 l1_4.length c1_4) := (blk_cell BK144.out 4).trans rfl; have hcz33_5 : w5.cell? ⟨gb144, 5, none⟩ = some (.slice A1_5 l1_5.length c1_5) := (blk_cell BK144.out 5).trans rfl; have hcz33_6 : w5.cell? ⟨gb144, 6, none⟩ = some (.slice A1_6 l1_6.length c1_6) := (blk_cell BK144.out 6).trans rfl; have hcz33_7 : w5.cell? ⟨gb144, 7, none⟩ = some (.slice A1_7 l1_7.length c1_7) := (blk_cell BK144.out 7).trans rfl; have hcz33_8 : w5.cell? ⟨gb144, 8, none⟩ = some (.int .i64 a1_8) := (blk_cell BK144.out 8).trans rfl; have hfz33_0 := blk_frozen BK144.out 0; have hfz33_1 := blk_frozen BK144.out 1; have hfz33_2 := blk_frozen BK144.out 2; have hfz33_3 := blk_frozen BK144.out 3; have hfz33_4 := blk_frozen BK144.out 4; have hfz33_5 := blk_frozen BK144.out 5; have hfz33_6 := blk_frozen BK144.out 6; have hfz33_7 := blk_frozen BK144.out 7; have hfz33_8 := blk_frozen BK144.out 8; go_wp2
            repeat (go_quiet (fail); try go_wp2)
            go_meet
            case rel => exact ⟨_, (true), (by first | rfl | (simp; done) | (simp [*]; done)), H', ⟨by first | omega | exact Nat.le_refl _⟩, ⟨by (with_reducible repeat (first | refine blk_drewN ?_ _ | refine blk_drew ?_ | refine blk_alloc ?_ _)); exact BK143.out⟩, ⟨by (with_reducible repeat (first | refine blk_drewN ?_ _ | refine blk_drew ?_ | refine blk_alloc ?_ _)); exact BK144.out⟩, ⟨by repeat (first | (with_reducible first | exact HB.out | apply below_alloc | apply pw_below_drewN | apply below_drew1 | refine below_set ?_ GE143.out | refine below_set ?_ GE144.out) | exact HB.out)⟩⟩
        · rw [if_neg c8] at H
          have c8b0 : ((l0_2.length : Int) == (l1_2.length : Int)) = false := beq_eq_false_iff_ne.mpr c8; have c8b1 : ((l0_2.length : Int) != (l1_2.length : Int)) = true := bne_iff_ne.mpr c8; have c8b2 : (l0_2.length == l1_2.length) = false := by first | simpa using c8 | (simp at c8 ⊢; omega)
          have H' := Aside0.mk H
          clear H; have hnb34 := NB143_144.out; have hnc34 := NB144_143.out; have hcz35_0 : w5.cell? ⟨gb143, 0, none⟩ = some (.slice A0_0 l0_0.length c0_0) := (blk_cell BK143.out 0).trans rfl; have hcz35_1 : w5.cell? ⟨gb143, 1, none⟩ = some (.slice A0_1 l0_1.length c0_1) := (blk_cell BK143.out 1).trans rfl; have hcz35_2 : w5.cell? ⟨gb143, 2, none⟩ = some (.slice A0_2 l0_2.length c0_2) := (blk_cell BK143.out 2).trans rfl; have hcz35_3 : w5.cell? ⟨gb143, 3, none⟩ = some (.int .i64 a0_3) := (blk_cell BK143.out 3).trans rfl; have hcz35_4 : w5.cell? ⟨gb143, 4, none⟩ = some (.slice A0_4 l0_4.length c0_4) := (blk_cell BK143.out 4).trans rfl; have hcz35_5 : w5.cell? ⟨gb143, 5, none⟩ = some (.slice A0_5 l0_5.length c0_5) := (blk_cell BK143.out 5).trans rfl; have hcz35_6 : w5.cell? ⟨gb143, 6, none⟩ = some (.slice A0_6 l0_6.length c0_6) := (blk_cell BK143.out 6).trans rfl; have hcz35_7 : w5.cell? ⟨gb143, 7, none⟩ = some (.slice A0_7 l0_7.length c0_7) := (blk_cell BK143.out 7).trans rfl; have hcz35_8 : w5.cell? ⟨gb143, 8, none⟩ = some (.int .i64 a0_8) := (blk_cell BK143.out 8).trans rfl; have hfz35_0 := blk_frozen BK143.out 0; have hfz35_1 := blk_frozen BK143.out 1; have hfz35_2 := blk_frozen BK143.out 2; have hfz35_3 := blk_frozen BK143.out 3; have hfz35_4 := blk_frozen BK143.out 4; have hfz35_5 := blk_frozen BK143.out 5; have hfz35_6 := blk_frozen BK143.out 6; have hfz35_7 := blk_frozen BK143.out 7; have hfz35_8 := blk_frozen BK143.out 8; have hcz36_0 : w5.cell? ⟨gb144, 0, none⟩ = some (.slice A1_0 l1_0.length c1_0) := (blk_cell BK144.out 0).trans rfl; have hcz36_1 : w5.cell? ⟨gb144, 1, none⟩ = some (.slice A1_1 l1_1.length c1_1) := (blk_cell BK144.out 1).trans rfl; have hcz36_2 : w5.cell? ⟨gb144, 2, none⟩ = some (.slice A1_2 l1_2.length c1_2) := (blk_cell BK144.out 2).trans rfl; have hcz36_3 : w5.cell? ⟨gb144, 3, none⟩ = some (.int .i64 a1_3) := (blk_cell BK144.out 3).trans rfl; have hcz36_4 : w5.cell? ⟨gb144, 4, none⟩ = some (.slice A1_4 l1_4.length c1_4) := (blk_cell BK144.out 4).trans rfl; have hcz36_5 : w5.cell? ⟨gb144, 5, none⟩ = some (.slice A1_5 l1_5.length c1_5) := (blk_cell BK144.out 5).trans rfl; have hcz36_6 : w5.cell? ⟨gb144, 6, none⟩ = some (.slice A1_6 l1_6.length c1_6) := (blk_cell BK144.out 6).trans rfl; have hcz36_7 : w5.cell? ⟨gb144, 7, none⟩ = some (.slice A1_7 l1_7.length c1_7) := (blk_cell BK144.out 7).trans rfl; have hcz36_8 : w5.cell? ⟨gb144, 8, none⟩ = some (.int .i64 a1_8) := (blk_cell BK144.out 8).trans rfl; have hfz36_0 := blk_frozen BK144.out 0; have hfz36_1 := blk_frozen BK144.out 1; have hfz36_2 := blk_frozen BK144.out 2; have hfz36_3 := blk_frozen BK144.out 3; have hfz36_4 := blk_frozen BK144.out 4; have hfz36_5 := blk_frozen BK144.out 5; have hfz36_6 := blk_frozen BK144.out 6; have hfz36_7 := blk_frozen BK144.out 7; have hfz36_8 := blk_frozen BK144.out 8; go_wp2
          repeat (go_quiet (fail); try go_wp2)
          go_meet
          case rel => exact ⟨_, (true), (by first | rfl | (simp; done) | (simp [*]; done)), H', ⟨by first | omega | exact Nat.le_refl _⟩, ⟨by (with_reducible repeat (first | refine blk_drewN ?_ _ | refine blk_drew ?_ | refine blk_alloc ?_ _)); exact BK143.out⟩, ⟨by (with_reducible repeat (first | refine blk_drewN ?_ _ | refine blk_drew ?_ | refine blk_alloc ?_ _)); exact BK144.out⟩, ⟨by repeat (first | (with_reducible first | exact HB.out | apply below_alloc | apply pw_below_drewN | apply below_drew1 | refine below_set ?_ GE143.out | refine below_set ?_ GE144.out) | exact HB.out)⟩⟩
      · rw [if_neg c7] at H
        have c7b0 : ((l0_1.length : Int) == (l1_1.length : Int)) = false := beq_eq_false_iff_ne.mpr c7; have c7b1 : ((l0_1.length : Int) != (l1_1.length : Int)) = true := bne_iff_ne.mpr c7; have c7b2 : (l0_1.length == l1_1.length) = false := by first | simpa using c7 | (simp at c7 ⊢; omega)
        have H' := Aside0.mk H
        clear H; have hnb37 := NB143_144.out; have hnc37 := NB144_143.out; have hcz38_0 : w5.cell? ⟨gb143, 0, none⟩ = some (.slice A0_0 l0_0.length c0_0) := (blk_cell BK143.out 0).trans rfl; have hcz38_1 : w5.cell? ⟨gb143, 1, none⟩ = some (.slice A0_1 l0_1.length c0_1) := (blk_cell BK143.out 1).trans rfl; have hcz38_2 : w5.cell? ⟨gb143, 2, none⟩ = some (.slice A0_2 l0_2.length c0_2) := (blk_cell BK143.out 2).trans rfl; have hcz38_3 : w5.cell? ⟨gb143, 3, none⟩ = some (.int .i64 a0_3) := (blk_cell BK143.out 3).trans rfl; have hcz38_4 : w5.cell? ⟨gb143, 4, none⟩ = some (.slice A0_4 l0_4.length c0_4) := (blk_cell BK143.out 4).trans rfl; have hcz38_5 : w5.cell? ⟨gb143, 5, none⟩ = some (.slice A0_5 l0_5.length c0_5) := (blk_cell BK143.out 5).trans rfl; have hcz38_6 : w5.cell? ⟨gb143, 6, none⟩ = some (.slice A0_6 l0_6.length c0_6) := (blk_cell BK143.out 6).trans rfl; have hcz38_7 : w5.cell? ⟨gb143, 7, none⟩ = some (.slice A0_7 l0_7.length c0_7) := (blk_cell BK143.out 7).trans rfl; have hcz38_8 : w5.cell? ⟨gb143, 8, none⟩ = some (.int .i64 a0_8) := (blk_cell BK143.out 8).trans rfl; have hfz38_0 := blk_frozen BK143.out 0; have hfz38_1 := blk_frozen BK143.out 1; have hfz38_2 := blk_frozen BK143.out 2; have hfz38_3 := blk_frozen BK143.out 3; have hfz38_4 := blk_frozen BK143.out 4; have hfz38_5 := blk_frozen BK143.out 5; have hfz38_6 := blk_frozen BK143.out 6; have hfz38_7 := blk_frozen BK143.out 7; have hfz38_8 := blk_frozen BK143.out 8; have hcz39_0 : w5.cell? ⟨gb144, 0, none⟩ = some (.slice A1_0 l1_0.length c1_0) := (blk_cell BK144.out 0).trans rfl; have hcz39_1 : w5.cell? ⟨gb144, 1, none⟩ = some (.slice A1_1 l1_1.length c1_1) := (blk_cell BK144.out 1).trans rfl; have hcz39_2 : w5.cell? ⟨gb144, 2, none⟩ = some (.slice A1_2 l1_2.length c1_2) := (blk_cell BK144.out 2).trans rfl; have hcz39_3 : w5.cell? ⟨gb144, 3, none⟩ = some (.int .i64 a1_3) := (blk_cell BK144.out 3).trans rfl; have hcz39_4 : w5.cell? ⟨gb144, 4, none⟩ = some (.slice A1_4 l1_4.length c1_4) := (blk_cell BK144.out 4).trans rfl; have hcz39_5 : w5.cell? ⟨gb144, 5, none⟩ = some (.slice A1_5 l1_5.length c1_5) := (blk_cell BK144.out 5).trans rfl; have hcz39_6 : w5.cell? ⟨gb144, 6, none⟩ = some (.slice A1_6 l1_6.length c1_6) := (blk_cell BK144.out 6).trans rfl; have hcz39_7 : w5.cell? ⟨gb144, 7, none⟩ = some (.slice A1_7 l1_7.length c1_7) := (blk_cell BK144.out 7).trans rfl; have hcz39_8 : w5.cell? ⟨gb144, 8, none⟩ = some (.int .i64 a1_8) := (blk_cell BK144.out 8).trans rfl; have hfz39_0 := blk_frozen BK144.out 0; have hfz39_1 := blk_frozen BK144.out 1; have hfz39_2 := blk_frozen BK144.out 2; have hfz39_3 := blk_frozen BK144.out 3; have hfz39_4 := blk_frozen BK144.out 4; have hfz39_5 := blk_frozen BK144.out 5; have hfz39_6 := blk_frozen BK144.out 6; have hfz39_7 := blk_frozen BK144.out 7; have hfz39_8 := blk_frozen BK144.out 8; go_wp2
        repeat (go_quiet (fail); try go_wp2)
        go_meet
        case rel => exact ⟨_, (true), (by first | rfl | (simp; done) | (simp [*]; done)), H', ⟨by first | omega | exact Nat.le_refl _⟩, ⟨by (with_reducible repeat (first | refine blk_drewN ?_ _ | refine blk_drew ?_ | refine blk_alloc ?_ _)); exact BK143.out⟩, ⟨by (with_reducible repeat (first | refine blk_drewN ?_ _ | refine blk_drew ?_ | refine blk_alloc ?_ _)); exact BK144.out⟩, ⟨by repeat (first | (with_reducible first | exact HB.out | apply below_alloc | apply pw_below_drewN | apply below_drew1 | refine below_set ?_ GE143.out | refine below_set ?_ GE144.out) | exact HB.out)⟩⟩
    · rw [if_neg c6] at H
      have c6b0 : ((l0_0.length : Int) == (l1_0.length : Int)) = false := beq_eq_false_iff_ne.mpr c6; have c6b1 : ((l0_0.length : Int) != (l1_0.length : Int)) = true := bne_iff_ne.mpr c6; have c6b2 : (l0_0.length == l1_0.length) = false := by first | simpa using c6 | (simp at c6 ⊢; omega)
      (first | rw [c6b0] | (simp only [i64_w, i32_w]; rw [c6b0]) | skip)
      have H' := Aside0.mk H
      clear H; have hnb40 := NB143_144.out; have hnc40 := NB144_143.out; have hcz41_0 : w5.cell? ⟨gb143, 0, none⟩ = some (.slice A0_0 l0_0.length c0_0) := (blk_cell BK143.out 0).trans rfl; have hcz41_1 : w5.cell? ⟨gb143, 1, none⟩ = some (.slice A0_1 l0_1.length c0_1) := (blk_cell BK143.out 1).trans rfl; have hcz41_2 : w5.cell? ⟨gb143, 2, none⟩ = some (.slice A0_2 l0_2.length c0_2) := (blk_cell BK143.out 2).trans rfl; have hcz41_3 : w5.cell? ⟨gb143, 3, none⟩ = some (.int .i64 a0_3) := (blk_cell BK143.out 3).trans rfl; have hcz41_4 : w5.cell? ⟨gb143, 4, none⟩ = some (.slice A0_4 l0_4.length c0_4) := (blk_cell BK143.out 4).trans rfl; have hcz41_5 : w5.cell? ⟨gb143, 5, none⟩ = some (.slice A0_5 l0_5.length c0_5) := (blk_cell BK143.out 5).trans rfl; have hcz41_6 : w5.cell? ⟨gb143, 6, none⟩ = some (.slice A0_6 l0_6.length c0_6) := (blk_cell BK143.out 6).trans rfl; have hcz41_7 : w5.cell? ⟨gb143, 7, none⟩ = some (.slice A0_7 l0_7.length c0_7) := (blk_cell BK143.out 7).trans rfl; have hcz41_8 : w5.cell? ⟨gb143, 8, none⟩ = some (.int .i64 a0_8) := (blk_cell BK143.out 8).trans rfl; have hfz41_0 := blk_frozen BK143.out 0; have hfz41_1 := blk_frozen BK143.out 1; have hfz41_2 := blk_frozen BK143.out 2; have hfz41_3 := blk_frozen BK143.out 3; have hfz41_4 := blk_frozen BK143.out 4; have hfz41_5 := blk_frozen BK143.out 5; have hfz41_6 := blk_frozen BK143.out 6; have hfz41_7 := blk_frozen BK143.out 7; have hfz41_8 := blk_frozen BK143.out 8; have hcz42_0 : w5.cell? ⟨gb144, 0, none⟩ = some (.slice A1_0 l1_0.length c1_0) := (blk_cell BK144.out 0).trans rfl; have hcz42_1 : w5.cell? ⟨gb144, 1, none⟩ = some (.slice A1_1 l1_1.length c1_1) := (blk_cell BK144.out 1).trans rfl; have hcz42_2 : w5.cell? ⟨gb144, 2, none⟩ = some (.slice A1_2 l1_2.length c1_2) := (blk_cell BK144.out 2).trans rfl; have hcz42_3 : w5.cell? ⟨gb144, 3, none⟩ = some (.int .i64 a1_3) := (blk_cell BK144.out 3).trans rfl; have hcz42_4 : w5.cell? ⟨gb144, 4, none⟩ = some (.slice A1_4 l1_4.length c1_4) := (blk_cell BK144.out 4).trans rfl; have hcz42_5 : w5.cell? ⟨gb144, 5, none⟩ = some (.slice A1_5 l1_5.length c1_5) := (blk_cell BK144.out 5).trans rfl; have hcz42_6 : w5.cell? ⟨gb144, 6, none⟩ = some (.slice A1_6 l1_6.length c1_6) := (blk_cell BK144.out 6).trans rfl; have hcz42_7 : w5.cell? ⟨gb144, 7, none⟩ = some (.slice A1_7 l1_7.length c1_7) := (blk_cell BK144.out 7).trans rfl; have hcz42_8 : w5.cell? ⟨gb144, 8, none⟩ = some (.int .i64 a1_8) := (blk_cell BK144.out 8).trans rfl; have hfz42_0 := blk_frozen BK144.out 0; have hfz42_1 := blk_frozen BK144.out 1; have hfz42_2 := blk_frozen BK144.out 2; have hfz42_3 := blk_frozen BK144.out 3; have hfz42_4 := blk_frozen BK144.out 4; have hfz42_5 := blk_frozen BK144.out 5; have hfz42_6 := blk_frozen BK144.out 6; have hfz42_7 := blk_frozen BK144.out 7; have hfz42_8 := blk_frozen BK144.out 8; go_wp2
      repeat (go_quiet (fail); try go_wp2)
      go_meet
      case rel => exact ⟨_, (true), (by first | rfl | (simp; done) | (simp [*]; done)), H', ⟨by first | omega | exact Nat.le_refl _⟩, ⟨by (with_reducible repeat (first | refine blk_drewN ?_ _ | refine blk_drew ?_ | refine blk_alloc ?_ _)); exact BK143.out⟩, ⟨by (with_reducible repeat (first | refine blk_drewN ?_ _ | refine blk_drew ?_ | refine blk_alloc ?_ _)); exact BK144.out⟩, ⟨by repeat (first | (with_reducible first | exact HB.out | apply below_alloc | apply pw_below_drewN | apply below_drew1 | refine below_set ?_ GE143.out | refine below_set ?_ GE144.out) | exact HB.out)⟩⟩
  case rest =>
    clear HC3
    try clear c1
    try clear c2
    try clear p2
    try clear c3
    try clear c4
    try clear c6
    try clear c6b0
    try clear c6b1
    try clear c6b2
    try clear c7
    try clear c7b0
    try clear c7b1
    try clear c7b2
    try clear c8
    try clear c8b0
    try clear c8b1
    try clear c8b2
    try clear c9
    try clear c9b0
    try clear c9b1
    try clear c11
    try clear c13
    try clear c14
    try clear c14b0
    try clear c14b1
    try clear c14b2
    try clear c15
    try clear c15b0
    try clear c15b1
    try clear c15b2
    try clear c16
    try clear c19
    try clear c22
    try clear c25
    try clear c28
    try clear c31
    try clear c34
    try clear c37
    try clear c40
    try clear hcz17_0
    try clear hcz17_1
    try clear hcz17_2
    try clear hcz17_3
    try clear hcz17_4
    try clear hcz17_5
    try clear hcz17_6
    try clear hcz17_7
    try clear hcz17_8
    try clear hcz18_0
    try clear hcz18_1
    try clear hcz18_2
    try clear hcz18_3
    try clear hcz18_4
    try clear hcz18_5
    try clear hcz18_6
    try clear hcz18_7
    try clear hcz18_8
    try clear hcz20_0
    try clear hcz20_1
    try clear hcz20_2
    try clear hcz20_3
    try clear hcz20_4
    try clear hcz20_5
    try clear hcz20_6
    try clear hcz20_7
    try clear hcz20_8
    try clear hcz21_0
    try clear hcz21_1
    try clear hcz21_2
    try clear hcz21_3
    try clear hcz21_4
    try clear hcz21_5
    try clear hcz21_6
    try clear hcz21_7
    try clear hcz21_8
    try clear hcz23_0
    try clear hcz23_1
    try clear hcz23_2
    try clear hcz23_3
    try clear hcz23_4
    try clear hcz23_5
    try clear hcz23_6
    try clear hcz23_7
    try clear hcz23_8
    try clear hcz24_0
    try clear hcz24_1
    try clear hcz24_2
    try clear hcz24_3
    try clear hcz24_4
    try clear hcz24_5
    try clear hcz24_6
    try clear hcz24_7
    try clear hcz24_8
    try clear hcz26_0
    try clear hcz26_1
    try clear hcz26_2
    try clear hcz26_3
    try clear hcz26_4
    try clear hcz26_5
    try clear hcz26_6
    try clear hcz26_7
    try clear hcz26_8
    try clear hcz27_0
    try clear hcz27_1
    try clear hcz27_2
    try clear hcz27_3
    try clear hcz27_4
    try clear hcz27_5
    try clear hcz27_6
    try clear hcz27_7
    try clear hcz27_8
    try clear hcz29_0
    try clear hcz29_1
    try clear hcz29_2
    try clear hcz29_3
    try clear hcz29_4
    try clear hcz29_5
    try clear hcz29_6
    try clear hcz29_7
    try clear hcz29_8
    try clear hcz30_0
    try clear hcz30_1
    try clear hcz30_2
    try clear hcz30_3
    try clear hcz30_4
    try clear hcz30_5
    try clear hcz30_6
    try clear hcz30_7
    try clear hcz30_8
    try clear hcz32_0
    try clear hcz32_1
    try clear hcz32_2
    try clear hcz32_3
    try clear hcz32_4
    try clear hcz32_5
    try clear hcz32_6
    try clear hcz32_7
    try clear hcz32_8
    try clear hcz33_0
    try clear hcz33_1
    try clear hcz33_2
    try clear hcz33_3
    try clear hcz33_4
    try clear hcz33_5
    try clear hcz33_6
    try clear hcz33_7
    try clear hcz33_8
    try clear hcz35_0
    try clear hcz35_1
    try clear hcz35_2
    try clear hcz35_3
    try clear hcz35_4
    try clear hcz35_5
    try clear hcz35_6
    try clear hcz35_7
    try clear hcz35_8
    try clear hcz36_0
    try clear hcz36_1
    try clear hcz36_2
    try clear hcz36_3
    try clear hcz36_4
    try clear hcz36_5
    try clear hcz36_6
    try clear hcz36_7
    try clear hcz36_8
    try clear hcz38_0
    try clear hcz38_1
    try clear hcz38_2
    try clear hcz38_3
    try clear hcz38_4
    try clear hcz38_5
    try clear hcz38_6
    try clear hcz38_7
    try clear hcz38_8
    try clear hcz39_0
    try clear hcz39_1
    try clear hcz39_2
    try clear hcz39_3
    try clear hcz39_4
    try clear hcz39_5
    try clear hcz39_6
    try clear hcz39_7
    try clear hcz39_8
    try clear hcz41_0
    try clear hcz41_1
    try clear hcz41_2
    try clear hcz41_3
    try clear hcz41_4
    try clear hcz41_5
    try clear hcz41_6
    try clear hcz41_7
    try clear hcz41_8
    try clear hcz42_0
    try clear hcz42_1
    try clear hcz42_2
    try clear hcz42_3
    try clear hcz42_4
    try clear hcz42_5
    try clear hcz42_6
    try clear hcz42_7
    try clear hcz42_8
    try clear hfz17_0
    try clear hfz17_1
    try clear hfz17_2
    try clear hfz17_3
    try clear hfz17_4
    try clear hfz17_5
    try clear hfz17_6
    try clear hfz17_7
    try clear hfz17_8
    try clear hfz18_0
    try clear hfz18_1
    try clear hfz18_2
    try clear hfz18_3
    try clear hfz18_4
    try clear hfz18_5
    try clear hfz18_6
    try clear hfz18_7
    try clear hfz18_8
    try clear hfz20_0
    try clear hfz20_1
    try clear hfz20_2
    try clear hfz20_3
    try clear hfz20_4
    try clear hfz20_5
    try clear hfz20_6
    try clear hfz20_7
    try clear hfz20_8
    try clear hfz21_0
    try clear hfz21_1
    try clear hfz21_2
    try clear hfz21_3
    try clear hfz21_4
    try clear hfz21_5
    try clear hfz21_6
    try clear hfz21_7
    try clear hfz21_8
    try clear hfz23_0
    try clear hfz23_1
    try clear hfz23_2
    try clear hfz23_3
    try clear hfz23_4
    try clear hfz23_5
    try clear hfz23_6
    try clear hfz23_7
    try clear hfz23_8
    try clear hfz24_0
    try clear hfz24_1
    try clear hfz24_2
    try clear hfz24_3
    try clear hfz24_4
    try clear hfz24_5
    try clear hfz24_6
    try clear hfz24_7
    try clear hfz24_8
    try clear hfz26_0
    try clear hfz26_1
    try clear hfz26_2
    try clear hfz26_3
    try clear hfz26_4
    try clear hfz26_5
    try clear hfz26_6
    try clear hfz26_7
    try clear hfz26_8
    try clear hfz27_0
    try clear hfz27_1
    try clear hfz27_2
    try clear hfz27_3
    try clear hfz27_4
    try clear hfz27_5
    try clear hfz27_6
    try clear hfz27_7
    try clear hfz27_8
    try clear hfz29_0
    try clear hfz29_1
    try clear hfz29_2
    try clear hfz29_3
    try clear hfz29_4
    try clear hfz29_5
    try clear hfz29_6
    try clear hfz29_7
    try clear hfz29_8
    try clear hfz30_0
    try clear hfz30_1
    try clear hfz30_2
    try clear hfz30_3
    try clear hfz30_4
    try clear hfz30_5
    try clear hfz30_6
    try clear hfz30_7
    try clear hfz30_8
    try clear hfz32_0
    try clear hfz32_1
    try clear hfz32_2
    try clear hfz32_3
    try clear hfz32_4
    try clear hfz32_5
    try clear hfz32_6
    try clear hfz32_7
    try clear hfz32_8
    try clear hfz33_0
    try clear hfz33_1
    try clear hfz33_2
    try clear hfz33_3
    try clear hfz33_4
    try clear hfz33_5
    try clear hfz33_6
    try clear hfz33_7
    try clear hfz33_8
    try clear hfz35_0
    try clear hfz35_1
    try clear hfz35_2
    try clear hfz35_3
    try clear hfz35_4
    try clear hfz35_5
    try clear hfz35_6
    try clear hfz35_7
    try clear hfz35_8
    try clear hfz36_0
    try clear hfz36_1
    try clear hfz36_2
    try clear hfz36_3
    try clear hfz36_4
    try clear hfz36_5
    try clear hfz36_6
    try clear hfz36_7
    try clear hfz36_8
    try clear hfz38_0
    try clear hfz38_1
    try clear hfz38_2
    try clear hfz38_3
    try clear hfz38_4
    try clear hfz38_5
    try clear hfz38_6
    try clear hfz38_7
    try clear hfz38_8
    try clear hfz39_0
    try clear hfz39_1
    try clear hfz39_2
    try clear hfz39_3
    try clear hfz39_4
    try clear hfz39_5
    try clear hfz39_6
    try clear hfz39_7
    try clear hfz39_8
    try clear hfz41_0
    try clear hfz41_1
    try clear hfz41_2
    try clear hfz41_3
    try clear hfz41_4
    try clear hfz41_5
    try clear hfz41_6
    try clear hfz41_7
    try clear hfz41_8
    try clear hfz42_0
    try clear hfz42_1
    try clear hfz42_2
    try clear hfz42_3
    try clear hfz42_4
    try clear hfz42_5
    try clear hfz42_6
    try clear hfz42_7
    try clear hfz42_8
    obtain ⟨kq, x82_2, rfl, HA, HJ2, BK143, BK144, HB⟩ := hcut
    cases kq with
    | zero => exact absurd HA.out (by simp [signalboxref1_Same.j0])
    | succ kj2 =>
      have H := HA.out; clear HA
      simp only [signalboxref1_Same.j0] at H
      by_cases c43 : x82_2 = true
      · subst c43; have H1 : (some false) = some r := by rw [if_pos rfl] at H; exact H
        clear H; have H := H1; clear H1; obtain rfl := Option.some.inj H
        go_wp2
        repeat (go_quiet (fail); try go_wp2)
        go_ret
        exact ⟨by first | rfl | (simp [errW_none, errW_some] <;> rfl) | (simp [*, errW_none, errW_some] <;> rfl), by repeat (first | (with_reducible first | exact HB.out | apply below_alloc | apply pw_below_drewN | apply below_drew1 | refine below_set ?_ GE143.out | refine below_set ?_ GE144.out) | exact HB.out)⟩
      · replace c43 := Bool.eq_false_iff.mpr c43; subst c43; have H1 : (signalboxref1_Same.l0 kj2 0 l0_0 l0_1 l0_2 a0_3 l0_4 l0_5 l0_6 l0_7 a0_8 l1_0 l1_1 l1_2 a1_3 l1_4 l1_5 l1_6 l1_7 a1_8) = some r := by rw [if_neg (show ¬ (false = true) by decide)] at H; exact H
        clear H; have H := H1; clear H1; have H' := Aside0.mk H
        clear H; go_wp2
        repeat (go_quiet (fail); try go_wp2)
        go_loopg [5] kj2 (fun kq v5 w' => ∃ (x5_2 : Int), v5 = .int .i64 x5_2 ∧ Aside0 (signalboxref1_Same.l0 kq x5_2 l0_0 l0_1 l0_2 a0_3 l0_4 l0_5 l0_6 l0_7 a0_8 l1_0 l1_1 l1_2 a1_3 l1_4 l1_5 l1_6 l1_7 a1_8 = some r) ∧ Aside0 (kq ≤ kj2) ∧ Aside0 (w'.heap[gb143]? = some (.cells #[(.slice A0_0 l0_0.length c0_0), (.slice A0_1 l0_1.length c0_1), (.slice A0_2 l0_2.length c0_2), .int .i64 a0_3, (.slice A0_4 l0_4.length c0_4), (.slice A0_5 l0_5.length c0_5), (.slice A0_6 l0_6.length c0_6), (.slice A0_7 l0_7.length c0_7), .int .i64 a0_8] 29 (0, 0))) ∧ Aside0 (w'.heap[gb144]? = some (.cells #[(.slice A1_0 l1_0.length c1_0), (.slice A1_1 l1_1.length c1_1), (.slice A1_2 l1_2.length c1_2), .int .i64 a1_3, (.slice A1_4 l1_4.length c1_4), (.slice A1_5 l1_5.length c1_5), (.slice A1_6 l1_6.length c1_6), (.slice A1_7 l1_7.length c1_7), .int .i64 a1_8] 29 (0, 0))) ∧ Aside0 (Below w.heap.size w w'))
        case atStart => exact ⟨(0), (by first | rfl | (simp; done) | (simp [*]; done)), H', ⟨Nat.le_refl _⟩, ⟨by (with_reducible repeat (first | refine blk_drewN ?_ _ | refine blk_drew ?_ | refine blk_alloc ?_ _)); exact BK143.out⟩, ⟨by (with_reducible repeat (first | refine blk_drewN ?_ _ | refine blk_drew ?_ | refine blk_alloc ?_ _)); exact BK144.out⟩, ⟨by repeat (first | (with_reducible first | exact HB.out | apply below_alloc | apply pw_below_drewN | apply below_drew1 | refine below_set ?_ GE143.out | refine below_set ?_ GE144.out) | exact HB.out)⟩⟩
        case round =>
          clear H'
          try clear c1
          try clear c2
          try clear p2
          try clear c3
          try clear c4
          try clear c6
          try clear c6b0
          try clear c6b1
          try clear c6b2
          try clear c7
          try clear c7b0
          try clear c7b1
          try clear c7b2
          try clear c8
          try clear c8b0
          try clear c8b1
          try clear c8b2
          try clear c9
          try clear c9b0
          try clear c9b1
          try clear c11
          try clear c13
          try clear c14
          try clear c14b0
          try clear c14b1
          try clear c14b2
          try clear c15
          try clear c15b0
          try clear c15b1
          try clear c15b2
          try clear c16
          try clear c19
          try clear c22
          try clear c25
          try clear c28
          try clear c31
          try clear c34
          try clear c37
          try clear c40
          try clear c43
          try clear hcz17_0
          try clear hcz17_1
          try clear hcz17_2
          try clear hcz17_3
          try clear hcz17_4
          try clear hcz17_5
          try clear hcz17_6
          try clear hcz17_7
          try clear hcz17_8
          try clear hcz18_0
          try clear hcz18_1
          try clear hcz18_2
          try clear hcz18_3
          try clear hcz18_4
          try clear hcz18_5
          try clear hcz18_6
          try clear hcz18_7
          try clear hcz18_8
          try clear hcz20_0
          try clear hcz20_1
          try clear hcz20_2
          try clear hcz20_3
          try clear hcz20_4
          try clear hcz20_5
          try clear hcz20_6
          try clear hcz20_7
          try clear hcz20_8
          try clear hcz21_0
          try clear hcz21_1
          try clear hcz21_2
          try clear hcz21_3
          try clear hcz21_4
          try clear hcz21_5
          try clear hcz21_6
          try clear hcz21_7
          try clear hcz21_8
          try clear hcz23_0
          try clear hcz23_1
          try clear hcz23_2
          try clear hcz23_3
          try clear hcz23_4
          try clear hcz23_5
          try clear hcz23_6
          try clear hcz23_7
          try clear hcz23_8
          try clear hcz24_0
          try clear hcz24_1
          try clear hcz24_2
          try clear hcz24_3
          try clear hcz24_4
          try clear hcz24_5
          try clear hcz24_6
          try clear hcz24_7
          try clear hcz24_8
          try clear hcz26_0
          try clear hcz26_1
          try clear hcz26_2
          try clear hcz26_3
          try clear hcz26_4
          try clear hcz26_5
          try clear hcz26_6
          try clear hcz26_7
          try clear hcz26_8
          try clear hcz27_0
          try clear hcz27_1
          try clear hcz27_2
          try clear hcz27_3
          try clear hcz27_4
          try clear hcz27_5
          try clear hcz27_6
          try clear hcz27_7
          try clear hcz27_8
          try clear hcz29_0
          try clear hcz29_1
          try clear hcz29_2
          try clear hcz29_3
          try clear hcz29_4
          try clear hcz29_5
          try clear hcz29_6
          try clear hcz29_7
          try clear hcz29_8
          try clear hcz30_0
          try clear hcz30_1
          try clear hcz30_2
          try clear hcz30_3
          try clear hcz30_4
          try clear hcz30_5
          try clear hcz30_6
          try clear hcz30_7
          try clear hcz30_8
          try clear hcz32_0
          try clear hcz32_1
          try clear hcz32_2
          try clear hcz32_3
          try clear hcz32_4
          try clear hcz32_5
          try clear hcz32_6
          try clear hcz32_7
          try clear hcz32_8
          try clear hcz33_0
          try clear hcz33_1
          try clear hcz33_2
          try clear hcz33_3
          try clear hcz33_4
          try clear hcz33_5
          try clear hcz33_6
          try clear hcz33_7
          try clear hcz33_8
          try clear hcz35_0
          try clear hcz35_1
          try clear hcz35_2
          try clear hcz35_3
          try clear hcz35_4
          try clear hcz35_5
          try clear hcz35_6
          try clear hcz35_7
          try clear hcz35_8
          try clear hcz36_0
          try clear hcz36_1
          try clear hcz36_2
          try clear hcz36_3
          try clear hcz36_4
          try clear hcz36_5
          try clear hcz36_6
          try clear hcz36_7
          try clear hcz36_8
          try clear hcz38_0
          try clear hcz38_1
          try clear hcz38_2
          try clear hcz38_3
          try clear hcz38_4
          try clear hcz38_5
          try clear hcz38_6
          try clear hcz38_7
          try clear hcz38_8
          try clear hcz39_0
          try clear hcz39_1
          try clear hcz39_2
          try clear hcz39_3
          try clear hcz39_4
          try clear hcz39_5
          try clear hcz39_6
          try clear hcz39_7
          try clear hcz39_8
          try clear hcz41_0
          try clear hcz41_1
          try clear hcz41_2
          try clear hcz41_3
          try clear hcz41_4
          try clear hcz41_5
          try clear hcz41_6
          try clear hcz41_7
          try clear hcz41_8
          try clear hcz42_0
          try clear hcz42_1
          try clear hcz42_2
          try clear hcz42_3
          try clear hcz42_4
          try clear hcz42_5
          try clear hcz42_6
          try clear hcz42_7
          try clear hcz42_8
          try clear hfz17_0
          try clear hfz17_1
          try clear hfz17_2
          try clear hfz17_3
          try clear hfz17_4
          try clear hfz17_5
          try clear hfz17_6
          try clear hfz17_7
          try clear hfz17_8
          try clear hfz18_0
          try clear hfz18_1
          try clear hfz18_2
          try clear hfz18_3
          try clear hfz18_4
          try clear hfz18_5
          try clear hfz18_6
          try clear hfz18_7
          try clear hfz18_8
          try clear hfz20_0
          try clear hfz20_1
          try clear hfz20_2
          try clear hfz20_3
          try clear hfz20_4
          try clear hfz20_5
          try clear hfz20_6
          try clear hfz20_7
          try clear hfz20_8
          try clear hfz21_0
          try clear hfz21_1
          try clear hfz21_2
          try clear hfz21_3
          try clear hfz21_4
          try clear hfz21_5
          try clear hfz21_6
          try clear hfz21_7
          try clear hfz21_8
          try clear hfz23_0
          try clear hfz23_1
          try clear hfz23_2
          try clear hfz23_3
          try clear hfz23_4
          try clear hfz23_5
          try clear hfz23_6
          try clear hfz23_7
          try clear hfz23_8
          try clear hfz24_0
          try clear hfz24_1
          try clear hfz24_2
          try clear hfz24_3
          try clear hfz24_4
          try clear hfz24_5
          try clear hfz24_6
          try clear hfz24_7
          try clear hfz24_8
          try clear hfz26_0
          try clear hfz26_1
          try clear hfz26_2
          try clear hfz26_3
          try clear hfz26_4
          try clear hfz26_5
          try clear hfz26_6
          try clear hfz26_7
          try clear hfz26_8
          try clear hfz27_0
          try clear hfz27_1
          try clear hfz27_2
          try clear hfz27_3
          try clear hfz27_4
          try clear hfz27_5
          try clear hfz27_6
          try clear hfz27_7
          try clear hfz27_8
          try clear hfz29_0
          try clear hfz29_1
          try clear hfz29_2
          try clear hfz29_3
          try clear hfz29_4
          try clear hfz29_5
          try clear hfz29_6
          try clear hfz29_7
          try clear hfz29_8
          try clear hfz30_0
          try clear hfz30_1
          try clear hfz30_2
          try clear hfz30_3
          try clear hfz30_4
          try clear hfz30_5
          try clear hfz30_6
          try clear hfz30_7
          try clear hfz30_8
          try clear hfz32_0
          try clear hfz32_1
          try clear hfz32_2
          try clear hfz32_3
          try clear hfz32_4
          try clear hfz32_5
          try clear hfz32_6
          try clear hfz32_7
          try clear hfz32_8
          try clear hfz33_0
          try clear hfz33_1
          try clear hfz33_2
          try clear hfz33_3
          try clear hfz33_4
          try clear hfz33_5
          try clear hfz33_6
          try clear hfz33_7
          try clear hfz33_8
          try clear hfz35_0
          try clear hfz35_1
          try clear hfz35_2
          try clear hfz35_3
          try clear hfz35_4
          try clear hfz35_5
          try clear hfz35_6
          try clear hfz35_7
          try clear hfz35_8
          try clear hfz36_0
          try clear hfz36_1
          try clear hfz36_2
          try clear hfz36_3
          try clear hfz36_4
          try clear hfz36_5
          try clear hfz36_6
          try clear hfz36_7
          try clear hfz36_8
          try clear hfz38_0
          try clear hfz38_1
          try clear hfz38_2
          try clear hfz38_3
          try clear hfz38_4
          try clear hfz38_5
          try clear hfz38_6
          try clear hfz38_7
          try clear hfz38_8
          try clear hfz39_0
          try clear hfz39_1
          try clear hfz39_2
          try clear hfz39_3
          try clear hfz39_4
          try clear hfz39_5
          try clear hfz39_6
          try clear hfz39_7
          try clear hfz39_8
          try clear hfz41_0
          try clear hfz41_1
          try clear hfz41_2
          try clear hfz41_3
          try clear hfz41_4
          try clear hfz41_5
          try clear hfz41_6
          try clear hfz41_7
          try clear hfz41_8
          try clear hfz42_0
          try clear hfz42_1
          try clear hfz42_2
          try clear hfz42_3
          try clear hfz42_4
          try clear hfz42_5
          try clear hfz42_6
          try clear hfz42_7
          try clear hfz42_8
          try clear p2
          obtain ⟨x5_2, rfl, HA, HK2, BK143, BK144, HB⟩ := hrel
          cases gk with
          | zero => exact absurd HA.out (by simp [signalboxref1_Same.l0])
          | succ k2 =>
            have H := HA.out; clear HA
            simp only [signalboxref1_Same.l0] at H
            by_cases c44 : x5_2 < (l0_0.length : Int)
            · rw [if_pos c44] at H
              have c44b0 : decide (x5_2 < (l0_0.length : Int)) = true := decide_eq_true c44; clear c44
              by_cases c45 : 0 ≤ x5_2
              case neg =>
                rw [if_neg c45] at H
                exact absurd H (by simp)
              rw [if_pos c45] at H
              have c45b0 : decide (0 ≤ x5_2) = true := decide_eq_true c45; clear c45
              by_cases c46 : x5_2 < (l1_0.length : Int)
              case neg =>
                rw [if_neg c46] at H
                exact absurd H (by simp)
              rw [if_pos c46] at H
              have c46b0 : decide (x5_2 < (l1_0.length : Int)) = true := decide_eq_true c46; clear c46
              by_cases c47 : (!(((rd_T44 l0_0 x5_2).f0) == ((rd_T44 l1_0 x5_2).f0)) || (!(((rd_T44 l0_0 x5_2).f1) == ((rd_T44 l1_0 x5_2).f1)) || (!(((rd_T44 l0_0 x5_2).f2) == ((rd_T44 l1_0 x5_2).f2))))) = true
              · rw [if_pos c47] at H
                have c47b0 : (!(((rd_T44 l0_0 x5_2).f0) == ((rd_T44 l1_0 x5_2).f0)) || (!(((rd_T44 l0_0 x5_2).f1) == ((rd_T44 l1_0 x5_2).f1)) || (!(((rd_T44 l0_0 x5_2).f2) == ((rd_T44 l1_0 x5_2).f2))))) = true := c47; clear c47; obtain rfl := Option.some.inj H
                have hnb48 := NB143_144.out; have hnc48 := NB144_143.out; have hcz49_0 : wr.cell? ⟨gb143, 0, none⟩ = some (.slice A0_0 l0_0.length c0_0) := (blk_cell BK143.out 0).trans rfl; have hcz49_1 : wr.cell? ⟨gb143, 1, none⟩ = some (.slice A0_1 l0_1.length c0_1) := (blk_cell BK143.out 1).trans rfl; have hcz49_2 : wr.cell? ⟨gb143, 2, none⟩ = some (.slice A0_2 l0_2.length c0_2) := (blk_cell BK143.out 2).trans rfl; have hcz49_3 : wr.cell? ⟨gb143, 3, none⟩ = some (.int .i64 a0_3) := (blk_cell BK143.out 3).trans rfl; have hcz49_4 : wr.cell? ⟨gb143, 4, none⟩ = some (.slice A0_4 l0_4.length c0_4) := (blk_cell BK143.out 4).trans rfl; have hcz49_5 : wr.cell? ⟨gb143, 5, none⟩ = some (.slice A0_5 l0_5.length c0_5) := (blk_cell BK143.out 5).trans rfl; have hcz49_6 : wr.cell? ⟨gb143, 6, none⟩ = some (.slice A0_6 l0_6.length c0_6) := (blk_cell BK143.out 6).trans rfl; have hcz49_7 : wr.cell? ⟨gb143, 7, none⟩ = some (.slice A0_7 l0_7.length c0_7) := (blk_cell BK143.out 7).trans rfl; have hcz49_8 : wr.cell? ⟨gb143, 8, none⟩ = some (.int .i64 a0_8) := (blk_cell BK143.out 8).trans rfl; have hfz49_0 := blk_frozen BK143.out 0; have hfz49_1 := blk_frozen BK143.out 1; have hfz49_2 := blk_frozen BK143.out 2; have hfz49_3 := blk_frozen BK143.out 3; have hfz49_4 := blk_frozen BK143.out 4; have hfz49_5 := blk_frozen BK143.out 5; have hfz49_6 := blk_frozen BK143.out 6; have hfz49_7 := blk_frozen BK143.out 7; have hfz49_8 := blk_frozen BK143.out 8; have p147 : 0 ≤ (x5_2 : Int) := of_decide_eq_true (by first | (with_reducible assumption) | assumption)
                have q147 : x5_2 < (l0_0.length : Int) := of_decide_eq_true (by first | (with_reducible assumption) | assumption)
                obtain ⟨ad147, e147, hx147_0, hx147_1, hx147_2⟩ := at_T44 HR0_0.out x5_2 p147 q147
                cases e147; replace hx147_0 := (HB.out.cell (World.block_lt_of_cell? w _ hx147_0)).trans hx147_0; replace hx147_1 := (HB.out.cell (World.block_lt_of_cell? w _ hx147_1)).trans hx147_1; replace hx147_2 := (HB.out.cell (World.block_lt_of_cell? w _ hx147_2)).trans hx147_2; replace p147 := eq_true p147; replace q147 := eq_true q147; have hcz50_0 : wr.cell? ⟨gb144, 0, none⟩ = some (.slice A1_0 l1_0.length c1_0) := (blk_cell BK144.out 0).trans rfl; have hcz50_1 : wr.cell? ⟨gb144, 1, none⟩ = some (.slice A1_1 l1_1.length c1_1) := (blk_cell BK144.out 1).trans rfl; have hcz50_2 : wr.cell? ⟨gb144, 2, none⟩ = some (.slice A1_2 l1_2.length c1_2) := (blk_cell BK144.out 2).trans rfl; have hcz50_3 : wr.cell? ⟨gb144, 3, none⟩ = some (.int .i64 a1_3) := (blk_cell BK144.out 3).trans rfl; have hcz50_4 : wr.cell? ⟨gb144, 4, none⟩ = some (.slice A1_4 l1_4.length c1_4) := (blk_cell BK144.out 4).trans rfl; have hcz50_5 : wr.cell? ⟨gb144, 5, none⟩ = some (.slice A1_5 l1_5.length c1_5) := (blk_cell BK144.out 5).trans rfl; have hcz50_6 : wr.cell? ⟨gb144, 6, none⟩ = some (.slice A1_6 l1_6.length c1_6) := (blk_cell BK144.out 6).trans rfl; have hcz50_7 : wr.cell? ⟨gb144, 7, none⟩ = some (.slice A1_7 l1_7.length c1_7) := (blk_cell BK144.out 7).trans rfl; have hcz50_8 : wr.cell? ⟨gb144, 8, none⟩ = some (.int .i64 a1_8) := (blk_cell BK144.out 8).trans rfl; have hfz50_0 := blk_frozen BK144.out 0; have hfz50_1 := blk_frozen BK144.out 1; have hfz50_2 := blk_frozen BK144.out 2; have hfz50_3 := blk_frozen BK144.out 3; have hfz50_4 := blk_frozen BK144.out 4; have hfz50_5 := blk_frozen BK144.out 5; have hfz50_6 := blk_frozen BK144.out 6; have hfz50_7 := blk_frozen BK144.out 7; have hfz50_8 := blk_frozen BK144.out 8; have p148 : 0 ≤ (x5_2 : Int) := of_decide_eq_true (by first | (with_reducible assumption) | assumption)
                have q148 : x5_2 < (l1_0.length : Int) := of_decide_eq_true (by first | (with_reducible assumption) | assumption)
                obtain ⟨ad148, e148, hx148_0, hx148_1, hx148_2⟩ := at_T44 HR1_0.out x5_2 p148 q148
                cases e148; replace hx148_0 := (HB.out.cell (World.block_lt_of_cell? w _ hx148_0)).trans hx148_0; replace hx148_1 := (HB.out.cell (World.block_lt_of_cell? w _ hx148_1)).trans hx148_1; replace hx148_2 := (HB.out.cell (World.block_lt_of_cell? w _ hx148_2)).trans hx148_2; replace p148 := eq_true p148; replace q148 := eq_true q148; go_wp2
                repeat (go_quiet (fail); try go_wp2)
                go_ret
                exact ⟨by first | rfl | (simp [errW_none, errW_some] <;> rfl) | (simp [*, errW_none, errW_some] <;> rfl), by repeat (first | (with_reducible first | exact HB.out | apply below_alloc | apply pw_below_drewN | apply below_drew1 | refine below_set ?_ GE143.out | refine below_set ?_ GE144.out) | exact HB.out)⟩
              · rw [if_neg c47] at H
                have c47b0 : (!(((rd_T44 l0_0 x5_2).f0) == ((rd_T44 l1_0 x5_2).f0)) || (!(((rd_T44 l0_0 x5_2).f1) == ((rd_T44 l1_0 x5_2).f1)) || (!(((rd_T44 l0_0 x5_2).f2) == ((rd_T44 l1_0 x5_2).f2))))) = false := by simpa using c47
                clear c47; have H' := Aside0.mk H
                clear H; have hnb51 := NB143_144.out; have hnc51 := NB144_143.out; have hcz52_0 : wr.cell? ⟨gb143, 0, none⟩ = some (.slice A0_0 l0_0.length c0_0) := (blk_cell BK143.out 0).trans rfl; have hcz52_1 : wr.cell? ⟨gb143, 1, none⟩ = some (.slice A0_1 l0_1.length c0_1) := (blk_cell BK143.out 1).trans rfl; have hcz52_2 : wr.cell? ⟨gb143, 2, none⟩ = some (.slice A0_2 l0_2.length c0_2) := (blk_cell BK143.out 2).trans rfl; have hcz52_3 : wr.cell? ⟨gb143, 3, none⟩ = some (.int .i64 a0_3) := (blk_cell BK143.out 3).trans rfl; have hcz52_4 : wr.cell? ⟨gb143, 4, none⟩ = some (.slice A0_4 l0_4.length c0_4) := (blk_cell BK143.out 4).trans rfl; have hcz52_5 : wr.cell? ⟨gb143, 5, none⟩ = some (.slice A0_5 l0_5.length c0_5) := (blk_cell BK143.out 5).trans rfl; have hcz52_6 : wr.cell? ⟨gb143, 6, none⟩ = some (.slice A0_6 l0_6.length c0_6) := (blk_cell BK143.out 6).trans rfl; have hcz52_7 : wr.cell? ⟨gb143, 7, none⟩ = some (.slice A0_7 l0_7.length c0_7) := (blk_cell BK143.out 7).trans rfl; have hcz52_8 : wr.cell? ⟨gb143, 8, none⟩ = some (.int .i64 a0_8) := (blk_cell BK143.out 8).trans rfl; have hfz52_0 := blk_frozen BK143.out 0; have hfz52_1 := blk_frozen BK143.out 1; have hfz52_2 := blk_frozen BK143.out 2; have hfz52_3 := blk_frozen BK143.out 3; have hfz52_4 := blk_frozen BK143.out 4; have hfz52_5 := blk_frozen BK143.out 5; have hfz52_6 := blk_frozen BK143.out 6; have hfz52_7 := blk_frozen BK143.out 7; have hfz52_8 := blk_frozen BK143.out 8; have p147 : 0 ≤ (x5_2 : Int) := of_decide_eq_true (by first | (with_reducible assumption) | assumption)
                have q147 : x5_2 < (l0_0.length : Int) := of_decide_eq_true (by first | (with_reducible assumption) | assumption)
                obtain ⟨ad147, e147, hx147_0, hx147_1, hx147_2⟩ := at_T44 HR0_0.out x5_2 p147 q147
                cases e147; replace hx147_0 := (HB.out.cell (World.block_lt_of_cell? w _ hx147_0)).trans hx147_0; replace hx147_1 := (HB.out.cell (World.block_lt_of_cell? w _ hx147_1)).trans hx147_1; replace hx147_2 := (HB.out.cell (World.block_lt_of_cell? w _ hx147_2)).trans hx147_2; replace p147 := eq_true p147; replace q147 := eq_true q147; have hcz53_0 : wr.cell? ⟨gb144, 0, none⟩ = some (.slice A1_0 l1_0.length c1_0) := (blk_cell BK144.out 0).trans rfl; have hcz53_1 : wr.cell? ⟨gb144, 1, none⟩ = some (.slice A1_1 l1_1.length c1_1) := (blk_cell BK144.out 1).trans rfl; have hcz53_2 : wr.cell? ⟨gb144, 2, none⟩ = some (.slice A1_2 l1_2.length c1_2) := (blk_cell BK144.out 2).trans rfl; have hcz53_3 : wr.cell? ⟨gb144, 3, none⟩ = some (.int .i64 a1_3) := (blk_cell BK144.out 3).trans rfl; have hcz53_4 : wr.cell? ⟨gb144, 4, none⟩ = some (.slice A1_4 l1_4.length c1_4) := (blk_cell BK144.out 4).trans rfl; have hcz53_5 : wr.cell? ⟨gb144, 5, none⟩ = some (.slice A1_5 l1_5.length c1_5) := (blk_cell BK144.out 5).trans rfl; have hcz53_6 : wr.cell? ⟨gb144, 6, none⟩ = some (.slice A1_6 l1_6.length c1_6) := (blk_cell BK144.out 6).trans rfl; have hcz53_7 : wr.cell? ⟨gb144, 7, none⟩ = some (.slice A1_7 l1_7.length c1_7) := (blk_cell BK144.out 7).trans rfl; have hcz53_8 : wr.cell? ⟨gb144, 8, none⟩ = some (.int .i64 a1_8) := (blk_cell BK144.out 8).trans rfl; have hfz53_0 := blk_frozen BK144.out 0; have hfz53_1 := blk_frozen BK144.out 1; have hfz53_2 := blk_frozen BK144.out 2; have hfz53_3 := blk_frozen BK144.out 3; have hfz53_4 := blk_frozen BK144.out 4; have hfz53_5 := blk_frozen BK144.out 5; have hfz53_6 := blk_frozen BK144.out 6; have hfz53_7 := blk_frozen BK144.out 7; have hfz53_8 := blk_frozen BK144.out 8; have p148 : 0 ≤ (x5_2 : Int) := of_decide_eq_true (by first | (with_reducible assumption) | assumption)
                have q148 : x5_2 < (l1_0.length : Int) := of_decide_eq_true (by first | (with_reducible assumption) | assumption)
                obtain ⟨ad148, e148, hx148_0, hx148_1, hx148_2⟩ := at_T44 HR1_0.out x5_2 p148 q148
                cases e148; replace hx148_0 := (HB.out.cell (World.block_lt_of_cell? w _ hx148_0)).trans hx148_0; replace hx148_1 := (HB.out.cell (World.block_lt_of_cell? w _ hx148_1)).trans hx148_1; replace hx148_2 := (HB.out.cell (World.block_lt_of_cell? w _ hx148_2)).trans hx148_2; replace p148 := eq_true p148; replace q148 := eq_true q148; go_wp2
                repeat (go_quiet (fail); try go_wp2)
                go_roundg k2
                case measure => have := HJ2.out; have := HK2.out; omega
                case rel => exact ⟨(wrap64 (x5_2 + 1)), (by first | rfl | (simp; done) | (simp [*]; done)), H', ⟨by have := HJ2.out; have := HK2.out; omega⟩, ⟨by (with_reducible repeat (first | refine blk_drewN ?_ _ | refine blk_drew ?_ | refine blk_alloc ?_ _)); exact BK143.out⟩, ⟨by (with_reducible repeat (first | refine blk_drewN ?_ _ | refine blk_drew ?_ | refine blk_alloc ?_ _)); exact BK144.out⟩, ⟨by repeat (first | (with_reducible first | exact HB.out | apply below_alloc | apply pw_below_drewN | apply below_drew1 | refine below_set ?_ GE143.out | refine below_set ?_ GE144.out) | exact HB.out)⟩⟩
            · rw [if_neg c44] at H
              have c44b0 : decide (x5_2 < (l0_0.length : Int)) = false := decide_eq_false c44; clear c44; have H' := Aside0.mk H
              clear H; have hnb54 := NB143_144.out; have hnc54 := NB144_143.out; have hcz55_0 : wr.cell? ⟨gb143, 0, none⟩ = some (.slice A0_0 l0_0.length c0_0) := (blk_cell BK143.out 0).trans rfl; have hcz55_1 : wr.cell? ⟨gb143, 1, none⟩ = some (.slice A0_1 l0_1.length c0_1) := (blk_cell BK143.out 1).trans rfl; have hcz55_2 : wr.cell? ⟨gb143, 2, none⟩ = some (.slice A0_2 l0_2.length c0_2) := (blk_cell BK143.out 2).trans rfl; have hcz55_3 : wr.cell? ⟨gb143, 3, none⟩ = some (.int .i64 a0_3) := (blk_cell BK143.out 3).trans rfl; have hcz55_4 : wr.cell? ⟨gb143, 4, none⟩ = some (.slice A0_4 l0_4.length c0_4) := (blk_cell BK143.out 4).trans rfl; have hcz55_5 : wr.cell? ⟨gb143, 5, none⟩ = some (.slice A0_5 l0_5.length c0_5) := (blk_cell BK143.out 5).trans rfl; have hcz55_6 : wr.cell? ⟨gb143, 6, none⟩ = some (.slice A0_6 l0_6.length c0_6) := (blk_cell BK143.out 6).trans rfl; have hcz55_7 : wr.cell? ⟨gb143, 7, none⟩ = some (.slice A0_7 l0_7.length c0_7) := (blk_cell BK143.out 7).trans rfl; have hcz55_8 : wr.cell? ⟨gb143, 8, none⟩ = some (.int .i64 a0_8) := (blk_cell BK143.out 8).trans rfl; have hfz55_0 := blk_frozen BK143.out 0; have hfz55_1 := blk_frozen BK143.out 1; have hfz55_2 := blk_frozen BK143.out 2; have hfz55_3 := blk_frozen BK143.out 3; have hfz55_4 := blk_frozen BK143.out 4; have hfz55_5 := blk_frozen BK143.out 5; have hfz55_6 := blk_frozen BK143.out 6; have hfz55_7 := blk_frozen BK143.out 7; have hfz55_8 := blk_frozen BK143.out 8; go_wp2
              repeat (go_quiet (fail); try go_wp2)
              go_loopg [6] k2 (fun kq v6 w' => ∃ (x6_3 : Int), v6 = .int .i64 x6_3 ∧ Aside0 (signalboxref1_Same.l1 kq x6_3 l0_0 l0_1 l0_2 a0_3 l0_4 l0_5 l0_6 l0_7 a0_8 l1_0 l1_1 l1_2 a1_3 l1_4 l1_5 l1_6 l1_7 a1_8 = some r) ∧ Aside0 (kq ≤ k2) ∧ Aside0 (w'.heap[gb143]? = some (.cells #[(.slice A0_0 l0_0.length c0_0), (.slice A0_1 l0_1.length c0_1), (.slice A0_2 l0_2.length c0_2), .int .i64 a0_3, (.slice A0_4 l0_4.length c0_4), (.slice A0_5 l0_5.length c0_5), (.slice A0_6 l0_6.length c0_6), (.slice A0_7 l0_7.length c0_7), .int .i64 a0_8] 29 (0, 0))) ∧ Aside0 (w'.heap[gb144]? = some (.cells #[(.slice A1_0 l1_0.length c1_0), (.slice A1_1 l1_1.length c1_1), (.slice A1_2 l1_2.length c1_2), .int .i64 a1_3, (.slice A1_4 l1_4.length c1_4), (.slice A1_5 l1_5.length c1_5), (.slice A1_6 l1_6.length c1_6), (.slice A1_7 l1_7.length c1_7), .int .i64 a1_8] 29 (0, 0))) ∧ Aside0 (Below w.heap.size w w'))
              case atStart => exact ⟨(0), (by first | rfl | (simp; done) | (simp [*]; done)), H', ⟨Nat.le_refl _⟩, ⟨by (with_reducible repeat (first | refine blk_drewN ?_ _ | refine blk_drew ?_ | refine blk_alloc ?_ _)); exact BK143.out⟩, ⟨by (with_reducible repeat (first | refine blk_drewN ?_ _ | refine blk_drew ?_ | refine blk_alloc ?_ _)); exact BK144.out⟩, ⟨by repeat (first | (with_reducible first | exact HB.out | apply below_alloc | apply pw_below_drewN | apply below_drew1 | refine below_set ?_ GE143.out | refine below_set ?_ GE144.out) | exact HB.out)⟩⟩
              case round =>
                clear H'
                try clear c1
                try clear p1
                try clear q1
                try clear hx1
                try clear c2
                try clear p2
                try clear c3
                try clear c4
                try clear c5
                try clear c6
                try clear c6b0
                try clear c6b1
                try clear c6b2
                try clear p6
                try clear c7
                try clear c7b0
                try clear c7b1
                try clear c7b2
                try clear c8
                try clear c8b0
                try clear c8b1
                try clear c8b2
                try clear c9
                try clear c9b0
                try clear c9b1
                try clear c11
                try clear c13
                try clear c14
                try clear c14b0
                try clear c14b1
                try clear c14b2
                try clear p14
                try clear q14
                try clear hx14
                try clear c15
                try clear c15b0
                try clear c15b1
                try clear c15b2
                try clear c16
                try clear c19
                try clear c22
                try clear c25
                try clear c28
                try clear c31
                try clear c34
                try clear c37
                try clear c40
                try clear c43
                try clear c44
                try clear c44b0
                try clear c45
                try clear c45b0
                try clear c46
                try clear c46b0
                try clear c47
                try clear c47b0
                try clear c48
                try clear c51
                try clear c54
                try clear hcz17_0
                try clear hcz17_1
                try clear hcz17_2
                try clear hcz17_3
                try clear hcz17_4
                try clear hcz17_5
                try clear hcz17_6
                try clear hcz17_7
                try clear hcz17_8
                try clear hcz18_0
                try clear hcz18_1
                try clear hcz18_2
                try clear hcz18_3
                try clear hcz18_4
                try clear hcz18_5
                try clear hcz18_6
                try clear hcz18_7
                try clear hcz18_8
                try clear hcz20_0
                try clear hcz20_1
                try clear hcz20_2
                try clear hcz20_3
                try clear hcz20_4
                try clear hcz20_5
                try clear hcz20_6
                try clear hcz20_7
                try clear hcz20_8
                try clear hcz21_0
                try clear hcz21_1
                try clear hcz21_2
                try clear hcz21_3
                try clear hcz21_4
                try clear hcz21_5
                try clear hcz21_6
                try clear hcz21_7
                try clear hcz21_8
                try clear hcz23_0
                try clear hcz23_1
                try clear hcz23_2
                try clear hcz23_3
                try clear hcz23_4
                try clear hcz23_5
                try clear hcz23_6
                try clear hcz23_7
                try clear hcz23_8
                try clear hcz24_0
                try clear hcz24_1
                try clear hcz24_2
                try clear hcz24_3
                try clear hcz24_4
                try clear hcz24_5
                try clear hcz24_6
                try clear hcz24_7
                try clear hcz24_8
                try clear hcz26_0
                try clear hcz26_1
                try clear hcz26_2
                try clear hcz26_3
                try clear hcz26_4
                try clear hcz26_5
                try clear hcz26_6
                try clear hcz26_7
                try clear hcz26_8
                try clear hcz27_0
                try clear hcz27_1
                try clear hcz27_2
                try clear hcz27_3
                try clear hcz27_4
                try clear hcz27_5
                try clear hcz27_6
                try clear hcz27_7
                try clear hcz27_8
                try clear hcz29_0
                try clear hcz29_1
                try clear hcz29_2
                try clear hcz29_3
                try clear hcz29_4
                try clear hcz29_5
                try clear hcz29_6
                try clear hcz29_7
                try clear hcz29_8
                try clear hcz30_0
                try clear hcz30_1
                try clear hcz30_2
                try clear hcz30_3
                try clear hcz30_4
                try clear hcz30_5
                try clear hcz30_6
                try clear hcz30_7
                try clear hcz30_8
                try clear hcz32_0
                try clear hcz32_1
                try clear hcz32_2
                try clear hcz32_3
                try clear hcz32_4
                try clear hcz32_5
                try clear hcz32_6
                try clear hcz32_7
                try clear hcz32_8
                try clear hcz33_0
                try clear hcz33_1
                try clear hcz33_2
                try clear hcz33_3
                try clear hcz33_4
                try clear hcz33_5
                try clear hcz33_6
                try clear hcz33_7
                try clear hcz33_8
                try clear hcz35_0
                try clear hcz35_1
                try clear hcz35_2
                try clear hcz35_3
                try clear hcz35_4
                try clear hcz35_5
                try clear hcz35_6
                try clear hcz35_7
                try clear hcz35_8
                try clear hcz36_0
                try clear hcz36_1
                try clear hcz36_2
                try clear hcz36_3
                try clear hcz36_4
                try clear hcz36_5
                try clear hcz36_6
                try clear hcz36_7
                try clear hcz36_8
                try clear hcz38_0
                try clear hcz38_1
                try clear hcz38_2
                try clear hcz38_3
                try clear hcz38_4
                try clear hcz38_5
                try clear hcz38_6
                try clear hcz38_7
                try clear hcz38_8
                try clear hcz39_0
                try clear hcz39_1
                try clear hcz39_2
                try clear hcz39_3
                try clear hcz39_4
                try clear hcz39_5
                try clear hcz39_6
                try clear hcz39_7
                try clear hcz39_8
                try clear hcz41_0
                try clear hcz41_1
                try clear hcz41_2
                try clear hcz41_3
                try clear hcz41_4
                try clear hcz41_5
                try clear hcz41_6
                try clear hcz41_7
                try clear hcz41_8
                try clear hcz42_0
                try clear hcz42_1
                try clear hcz42_2
                try clear hcz42_3
                try clear hcz42_4
                try clear hcz42_5
                try clear hcz42_6
                try clear hcz42_7
                try clear hcz42_8
                try clear hcz49_0
                try clear hcz49_1
                try clear hcz49_2
                try clear hcz49_3
                try clear hcz49_4
                try clear hcz49_5
                try clear hcz49_6
                try clear hcz49_7
                try clear hcz49_8
                try clear hcz50_0
                try clear hcz50_1
                try clear hcz50_2
                try clear hcz50_3
                try clear hcz50_4
                try clear hcz50_5
                try clear hcz50_6
                try clear hcz50_7
                try clear hcz50_8
                try clear hcz52_0
                try clear hcz52_1
                try clear hcz52_2
                try clear hcz52_3
                try clear hcz52_4
                try clear hcz52_5
                try clear hcz52_6
                try clear hcz52_7
                try clear hcz52_8
                try clear hcz53_0
                try clear hcz53_1
                try clear hcz53_2
                try clear hcz53_3
                try clear hcz53_4
                try clear hcz53_5
                try clear hcz53_6
                try clear hcz53_7
                try clear hcz53_8
                try clear hcz55_0
                try clear hcz55_1
                try clear hcz55_2
                try clear hcz55_3
                try clear hcz55_4
                try clear hcz55_5
                try clear hcz55_6
                try clear hcz55_7
                try clear hcz55_8
                try clear hfz17_0
                try clear hfz17_1
                try clear hfz17_2
                try clear hfz17_3
                try clear hfz17_4
                try clear hfz17_5
                try clear hfz17_6
                try clear hfz17_7
                try clear hfz17_8
                try clear hfz18_0
                try clear hfz18_1
                try clear hfz18_2
                try clear hfz18_3
                try clear hfz18_4
                try clear hfz18_5
                try clear hfz18_6
                try clear hfz18_7
                try clear hfz18_8
                try clear hfz20_0
                try clear hfz20_1
                try clear hfz20_2
                try clear hfz20_3
                try clear hfz20_4
                try clear hfz20_5
                try clear hfz20_6
                try clear hfz20_7
                try clear hfz20_8
                try clear hfz21_0
                try clear hfz21_1
                try clear hfz21_2
                try clear hfz21_3
                try clear hfz21_4
                try clear hfz21_5
                try clear hfz21_6
                try clear hfz21_7
                try clear hfz21_8
                try clear hfz23_0
                try clear hfz23_1
                try clear hfz23_2
                try clear hfz23_3
                try clear hfz23_4
                try clear hfz23_5
                try clear hfz23_6
                try clear hfz23_7
                try clear hfz23_8
                try clear hfz24_0
                try clear hfz24_1
                try clear hfz24_2
                try clear hfz24_3
                try clear hfz24_4
                try clear hfz24_5
                try clear hfz24_6
                try clear hfz24_7
                try clear hfz24_8
                try clear hfz26_0
                try clear hfz26_1
                try clear hfz26_2
                try clear hfz26_3
                try clear hfz26_4
                try clear hfz26_5
                try clear hfz26_6
                try clear hfz26_7
                try clear hfz26_8
                try clear hfz27_0
                try clear hfz27_1
                try clear hfz27_2
                try clear hfz27_3
                try clear hfz27_4
                try clear hfz27_5
                try clear hfz27_6
                try clear hfz27_7
                try clear hfz27_8
                try clear hfz29_0
                try clear hfz29_1
                try clear hfz29_2
                try clear hfz29_3
                try clear hfz29_4
                try clear hfz29_5
                try clear hfz29_6
                try clear hfz29_7
                try clear hfz29_8
                try clear hfz30_0
                try clear hfz30_1
                try clear hfz30_2
                try clear hfz30_3
                try clear hfz30_4
                try clear hfz30_5
                try clear hfz30_6
                try clear hfz30_7
                try clear hfz30_8
                try clear hfz32_0
                try clear hfz32_1
                try clear hfz32_2
                try clear hfz32_3
                try clear hfz32_4
                try clear hfz32_5
                try clear hfz32_6
                try clear hfz32_7
                try clear hfz32_8
                try clear hfz33_0
                try clear hfz33_1
                try clear hfz33_2
                try clear hfz33_3
                try clear hfz33_4
                try clear hfz33_5
                try clear hfz33_6
                try clear hfz33_7
                try clear hfz33_8
                try clear hfz35_0
                try clear hfz35_1
                try clear hfz35_2
                try clear hfz35_3
                try clear hfz35_4
                try clear hfz35_5
                try clear hfz35_6
                try clear hfz35_7
                try clear hfz35_8
                try clear hfz36_0
                try clear hfz36_1
                try clear hfz36_2
                try clear hfz36_3
                try clear hfz36_4
                try clear hfz36_5
                try clear hfz36_6
                try clear hfz36_7
                try clear hfz36_8
                try clear hfz38_0
                try clear hfz38_1
                try clear hfz38_2
                try clear hfz38_3
                try clear hfz38_4
                try clear hfz38_5
                try clear hfz38_6
                try clear hfz38_7
                try clear hfz38_8
                try clear hfz39_0
                try clear hfz39_1
                try clear hfz39_2
                try clear hfz39_3
                try clear hfz39_4
                try clear hfz39_5
                try clear hfz39_6
                try clear hfz39_7
                try clear hfz39_8
                try clear hfz41_0
                try clear hfz41_1
                try clear hfz41_2
                try clear hfz41_3
                try clear hfz41_4
                try clear hfz41_5
                try clear hfz41_6
                try clear hfz41_7
                try clear hfz41_8
                try clear hfz42_0
                try clear hfz42_1
                try clear hfz42_2
                try clear hfz42_3
                try clear hfz42_4
                try clear hfz42_5
                try clear hfz42_6
                try clear hfz42_7
                try clear hfz42_8
                try clear hfz49_0
                try clear hfz49_1
                try clear hfz49_2
                try clear hfz49_3
                try clear hfz49_4
                try clear hfz49_5
                try clear hfz49_6
                try clear hfz49_7
                try clear hfz49_8
                try clear hfz50_0
                try clear hfz50_1
                try clear hfz50_2
                try clear hfz50_3
                try clear hfz50_4
                try clear hfz50_5
                try clear hfz50_6
                try clear hfz50_7
                try clear hfz50_8
                try clear hfz52_0
                try clear hfz52_1
                try clear hfz52_2
                try clear hfz52_3
                try clear hfz52_4
                try clear hfz52_5
                try clear hfz52_6
                try clear hfz52_7
                try clear hfz52_8
                try clear hfz53_0
                try clear hfz53_1
                try clear hfz53_2
                try clear hfz53_3
                try clear hfz53_4
                try clear hfz53_5
                try clear hfz53_6
                try clear hfz53_7
                try clear hfz53_8
                try clear hfz55_0
                try clear hfz55_1
                try clear hfz55_2
                try clear hfz55_3
                try clear hfz55_4
                try clear hfz55_5
                try clear hfz55_6
                try clear hfz55_7
                try clear hfz55_8
                try clear hx147_0
                try clear hx147_1
                try clear hx147_2
                try clear hx148_0
                try clear hx148_1
                try clear hx148_2
                try clear p147
                try clear p148
                try clear p2
                try clear q147
                try clear q148
                obtain ⟨x6_3, rfl, HA, HK3, BK143, BK144, HB⟩ := hrel
                cases gk with
                | zero => exact absurd HA.out (by simp [signalboxref1_Same.l1])
                | succ k3 =>
                  have H := HA.out; clear HA
                  simp only [signalboxref1_Same.l1] at H
                  by_cases c56 : x6_3 < (l0_1.length : Int)
                  · rw [if_pos c56] at H
                    have c56b0 : decide (x6_3 < (l0_1.length : Int)) = true := decide_eq_true c56; clear c56
                    by_cases c57 : 0 ≤ x6_3
                    case neg =>
                      rw [if_neg c57] at H
                      exact absurd H (by simp)
                    rw [if_pos c57] at H
                    have c57b0 : decide (0 ≤ x6_3) = true := decide_eq_true c57; clear c57
                    by_cases c58 : x6_3 < (l1_1.length : Int)
                    case neg =>
                      rw [if_neg c58] at H
                      exact absurd H (by simp)
                    rw [if_pos c58] at H
                    have c58b0 : decide (x6_3 < (l1_1.length : Int)) = true := decide_eq_true c58; clear c58
                    by_cases c59 : (!(((rd_T46 l0_1 x6_3).f0) == ((rd_T46 l1_1 x6_3).f0)) || (!(((rd_T46 l0_1 x6_3).f1) == ((rd_T46 l1_1 x6_3).f1)) || (!(((rd_T46 l0_1 x6_3).f2) == ((rd_T46 l1_1 x6_3).f2))))) = true
                    · rw [if_pos c59] at H
                      have c59b0 : (!(((rd_T46 l0_1 x6_3).f0) == ((rd_T46 l1_1 x6_3).f0)) || (!(((rd_T46 l0_1 x6_3).f1) == ((rd_T46 l1_1 x6_3).f1)) || (!(((rd_T46 l0_1 x6_3).f2) == ((rd_T46 l1_1 x6_3).f2))))) = true := c59; clear c59; obtain rfl := Option.some.inj H
                      have hnb60 := NB143_144.out; have hnc60 := NB144_143.out; have hcz61_0 : wr.cell? ⟨gb143, 0, none⟩ = some (.slice A0_0 l0_0.length c0_0) := (blk_cell BK143.out 0).trans rfl; have hcz61_1 : wr.cell? ⟨gb143, 1, none⟩ = some (.slice A0_1 l0_1.length c0_1) := (blk_cell BK143.out 1).trans rfl; have hcz61_2 : wr.cell? ⟨gb143, 2, none⟩ = some (.slice A0_2 l0_2.length c0_2) := (blk_cell BK143.out 2).trans rfl; have hcz61_3 : wr.cell? ⟨gb143, 3, none⟩ = some (.int .i64 a0_3) := (blk_cell BK143.out 3).trans rfl; have hcz61_4 : wr.cell? ⟨gb143, 4, none⟩ = some (.slice A0_4 l0_4.length c0_4) := (blk_cell BK143.out 4).trans rfl; have hcz61_5 : wr.cell? ⟨gb143, 5, none⟩ = some (.slice A0_5 l0_5.length c0_5) := (blk_cell BK143.out 5).trans rfl; have hcz61_6 : wr.cell? ⟨gb143, 6, none⟩ = some (.slice A0_6 l0_6.length c0_6) := (blk_cell BK143.out 6).trans rfl; have hcz61_7 : wr.cell? ⟨gb143, 7, none⟩ = some (.slice A0_7 l0_7.length c0_7) := (blk_cell BK143.out 7).trans rfl; have hcz61_8 : wr.cell? ⟨gb143, 8, none⟩ = some (.int .i64 a0_8) := (blk_cell BK143.out 8).trans rfl; have hfz61_0 := blk_frozen BK143.out 0; have hfz61_1 := blk_frozen BK143.out 1; have hfz61_2 := blk_frozen BK143.out 2; have hfz61_3 := blk_frozen BK143.out 3; have hfz61_4 := blk_frozen BK143.out 4; have hfz61_5 := blk_frozen BK143.out 5; have hfz61_6 := blk_frozen BK143.out 6; have hfz61_7 := blk_frozen BK143.out 7; have hfz61_8 := blk_frozen BK143.out 8; have p149 : 0 ≤ (x6_3 : Int) := of_decide_eq_true (by first | (with_reducible assumption) | assumption)
                      have q149 : x6_3 < (l0_1.length : Int) := of_decide_eq_true (by first | (with_reducible assumption) | assumption)
                      obtain ⟨ad149, e149, hx149_0, hx149_1, hx149_2⟩ := at_T46 HR0_1.out x6_3 p149 q149
                      cases e149; replace hx149_0 := (HB.out.cell (World.block_lt_of_cell? w _ hx149_0)).trans hx149_0; replace hx149_1 := (HB.out.cell (World.block_lt_of_cell? w _ hx149_1)).trans hx149_1; replace hx149_2 := (HB.out.cell (World.block_lt_of_cell? w _ hx149_2)).trans hx149_2; replace p149 := eq_true p149; replace q149 := eq_true q149; have hcz62_0 : wr.cell? ⟨gb144, 0, none⟩ = some (.slice A1_0 l1_0.length c1_0) := (blk_cell BK144.out 0).trans rfl; have hcz62_1 : wr.cell? ⟨gb144, 1, none⟩ = some (.slice A1_1 l1_1.length c1_1) := (blk_cell BK144.out 1).trans rfl; have hcz62_2 : wr.cell? ⟨gb144, 2, none⟩ = some (.slice A1_2 l1_2.length c1_2) := (blk_cell BK144.out 2).trans rfl; have hcz62_3 : wr.cell? ⟨gb144, 3, none⟩ = some (.int .i64 a1_3) := (blk_cell BK144.out 3).trans rfl; have hcz62_4 : wr.cell? ⟨gb144, 4, none⟩ = some (.slice A1_4 l1_4.length c1_4) := (blk_cell BK144.out 4).trans rfl; have hcz62_5 : wr.cell? ⟨gb144, 5, none⟩ = some (.slice A1_5 l1_5.length c1_5) := (blk_cell BK144.out 5).trans rfl; have hcz62_6 : wr.cell? ⟨gb144, 6, none⟩ = some (.slice A1_6 l1_6.length c1_6) := (blk_cell BK144.out 6).trans rfl; have hcz62_7 : wr.cell? ⟨gb144, 7, none⟩ = some (.slice A1_7 l1_7.length c1_7) := (blk_cell BK144.out 7).trans rfl; have hcz62_8 : wr.cell? ⟨gb144, 8, none⟩ = some (.int .i64 a1_8) := (blk_cell BK144.out 8).trans rfl; have hfz62_0 := blk_frozen BK144.out 0; have hfz62_1 := blk_frozen BK144.out 1; have hfz62_2 := blk_frozen BK144.out 2; have hfz62_3 := blk_frozen BK144.out 3; have hfz62_4 := blk_frozen BK144.out 4; have hfz62_5 := blk_frozen BK144.out 5; have hfz62_6 := blk_frozen BK144.out 6; have hfz62_7 := blk_frozen BK144.out 7; have hfz62_8 := blk_frozen BK144.out 8; have p150 : 0 ≤ (x6_3 : Int) := of_decide_eq_true (by first | (with_reducible assumption) | assumption)
                      have q150 : x6_3 < (l1_1.length : Int) := of_decide_eq_true (by first | (with_reducible assumption) | assumption)
                      obtain ⟨ad150, e150, hx150_0, hx150_1, hx150_2⟩ := at_T46 HR1_1.out x6_3 p150 q150
                      cases e150; replace hx150_0 := (HB.out.cell (World.block_lt_of_cell? w _ hx150_0)).trans hx150_0; replace hx150_1 := (HB.out.cell (World.block_lt_of_cell? w _ hx150_1)).trans hx150_1; replace hx150_2 := (HB.out.cell (World.block_lt_of_cell? w _ hx150_2)).trans hx150_2; replace p150 := eq_true p150; replace q150 := eq_true q150; go_wp2
                      repeat (go_quiet (fail); try go_wp2)
                      go_ret
                      exact ⟨by first | rfl | (simp [errW_none, errW_some] <;> rfl) | (simp [*, errW_none, errW_some] <;> rfl), by repeat (first | (with_reducible first | exact HB.out | apply below_alloc | apply pw_below_drewN | apply below_drew1 | refine below_set ?_ GE143.out | refine below_set ?_ GE144.out) | exact HB.out)⟩
                    · rw [if_neg c59] at H
                      have c59b0 : (!(((rd_T46 l0_1 x6_3).f0) == ((rd_T46 l1_1 x6_3).f0)) || (!(((rd_T46 l0_1 x6_3).f1) == ((rd_T46 l1_1 x6_3).f1)) || (!(((rd_T46 l0_1 x6_3).f2) == ((rd_T46 l1_1 x6_3).f2))))) = false := by simpa using c59
                      clear c59; have H' := Aside0.mk H
                      clear H; have hnb63 := NB143_144.out; have hnc63 := NB144_143.out; have hcz64_0 : wr.cell? ⟨gb143, 0, none⟩ = some (.slice A0_0 l0_0.length c0_0) := (blk_cell BK143.out 0).trans rfl; have hcz64_1 : wr.cell? ⟨gb143, 1, none⟩ = some (.slice A0_1 l0_1.length c0_1) := (blk_cell BK143.out 1).trans rfl; have hcz64_2 : wr.cell? ⟨gb143, 2, none⟩ = some (.slice A0_2 l0_2.length c0_2) := (blk_cell BK143.out 2).trans rfl; have hcz64_3 : wr.cell? ⟨gb143, 3, none⟩ = some (.int .i64 a0_3) := (blk_cell BK143.out 3).trans rfl; have hcz64_4 : wr.cell? ⟨gb143, 4, none⟩ = some (.slice A0_4 l0_4.length c0_4) := (blk_cell BK143.out 4).trans rfl; have hcz64_5 : wr.cell? ⟨gb143, 5, none⟩ = some (.slice A0_5 l0_5.length c0_5) := (blk_cell BK143.out 5).trans rfl; have hcz64_6 : wr.cell? ⟨gb143, 6, none⟩ = some (.slice A0_6 l0_6.length c0_6) := (blk_cell BK143.out 6).trans rfl; have hcz64_7 : wr.cell? ⟨gb143, 7, none⟩ = some (.slice A0_7 l0_7.length c0_7) := (blk_cell BK143.out 7).trans rfl; have hcz64_8 : wr.cell? ⟨gb143, 8, none⟩ = some (.int .i64 a0_8) := (blk_cell BK143.out 8).trans rfl; have hfz64_0 := blk_frozen BK143.out 0; have hfz64_1 := blk_frozen BK143.out 1; have hfz64_2 := blk_frozen BK143.out 2; have hfz64_3 := blk_frozen BK143.out 3; have hfz64_4 := blk_frozen BK143.out 4; have hfz64_5 := blk_frozen BK143.out 5; have hfz64_6 := blk_frozen BK143.out 6; have hfz64_7 := blk_frozen BK143.out 7; have hfz64_8 := blk_frozen BK143.out 8; have p149 : 0 ≤ (x6_3 : Int) := of_decide_eq_true (by first | (with_reducible assumption) | assumption)
                      have q149 : x6_3 < (l0_1.length : Int) := of_decide_eq_true (by first | (with_reducible assumption) | assumption)
                      obtain ⟨ad149, e149, hx149_0, hx149_1, hx149_2⟩ := at_T46 HR0_1.out x6_3 p149 q149
                      cases e149; replace hx149_0 := (HB.out.cell (World.block_lt_of_cell? w _ hx149_0)).trans hx149_0; replace hx149_1 := (HB.out.cell (World.block_lt_of_cell? w _ hx149_1)).trans hx149_1; replace hx149_2 := (HB.out.cell (World.block_lt_of_cell? w _ hx149_2)).trans hx149_2; replace p149 := eq_true p149; replace q149 := eq_true q149; have hcz65_0 : wr.cell? ⟨gb144, 0, none⟩ = some (.slice A1_0 l1_0.length c1_0) := (blk_cell BK144.out 0).trans rfl; have hcz65_1 : wr.cell? ⟨gb144, 1, none⟩ = some (.slice A1_1 l1_1.length c1_1) := (blk_cell BK144.out 1).trans rfl; have hcz65_2 : wr.cell? ⟨gb144, 2, none⟩ = some (.slice A1_2 l1_2.length c1_2) := (blk_cell BK144.out 2).trans rfl; have hcz65_3 : wr.cell? ⟨gb144, 3, none⟩ = some (.int .i64 a1_3) := (blk_cell BK144.out 3).trans rfl; have hcz65_4 : wr.cell? ⟨gb144, 4, none⟩ = some (.slice A1_4 l1_4.length c1_4) := (blk_cell BK144.out 4).trans rfl; have hcz65_5 : wr.cell? ⟨gb144, 5, none⟩ = some (.slice A1_5 l1_5.length c1_5) := (blk_cell BK144.out 5).trans rfl; have hcz65_6 : wr.cell? ⟨gb144, 6, none⟩ = some (.slice A1_6 l1_6.length c1_6) := (blk_cell BK144.out 6).trans rfl; have hcz65_7 : wr.cell? ⟨gb144, 7, none⟩ = some (.slice A1_7 l1_7.length c1_7) := (blk_cell BK144.out 7).trans rfl; have hcz65_8 : wr.cell? ⟨gb144, 8, none⟩ = some (.int .i64 a1_8) := (blk_cell BK144.out 8).trans rfl; have hfz65_0 := blk_frozen BK144.out 0; have hfz65_1 := blk_frozen BK144.out 1; have hfz65_2 := blk_frozen BK144.out 2; have hfz65_3 := blk_frozen BK144.out 3; have hfz65_4 := blk_frozen BK144.out 4; have hfz65_5 := blk_frozen BK144.out 5; have hfz65_6 := blk_frozen BK144.out 6; have hfz65_7 := blk_frozen BK144.out 7; have hfz65_8 := blk_frozen BK144.out 8; have p150 : 0 ≤ (x6_3 : Int) := of_decide_eq_true (by first | (with_reducible assumption) | assumption)
                      have q150 : x6_3 < (l1_1.length : Int) := of_decide_eq_true (by first | (with_reducible assumption) | assumption)
                      obtain ⟨ad150, e150, hx150_0, hx150_1, hx150_2⟩ := at_T46 HR1_1.out x6_3 p150 q150
                      cases e150; replace hx150_0 := (HB.out.cell (World.block_lt_of_cell? w _ hx150_0)).trans hx150_0; replace hx150_1 := (HB.out.cell (World.block_lt_of_cell? w _ hx150_1)).trans hx150_1; replace hx150_2 := (HB.out.cell (World.block_lt_of_cell? w _ hx150_2)).trans hx150_2; replace p150 := eq_true p150; replace q150 := eq_true q150; go_wp2
                      repeat (go_quiet (fail); try go_wp2)
                      go_roundg k3
                      case measure => have := HJ2.out; have := HK2.out; have := HK3.out; omega
                      case rel => exact ⟨(wrap64 (x6_3 + 1)), (by first | rfl | (simp; done) | (simp [*]; done)), H', ⟨by have := HJ2.out; have := HK2.out; have := HK3.out; omega⟩, ⟨by (with_reducible repeat (first | refine blk_drewN ?_ _ | refine blk_drew ?_ | refine blk_alloc ?_ _)); exact BK143.out⟩, ⟨by (with_reducible repeat (first | refine blk_drewN ?_ _ | refine blk_drew ?_ | refine blk_alloc ?_ _)); exact BK144.out⟩, ⟨by repeat (first | (with_reducible first | exact HB.out | apply below_alloc | apply pw_below_drewN | apply below_drew1 | refine below_set ?_ GE143.out | refine below_set ?_ GE144.out) | exact HB.out)⟩⟩
                  · rw [if_neg c56] at H
                    have c56b0 : decide (x6_3 < (l0_1.length : Int)) = false := decide_eq_false c56; clear c56; have H' := Aside0.mk H
                    clear H; have hnb66 := NB143_144.out; have hnc66 := NB144_143.out; have hcz67_0 : wr.cell? ⟨gb143, 0, none⟩ = some (.slice A0_0 l0_0.length c0_0) := (blk_cell BK143.out 0).trans rfl; have hcz67_1 : wr.cell? ⟨gb143, 1, none⟩ = some (.slice A0_1 l0_1.length c0_1) := (blk_cell BK143.out 1).trans rfl; have hcz67_2 : wr.cell? ⟨gb143, 2, none⟩ = some (.slice A0_2 l0_2.length c0_2) := (blk_cell BK143.out 2).trans rfl; have hcz67_3 : wr.cell? ⟨gb143, 3, none⟩ = some (.int .i64 a0_3) := (blk_cell BK143.out 3).trans rfl; have hcz67_4 : wr.cell? ⟨gb143, 4, none⟩ = some (.slice A0_4 l0_4.length c0_4) := (blk_cell BK143.out 4).trans rfl; have hcz67_5 : wr.cell? ⟨gb143, 5, none⟩ = some (.slice A0_5 l0_5.length c0_5) := (blk_cell BK143.out 5).trans rfl; have hcz67_6 : wr.cell? ⟨gb143, 6, none⟩ = some (.slice A0_6 l0_6.length c0_6) := (blk_cell BK143.out 6).trans rfl; have hcz67_7 : wr.cell? ⟨gb143, 7, none⟩ = some (.slice A0_7 l0_7.length c0_7) := (blk_cell BK143.out 7).trans rfl; have hcz67_8 : wr.cell? ⟨gb143, 8, none⟩ = some (.int .i64 a0_8) := (blk_cell BK143.out 8).trans rfl; have hfz67_0 := blk_frozen BK143.out 0; have hfz67_1 := blk_frozen BK143.out 1; have hfz67_2 := blk_frozen BK143.out 2; have hfz67_3 := blk_frozen BK143.out 3; have hfz67_4 := blk_frozen BK143.out 4; have hfz67_5 := blk_frozen BK143.out 5; have hfz67_6 := blk_frozen BK143.out 6; have hfz67_7 := blk_frozen BK143.out 7; have hfz67_8 := blk_frozen BK143.out 8; go_wp2
                    repeat (go_quiet (fail); try go_wp2)
                    go_loopg [7] k3 (fun kq v7 w' => ∃ (x7_4 : Int), v7 = .int .i64 x7_4 ∧ Aside0 (signalboxref1_Same.l2 kq x7_4 l0_0 l0_1 l0_2 a0_3 l0_4 l0_5 l0_6 l0_7 a0_8 l1_0 l1_1 l1_2 a1_3 l1_4 l1_5 l1_6 l1_7 a1_8 = some r) ∧ Aside0 (kq ≤ k3) ∧ Aside0 (w'.heap[gb143]? = some (.cells #[(.slice A0_0 l0_0.length c0_0), (.slice A0_1 l0_1.length c0_1), (.slice A0_2 l0_2.length c0_2), .int .i64 a0_3, (.slice A0_4 l0_4.length c0_4), (.slice A0_5 l0_5.length c0_5), (.slice A0_6 l0_6.length c0_6), (.slice A0_7 l0_7.length c0_7), .int .i64 a0_8] 29 (0, 0))) ∧ Aside0 (w'.heap[gb144]? = some (.cells #[(.slice A1_0 l1_0.length c1_0), (.slice A1_1 l1_1.length c1_1), (.slice A1_2 l1_2.length c1_2), .int .i64 a1_3, (.slice A1_4 l1_4.length c1_4), (.slice A1_5 l1_5.length c1_5), (.slice A1_6 l1_6.length c1_6), (.slice A1_7 l1_7.length c1_7), .int .i64 a1_8] 29 (0, 0))) ∧ Aside0 (Below w.heap.size w w'))
                    case atStart => exact ⟨(0), (by first | rfl | (simp; done) | (simp [*]; done)), H', ⟨Nat.le_refl _⟩, ⟨by (with_reducible repeat (first | refine blk_drewN ?_ _ | refine blk_drew ?_ | refine blk_alloc ?_ _)); exact BK143.out⟩, ⟨by (with_reducible repeat (first | refine blk_drewN ?_ _ | refine blk_drew ?_ | refine blk_alloc ?_ _)); exact BK144.out⟩, ⟨by repeat (first | (with_reducible first | exact HB.out | apply below_alloc | apply pw_below_drewN | apply below_drew1 | refine below_set ?_ GE143.out | refine below_set ?_ GE144.out) | exact HB.out)⟩⟩
                    case round =>
                      clear H'
                      try clear c1
                      try clear p1
                      try clear q1
                      try clear hx1
                      try clear p2
                      try clear c5
                      try clear c6
                      try clear p6
                      try clear p14
                      try clear q14
                      try clear hx14
                      try clear p15
                      try clear q15
                      try clear hx15
                      try clear c56
                      try clear c56b0
                      try clear c57
                      try clear c57b0
                      try clear c58
                      try clear c58b0
                      try clear c59
                      try clear c59b0
                      try clear c60
                      try clear c63
                      try clear p64
                      try clear c66
                      try clear hcz18_1
                      try clear hcz18_2
                      try clear hcz18_3
                      try clear hcz18_4
                      try clear hcz18_5
                      try clear hcz18_6
                      try clear hcz18_7
                      try clear hcz18_8
                      try clear hcz20_0
                      try clear hcz20_1
                      try clear hcz20_2
                      try clear hcz20_3
                      try clear hcz20_4
                      try clear hcz20_5
                      try clear hcz20_6
                      try clear hcz20_7
                      try clear hcz20_8
                      try clear hcz21_0
                      try clear hcz21_1
                      try clear hcz21_2
                      try clear hcz21_3
                      try clear hcz21_4
                      try clear hcz21_5
                      try clear hcz21_6
                      try clear hcz21_7
                      try clear hcz21_8
                      try clear hcz23_0
                      try clear hcz23_1
                      try clear hcz23_2
                      try clear hcz23_3
                      try clear hcz23_4
                      try clear hcz23_5
                      try clear hcz23_6
                      try clear hcz23_7
                      try clear hcz23_8
                      try clear hcz24_0
                      try clear hcz24_1
                      try clear hcz24_2
                      try clear hcz24_3
                      try clear hcz24_4
                      try clear hcz24_5
                      try clear hcz24_6
                      try clear hcz24_7
                      try clear hcz24_8
                      try clear hcz26_0
                      try clear hcz26_1
                      try clear hcz26_2
                      try clear hcz26_3
                      try clear hcz26_4
                      try clear hcz26_5
                      try clear hcz26_6
                      try clear hcz26_7
                      try clear hcz26_8
                      try clear hcz27_0
                      try clear hcz27_1
                      try clear hcz27_2
                      try clear hcz27_3
                      try clear hcz27_4
                      try clear hcz27_5
                      try clear hcz27_6
                      try clear hcz27_7
                      try clear hcz27_8
                      try clear hcz29_0
                      try clear hcz29_1
                      try clear hcz29_2
                      try clear hcz29_3
                      try clear hcz29_4
                      try clear hcz29_5
                      try clear hcz29_6
                      try clear hcz29_7
                      try clear hcz29_8
                      try clear hcz30_0
                      try clear hcz30_1
                      try clear hcz30_2
                      try clear hcz30_3
                      try clear hcz30_4
                      try clear hcz30_5
                      try clear hcz30_6
                      try clear hcz30_7
                      try clear hcz30_8
                      try clear hcz32_0
                      try clear hcz32_1
                      try clear hcz32_2
                      try clear hcz32_3
                      try clear hcz32_4
                      try clear hcz32_5
                      try clear hcz32_6
                      try clear hcz32_7
                      try clear hcz32_8
                      try clear hcz33_0
                      try clear hcz33_1
                      try clear hcz33_2
                      try clear hcz33_3
                      try clear hcz33_4
                      try clear hcz33_5
                      try clear hcz33_6
                      try clear hcz33_7
                      try clear hcz33_8
                      try clear hcz35_0
                      try clear hcz35_1
                      try clear hcz35_2
                      try clear hcz35_3
                      try clear hcz35_4
                      try clear hcz35_5
                      try clear hcz35_6
                      try clear hcz35_7
                      try clear hcz35_8
                      try clear hcz36_0
                      try clear hcz36_1
                      try clear hcz36_2
                      try clear hcz36_3
                      try clear hcz36_4
                      try clear hcz36_5
                      try clear hcz36_6
                      try clear hcz36_7
                      try clear hcz36_8
                      try clear hcz38_0
                      try clear hcz38_1
                      try clear hcz38_2
                      try clear hcz38_3
                      try clear hcz38_4
                      try clear hcz38_5
                      try clear hcz38_6
                      try clear hcz38_7
                      try clear hcz38_8
                      try clear hcz39_0
                      try clear hcz39_1
                      try clear hcz39_2
                      try clear hcz39_3
                      try clear hcz39_4
                      try clear hcz39_5
                      try clear hcz39_6
                      try clear hcz39_7
                      try clear hcz39_8
                      try clear hcz41_0
                      try clear hcz41_1
                      try clear hcz41_2
                      try clear hcz41_3
                      try clear hcz41_4
                      try clear hcz41_5
                      try clear hcz41_6
                      try clear hcz41_7
                      try clear hcz41_8
                      try clear hcz42_0
                      try clear hcz42_1
                      try clear hcz42_2
                      try clear hcz42_3
                      try clear hcz42_4
                      try clear hcz42_5
                      try clear hcz42_6
                      try clear hcz42_7
                      try clear hcz42_8
                      try clear hcz49_0
                      try clear hcz49_1
                      try clear hcz49_2
                      try clear hcz49_3
                      try clear hcz49_4
                      try clear hcz49_5
                      try clear hcz49_6
                      try clear hcz49_7
                      try clear hcz49_8
                      try clear hcz50_0
                      try clear hcz50_1
                      try clear hcz50_2
                      try clear hcz50_3
                      try clear hcz50_4
                      try clear hcz50_5
                      try clear hcz50_6
                      try clear hcz50_7
                      try clear hcz50_8
                      try clear hcz52_0
                      try clear hcz52_1
                      try clear hcz52_2
                      try clear hcz52_3
                      try clear hcz52_4
                      try clear hcz52_5
                      try clear hcz52_6
                      try clear hcz52_7
                      try clear hcz52_8
                      try clear hcz53_0
                      try clear hcz53_1
                      try clear hcz53_2
                      try clear hcz53_3
                      try clear hcz53_4
                      try clear hcz53_5
                      try clear hcz53_6
                      try clear hcz53_7
                      try clear hcz53_8
                      try clear hcz55_0
                      try clear hcz55_1
                      try clear hcz55_2
                      try clear hcz55_3
                      try clear hcz55_4
                      try clear hcz55_5
                      try clear hcz55_6
                      try clear hcz55_7
                      try clear hcz55_8
                      try clear hcz61_0
                      try clear hcz61_1
                      try clear hcz61_2
                      try clear hcz61_3
                      try clear hcz61_4
                      try clear hcz61_5
                      try clear hcz61_6
                      try clear hcz61_7
                      try clear hcz61_8
                      try clear hcz62_0
                      try clear hcz62_1
                      try clear hcz62_2
                      try clear hcz62_3
                      try clear hcz62_4
                      try clear hcz62_5
                      try clear hcz62_6
                      try clear hcz62_7
                      try clear hcz62_8
                      try clear hcz64_0
                      try clear hcz64_1
                      try clear hcz64_2
                      try clear hcz64_3
                      try clear hcz64_4
                      try clear hcz64_5
                      try clear hcz64_6
                      try clear hcz64_7
                      try clear hcz64_8
                      try clear hcz65_0
                      try clear hcz65_1
                      try clear hcz65_2
                      try clear hcz65_3
                      try clear hcz65_4
                      try clear hcz65_5
                      try clear hcz65_6
                      try clear hcz65_7
                      try clear hcz65_8
                      try clear hcz67_0
                      try clear hcz67_1
                      try clear hcz67_2
                      try clear hcz67_3
                      try clear hcz67_4
                      try clear hcz67_5
                      try clear hcz67_6
                      try clear hcz67_7
                      try clear hcz67_8
                      try clear hfz17_0
                      try clear hfz17_1
                      try clear hfz17_2
                      try clear hfz17_3
                      try clear hfz17_4
                      try clear hfz17_5
                      try clear hfz17_6
                      try clear hfz17_7
                      try clear hfz17_8
                      try clear hfz18_0
                      try clear hfz18_1
                      try clear hfz18_2
                      try clear hfz18_3
                      try clear hfz18_4
                      try clear hfz18_5
                      try clear hfz18_6
                      try clear hfz18_7
                      try clear hfz18_8
                      try clear hfz20_0
                      try clear hfz20_1
                      try clear hfz20_2
                      try clear hfz20_3
                      try clear hfz20_4
                      try clear hfz20_5
                      try clear hfz20_6
                      try clear hfz20_7
                      try clear hfz20_8
                      try clear hfz21_0
                      try clear hfz21_1
                      try clear hfz21_2
                      try clear hfz21_3
                      try clear hfz21_4
                      try clear hfz21_5
                      try clear hfz21_6
                      try clear hfz21_7
                      try clear hfz21_8
                      try clear hfz23_0
                      try clear hfz23_1
                      try clear hfz23_2
                      try clear hfz23_3
                      try clear hfz23_4
                      try clear hfz23_5
                      try clear hfz23_6
                      try clear hfz23_7
                      try clear hfz23_8
                      try clear hfz24_0
                      try clear hfz24_1
                      try clear hfz24_2
                      try clear hfz24_3
                      try clear hfz24_4
                      try clear hfz24_5
                      try clear hfz24_6
                      try clear hfz24_7
                      try clear hfz24_8
                      try clear hfz26_0
                      try clear hfz26_1
                      try clear hfz26_2
                      try clear hfz26_3
                      try clear hfz26_4
                      try clear hfz26_5
                      try clear hfz26_6
                      try clear hfz26_7
                      try clear hfz26_8
                      try clear hfz27_0
                      try clear hfz27_1
                      try clear hfz27_2
                      try clear hfz27_3
                      try clear hfz27_4
                      try clear hfz27_5
                      try clear hfz27_6
                      try clear hfz27_7
                      try clear hfz27_8
                      try clear hfz29_0
                      try clear hfz29_1
                      try clear hfz29_2
                      try clear hfz29_3
                      try clear hfz29_4
                      try clear hfz29_5
                      try clear hfz29_6
                      try clear hfz29_7
                      try clear hfz29_8
                      try clear hfz30_0
                      try clear hfz30_1
                      try clear hfz30_2
                      try clear hfz30_3
                      try clear hfz30_4
                      try clear hfz30_5
                      try clear hfz30_6
                      try clear hfz30_7
                      try clear hfz30_8
                      try clear hfz32_0
                      try clear hfz32_1
                      try clear hfz32_2
                      try clear hfz32_3
                      try clear hfz32_4
                      try clear hfz32_5
                      try clear hfz32_6
                      try clear hfz32_7
                      try clear hfz32_8
                      try clear hfz33_0
                      try clear hfz33_1
                      try clear hfz33_2
                      try clear hfz33_3
                      try clear hfz33_4
                      try clear hfz33_5
                      try clear hfz33_6
                      try clear hfz33_7
                      try clear hfz33_8
                      try clear hfz35_0
                      try clear hfz35_1
                      try clear hfz35_2
                      try clear hfz35_3
                      try clear hfz35_4
                      try clear hfz35_5
                      try clear hfz35_6
                      try clear hfz35_7
                      try clear hfz35_8
                      try clear hfz36_0
                      try clear hfz36_1
                      try clear hfz36_2
                      try clear hfz36_3
                      try clear hfz36_4
                      try clear hfz36_5
                      try clear hfz36_6
                      try clear hfz36_7
                      try clear hfz36_8
                      try clear hfz38_0
                      try clear hfz38_1
                      try clear hfz38_2
                      try clear hfz38_3
                      try clear hfz38_4
                      try clear hfz38_5
                      try clear hfz38_6
                      try clear hfz38_7
                      try clear hfz38_8
                      try clear hfz39_0
                      try clear hfz39_1
                      try clear hfz39_2
                      try clear hfz39_3
                      try clear hfz39_4
                      try clear hfz39_5
                      try clear hfz39_6
                      try clear hfz39_7
                      try clear hfz39_8
                      try clear hfz41_0
                      try clear hfz41_1
                      try clear hfz41_2
                      try clear hfz41_3
                      try clear hfz41_4
                      try clear hfz41_5
                      try clear hfz41_6
                      try clear hfz41_7
                      try clear hfz41_8
                      try clear hfz42_0
                      try clear hfz42_1
                      try clear hfz42_2
                      try clear hfz42_3
                      try clear hfz42_4
                      try clear hfz42_5
                      try clear hfz42_6
                      try clear hfz42_7
                      try clear hfz42_8
                      try clear hfz49_0
                      try clear hfz49_1
                      try clear hfz49_2
                      try clear hfz49_3
                      try clear hfz49_4
                      try clear hfz49_5
                      try clear hfz49_6
                      try clear hfz49_7
                      try clear hfz49_8
                      try clear hfz50_0
                      try clear hfz50_1
                      try clear hfz50_2
                      try clear hfz50_3
                      try clear hfz50_4
                      try clear hfz50_5
                      try clear hfz50_6
                      try clear hfz50_7
                      try clear hfz50_8
                      try clear hfz52_0
                      try clear hfz52_1
                      try clear hfz52_2
                      try clear hfz52_3
                      try clear hfz52_4
                      try clear hfz52_5
                      try clear hfz52_6
                      try clear hfz52_7
                      try clear hfz52_8
                      try clear hfz53_0
                      try clear hfz53_1
                      try clear hfz53_2
                      try clear hfz53_3
                      try clear hfz53_4
                      try clear hfz53_5
                      try clear hfz53_6
                      try clear hfz53_7
                      try clear hfz53_8
                      try clear hfz55_0
                      try clear hfz55_1
                      try clear hfz55_2
                      try clear hfz55_3
                      try clear hfz55_4
                      try clear hfz55_5
                      try clear hfz55_6
                      try clear hfz55_7
                      try clear hfz55_8
                      try clear hfz61_0
                      try clear hfz61_1
                      try clear hfz61_2
                      try clear hfz61_3
                      try clear hfz61_4
                      try clear hfz61_5
                      try clear hfz61_6
                      try clear hfz61_7
                      try clear hfz61_8
                      try clear hfz62_0
                      try clear hfz62_1
                      try clear hfz62_2
                      try clear hfz62_3
                      try clear hfz62_4
                      try clear hfz62_5
                      try clear hfz62_6
                      try clear hfz62_7
                      try clear hfz62_8
                      try clear hfz64_0
                      try clear hfz64_1
                      try clear hfz64_2
                      try clear hfz64_3
                      try clear hfz64_4
                      try clear hfz64_5
                      try clear hfz64_6
                      try clear hfz64_7
                      try clear hfz64_8
                      try clear hfz65_0
                      try clear hfz65_1
                      try clear hfz65_2
                      try clear hfz65_3
                      try clear hfz65_4
                      try clear hfz65_5
                      try clear hfz65_6
                      try clear hfz65_7
                      try clear hfz65_8
                      try clear hfz67_0
                      try clear hfz67_1
                      try clear hfz67_2
                      try clear hfz67_3
                      try clear hfz67_4
                      try clear hfz67_5
                      try clear hfz67_6
                      try clear hfz67_7
                      try clear hfz67_8
                      try clear hx147_0
                      try clear hx147_1
                      try clear hx147_2
                      try clear hx148_0
                      try clear hx148_1
                      try clear hx148_2
                      try clear hx149_0
                      try clear hx149_1
                      try clear hx149_2
                      try clear hx150_0
                      try clear hx150_1
                      try clear hx150_2
                      try clear p147
                      try clear p148
                      try clear p149
                      try clear p150
                      try clear p2
                      try clear q147
                      try clear q148
                      try clear q149
                      try clear q150
                      obtain ⟨x7_4, rfl, HA, HK4, BK143, BK144, HB⟩ := hrel
                      cases gk with
                      | zero => exact absurd HA.out (by simp [signalboxref1_Same.l2])
                      | succ k4 =>
                        have H := HA.out; clear HA
                        simp only [signalboxref1_Same.l2] at H
                        by_cases c68 : x7_4 < (l0_2.length : Int)
                        · rw [if_pos c68] at H
                          have c68b0 : decide (x7_4 < (l0_2.length : Int)) = true := decide_eq_true c68; clear c68
                          by_cases c69 : 0 ≤ x7_4
                          case neg =>
                            rw [if_neg c69] at H
                            exact absurd H (by simp)
                          rw [if_pos c69] at H
                          have c69b0 : decide (0 ≤ x7_4) = true := decide_eq_true c69; clear c69
                          by_cases c70 : x7_4 < (l1_2.length : Int)
                          case neg =>
                            rw [if_neg c70] at H
                            exact absurd H (by simp)
                          rw [if_pos c70] at H
                          have c70b0 : decide (x7_4 < (l1_2.length : Int)) = true := decide_eq_true c70; clear c70
                          by_cases c71 : (!(((rd_T56 l0_2 x7_4).f0) == ((rd_T56 l1_2 x7_4).f0)) || (!(((rd_T56 l0_2 x7_4).f1) == ((rd_T56 l1_2 x7_4).f1)))) = true
                          · rw [if_pos c71] at H
                            have c71b0 : (!(((rd_T56 l0_2 x7_4).f0) == ((rd_T56 l1_2 x7_4).f0)) || (!(((rd_T56 l0_2 x7_4).f1) == ((rd_T56 l1_2 x7_4).f1)))) = true := c71; clear c71; obtain rfl := Option.some.inj H
                            have hnb72 := NB143_144.out; have hnc72 := NB144_143.out; have hcz73_0 : wr.cell? ⟨gb143, 0, none⟩ = some (.slice A0_0 l0_0.length c0_0) := (blk_cell BK143.out 0).trans rfl; have hcz73_1 : wr.cell? ⟨gb143, 1, none⟩ = some (.slice A0_1 l0_1.length c0_1) := (blk_cell BK143.out 1).trans rfl; have hcz73_2 : wr.cell? ⟨gb143, 2, none⟩ = some (.slice A0_2 l0_2.length c0_2) := (blk_cell BK143.out 2).trans rfl; have hcz73_3 : wr.cell? ⟨gb143, 3, none⟩ = some (.int .i64 a0_3) := (blk_cell BK143.out 3).trans rfl; have hcz73_4 : wr.cell? ⟨gb143, 4, none⟩ = some (.slice A0_4 l0_4.length c0_4) := (blk_cell BK143.out 4).trans rfl; have hcz73_5 : wr.cell? ⟨gb143, 5, none⟩ = some (.slice A0_5 l0_5.length c0_5) := (blk_cell BK143.out 5).trans rfl; have hcz73_6 : wr.cell? ⟨gb143, 6, none⟩ = some (.slice A0_6 l0_6.length c0_6) := (blk_cell BK143.out 6).trans rfl; have hcz73_7 : wr.cell? ⟨gb143, 7, none⟩ = some (.slice A0_7 l0_7.length c0_7) := (blk_cell BK143.out 7).trans rfl; have hcz73_8 : wr.cell? ⟨gb143, 8, none⟩ = some (.int .i64 a0_8) := (blk_cell BK143.out 8).trans rfl; have hfz73_0 := blk_frozen BK143.out 0; have hfz73_1 := blk_frozen BK143.out 1; have hfz73_2 := blk_frozen BK143.out 2; have hfz73_3 := blk_frozen BK143.out 3; have hfz73_4 := blk_frozen BK143.out 4; have hfz73_5 := blk_frozen BK143.out 5; have hfz73_6 := blk_frozen BK143.out 6; have hfz73_7 := blk_frozen BK143.out 7; have hfz73_8 := blk_frozen BK143.out 8; have p151 : 0 ≤ (x7_4 : Int) := of_decide_eq_true (by first | (with_reducible assumption) | assumption)
                            have q151 : x7_4 < (l0_2.length : Int) := of_decide_eq_true (by first | (with_reducible assumption) | assumption)
                            obtain ⟨ad151, e151, hx151_0, hx151_1⟩ := at_T56 HR0_2.out x7_4 p151 q151
                            cases e151; replace hx151_0 := (HB.out.cell (World.block_lt_of_cell? w _ hx151_0)).trans hx151_0; replace hx151_1 := (HB.out.cell (World.block_lt_of_cell? w _ hx151_1)).trans hx151_1; replace p151 := eq_true p151; replace q151 := eq_true q151; have hcz74_0 : wr.cell? ⟨gb144, 0, none⟩ = some (.slice A1_0 l1_0.length c1_0) := (blk_cell BK144.out 0).trans rfl; have hcz74_1 : wr.cell? ⟨gb144, 1, none⟩ = some (.slice A1_1 l1_1.length c1_1) := (blk_cell BK144.out 1).trans rfl; have hcz74_2 : wr.cell? ⟨gb144, 2, none⟩ = some (.slice A1_2 l1_2.length c1_2) := (blk_cell BK144.out 2).trans rfl; have hcz74_3 : wr.cell? ⟨gb144, 3, none⟩ = some (.int .i64 a1_3) := (blk_cell BK144.out 3).trans rfl; have hcz74_4 : wr.cell? ⟨gb144, 4, none⟩ = some (.slice A1_4 l1_4.length c1_4) := (blk_cell BK144.out 4).trans rfl; have hcz74_5 : wr.cell? ⟨gb144, 5, none⟩ = some (.slice A1_5 l1_5.length c1_5) := (blk_cell BK144.out 5).trans rfl; have hcz74_6 : wr.cell? ⟨gb144, 6, none⟩ = some (.slice A1_6 l1_6.length c1_6) := (blk_cell BK144.out 6).trans rfl; have hcz74_7 : wr.cell? ⟨gb144, 7, none⟩ = some (.slice A1_7 l1_7.length c1_7) := (blk_cell BK144.out 7).trans rfl; have hcz74_8 : wr.cell? ⟨gb144, 8, none⟩ = some (.int .i64 a1_8) := (blk_cell BK144.out 8).trans rfl; have hfz74_0 := blk_frozen BK144.out 0; have hfz74_1 := blk_frozen BK144.out 1; have hfz74_2 := blk_frozen BK144.out 2; have hfz74_3 := blk_frozen BK144.out 3; have hfz74_4 := blk_frozen BK144.out 4; have hfz74_5 := blk_frozen BK144.out 5; have hfz74_6 := blk_frozen BK144.out 6; have hfz74_7 := blk_frozen BK144.out 7; have hfz74_8 := blk_frozen BK144.out 8; have p152 : 0 ≤ (x7_4 : Int) := of_decide_eq_true (by first | (with_reducible assumption) | assumption)
                            have q152 : x7_4 < (l1_2.length : Int) := of_decide_eq_true (by first | (with_reducible assumption) | assumption)
                            obtain ⟨ad152, e152, hx152_0, hx152_1⟩ := at_T56 HR1_2.out x7_4 p152 q152
                            cases e152; replace hx152_0 := (HB.out.cell (World.block_lt_of_cell? w _ hx152_0)).trans hx152_0; replace hx152_1 := (HB.out.cell (World.block_lt_of_cell? w _ hx152_1)).trans hx152_1; replace p152 := eq_true p152; replace q152 := eq_true q152; go_wp2
                            repeat (go_quiet (fail); try go_wp2)
                            go_ret
                            exact ⟨by first | rfl | (simp [errW_none, errW_some] <;> rfl) | (simp [*, errW_none, errW_some] <;> rfl), by repeat (first | (with_reducible first | exact HB.out | apply below_alloc | apply pw_below_drewN | apply below_drew1 | refine below_set ?_ GE143.out | refine below_set ?_ GE144.out) | exact HB.out)⟩
                          · rw [if_neg c71] at H
                            have c71b0 : (!(((rd_T56 l0_2 x7_4).f0) == ((rd_T56 l1_2 x7_4).f0)) || (!(((rd_T56 l0_2 x7_4).f1) == ((rd_T56 l1_2 x7_4).f1)))) = false := by simpa using c71
                            clear c71; have H' := Aside0.mk H
                            clear H; have hnb75 := NB143_144.out; have hnc75 := NB144_143.out; have hcz76_0 : wr.cell? ⟨gb143, 0, none⟩ = some (.slice A0_0 l0_0.length c0_0) := (blk_cell BK143.out 0).trans rfl; have hcz76_1 : wr.cell? ⟨gb143, 1, none⟩ = some (.slice A0_1 l0_1.length c0_1) := (blk_cell BK143.out 1).trans rfl; have hcz76_2 : wr.cell? ⟨gb143, 2, none⟩ = some (.slice A0_2 l0_2.length c0_2) := (blk_cell BK143.out 2).trans rfl; have hcz76_3 : wr.cell? ⟨gb143, 3, none⟩ = some (.int .i64 a0_3) := (blk_cell BK143.out 3).trans rfl; have hcz76_4 : wr.cell? ⟨gb143, 4, none⟩ = some (.slice A0_4 l0_4.length c0_4) := (blk_cell BK143.out 4).trans rfl; have hcz76_5 : wr.cell? ⟨gb143, 5, none⟩ = some (.slice A0_5 l0_5.length c0_5) := (blk_cell BK143.out 5).trans rfl; have hcz76_6 : wr.cell? ⟨gb143, 6, none⟩ = some (.slice A0_6 l0_6.length c0_6) := (blk_cell BK143.out 6).trans rfl; have hcz76_7 : wr.cell? ⟨gb143, 7, none⟩ = some (.slice A0_7 l0_7.length c0_7) := (blk_cell BK143.out 7).trans rfl; have hcz76_8 : wr.cell? ⟨gb143, 8, none⟩ = some (.int .i64 a0_8) := (blk_cell BK143.out 8).trans rfl; have hfz76_0 := blk_frozen BK143.out 0; have hfz76_1 := blk_frozen BK143.out 1; have hfz76_2 := blk_frozen BK143.out 2; have hfz76_3 := blk_frozen BK143.out 3; have hfz76_4 := blk_frozen BK143.out 4; have hfz76_5 := blk_frozen BK143.out 5; have hfz76_6 := blk_frozen BK143.out 6; have hfz76_7 := blk_frozen BK143.out 7; have hfz76_8 := blk_frozen BK143.out 8; have p151 : 0 ≤ (x7_4 : Int) := of_decide_eq_true (by first | (with_reducible assumption) | assumption)
                            have q151 : x7_4 < (l0_2.length : Int) := of_decide_eq_true (by first | (with_reducible assumption) | assumption)
                            obtain ⟨ad151, e151, hx151_0, hx151_1⟩ := at_T56 HR0_2.out x7_4 p151 q151
                            cases e151; replace hx151_0 := (HB.out.cell (World.block_lt_of_cell? w _ hx151_0)).trans hx151_0; replace hx151_1 := (HB.out.cell (World.block_lt_of_cell? w _ hx151_1)).trans hx151_1; replace p151 := eq_true p151; replace q151 := eq_true q151; have hcz77_0 : wr.cell? ⟨gb144, 0, none⟩ = some (.slice A1_0 l1_0.length c1_0) := (blk_cell BK144.out 0).trans rfl; have hcz77_1 : wr.cell? ⟨gb144, 1, none⟩ = some (.slice A1_1 l1_1.length c1_1) := (blk_cell BK144.out 1).trans rfl; have hcz77_2 : wr.cell? ⟨gb144, 2, none⟩ = some (.slice A1_2 l1_2.length c1_2) := (blk_cell BK144.out 2).trans rfl; have hcz77_3 : wr.cell? ⟨gb144, 3, none⟩ = some (.int .i64 a1_3) := (blk_cell BK144.out 3).trans rfl; have hcz77_4 : wr.cell? ⟨gb144, 4, none⟩ = some (.slice A1_4 l1_4.length c1_4) := (blk_cell BK144.out 4).trans rfl; have hcz77_5 : wr.cell? ⟨gb144, 5, none⟩ = some (.slice A1_5 l1_5.length c1_5) := (blk_cell BK144.out 5).trans rfl; have hcz77_6 : wr.cell? ⟨gb144, 6, none⟩ = some (.slice A1_6 l1_6.length c1_6) := (blk_cell BK144.out 6).trans rfl; have hcz77_7 : wr.cell? ⟨gb144, 7, none⟩ = some (.slice A1_7 l1_7.length c1_7) := (blk_cell BK144.out 7).trans rfl; have hcz77_8 : wr.cell? ⟨gb144, 8, none⟩ = some (.int .i64 a1_8) := (blk_cell BK144.out 8).trans rfl; have hfz77_0 := blk_frozen BK144.out 0; have hfz77_1 := blk_frozen BK144.out 1; have hfz77_2 := blk_frozen BK144.out 2; have hfz77_3 := blk_frozen BK144.out 3; have hfz77_4 := blk_frozen BK144.out 4; have hfz77_5 := blk_frozen BK144.out 5; have hfz77_6 := blk_frozen BK144.out 6; have hfz77_7 := blk_frozen BK144.out 7; have hfz77_8 := blk_frozen BK144.out 8; have p152 : 0 ≤ (x7_4 : Int) := of_decide_eq_true (by first | (with_reducible assumption) | assumption)
                            have q152 : x7_4 < (l1_2.length : Int) := of_decide_eq_true (by first | (with_reducible assumption) | assumption)
                            obtain ⟨ad152, e152, hx152_0, hx152_1⟩ := at_T56 HR1_2.out x7_4 p152 q152
                            cases e152; replace hx152_0 := (HB.out.cell (World.block_lt_of_cell? w _ hx152_0)).trans hx152_0; replace hx152_1 := (HB.out.cell (World.block_lt_of_cell? w _ hx152_1)).trans hx152_1; replace p152 := eq_true p152; replace q152 := eq_true q152; go_wp2
                            repeat (go_quiet (fail); try go_wp2)
                            go_roundg k4
                            case measure => have := HJ2.out; have := HK2.out; have := HK3.out; have := HK4.out; omega
                            case rel => exact ⟨(wrap64 (x7_4 + 1)), (by first | rfl | (simp; done) | (simp [*]; done)), H', ⟨by have := HJ2.out; have := HK2.out; have := HK3.out; have := HK4.out; omega⟩, ⟨by (with_reducible repeat (first | refine blk_drewN ?_ _ | refine blk_drew ?_ | refine blk_alloc ?_ _)); exact BK143.out⟩, ⟨by (with_reducible repeat (first | refine blk_drewN ?_ _ | refine blk_drew ?_ | refine blk_alloc ?_ _)); exact BK144.out⟩, ⟨by repeat (first | (with_reducible first | exact HB.out | apply below_alloc | apply pw_below_drewN | apply below_drew1 | refine below_set ?_ GE143.out | refine below_set ?_ GE144.out) | exact HB.out)⟩⟩
                        · rw [if_neg c68] at H
                          have c68b0 : decide (x7_4 < (l0_2.length : Int)) = false := decide_eq_false c68; clear c68; have H' := Aside0.mk H
                          clear H; have hnb78 := NB143_144.out; have hnc78 := NB144_143.out; have hcz79_0 : wr.cell? ⟨gb143, 0, none⟩ = some (.slice A0_0 l0_0.length c0_0) := (blk_cell BK143.out 0).trans rfl; have hcz79_1 : wr.cell? ⟨gb143, 1, none⟩ = some (.slice A0_1 l0_1.length c0_1) := (blk_cell BK143.out 1).trans rfl; have hcz79_2 : wr.cell? ⟨gb143, 2, none⟩ = some (.slice A0_2 l0_2.length c0_2) := (blk_cell BK143.out 2).trans rfl; have hcz79_3 : wr.cell? ⟨gb143, 3, none⟩ = some (.int .i64 a0_3) := (blk_cell BK143.out 3).trans rfl; have hcz79_4 : wr.cell? ⟨gb143, 4, none⟩ = some (.slice A0_4 l0_4.length c0_4) := (blk_cell BK143.out 4).trans rfl; have hcz79_5 : wr.cell? ⟨gb143, 5, none⟩ = some (.slice A0_5 l0_5.length c0_5) := (blk_cell BK143.out 5).trans rfl; have hcz79_6 : wr.cell? ⟨gb143, 6, none⟩ = some (.slice A0_6 l0_6.length c0_6) := (blk_cell BK143.out 6).trans rfl; have hcz79_7 : wr.cell? ⟨gb143, 7, none⟩ = some (.slice A0_7 l0_7.length c0_7) := (blk_cell BK143.out 7).trans rfl; have hcz79_8 : wr.cell? ⟨gb143, 8, none⟩ = some (.int .i64 a0_8) := (blk_cell BK143.out 8).trans rfl; have hfz79_0 := blk_frozen BK143.out 0; have hfz79_1 := blk_frozen BK143.out 1; have hfz79_2 := blk_frozen BK143.out 2; have hfz79_3 := blk_frozen BK143.out 3; have hfz79_4 := blk_frozen BK143.out 4; have hfz79_5 := blk_frozen BK143.out 5; have hfz79_6 := blk_frozen BK143.out 6; have hfz79_7 := blk_frozen BK143.out 7; have hfz79_8 := blk_frozen BK143.out 8; go_wp2
                          repeat (go_quiet (fail); try go_wp2)
                          go_loopg [8] k4 (fun kq v8 w' => ∃ (x8_5 : Int), v8 = .int .i64 x8_5 ∧ Aside0 (signalboxref1_Same.l3 kq x8_5 l0_0 l0_1 l0_2 a0_3 l0_4 l0_5 l0_6 l0_7 a0_8 l1_0 l1_1 l1_2 a1_3 l1_4 l1_5 l1_6 l1_7 a1_8 = some r) ∧ Aside0 (kq ≤ k4) ∧ Aside0 (w'.heap[gb143]? = some (.cells #[(.slice A0_0 l0_0.length c0_0), (.slice A0_1 l0_1.length c0_1), (.slice A0_2 l0_2.length c0_2), .int .i64 a0_3, (.slice A0_4 l0_4.length c0_4), (.slice A0_5 l0_5.length c0_5), (.slice A0_6 l0_6.length c0_6), (.slice A0_7 l0_7.length c0_7), .int .i64 a0_8] 29 (0, 0))) ∧ Aside0 (w'.heap[gb144]? = some (.cells #[(.slice A1_0 l1_0.length c1_0), (.slice A1_1 l1_1.length c1_1), (.slice A1_2 l1_2.length c1_2), .int .i64 a1_3, (.slice A1_4 l1_4.length c1_4), (.slice A1_5 l1_5.length c1_5), (.slice A1_6 l1_6.length c1_6), (.slice A1_7 l1_7.length c1_7), .int .i64 a1_8] 29 (0, 0))) ∧ Aside0 (Below w.heap.size w w'))
                          case atStart => exact ⟨(0), (by first | rfl | (simp; done) | (simp [*]; done)), H', ⟨Nat.le_refl _⟩, ⟨by (with_reducible repeat (first | refine blk_drewN ?_ _ | refine blk_drew ?_ | refine blk_alloc ?_ _)); exact BK143.out⟩, ⟨by (with_reducible repeat (first | refine blk_drewN ?_ _ | refine blk_drew ?_ | refine blk_alloc ?_ _)); exact BK144.out⟩, ⟨by repeat (first | (with_reducible first | exact HB.out | apply below_alloc | apply pw_below_drewN | apply below_drew1 | refine below_set ?_ GE143.out | refine below_set ?_ GE144.out) | exact HB.out)⟩⟩
                          case round =>
                            clear H'
                            try clear c1
                            try clear p1
                            try clear q1
                            try clear hx1
                            try clear p2
                            try clear c6
                            try clear p6
                            try clear c7
                            try clear p14
                            try clear q14
                            try clear hx14
                            try clear p15
                            try clear q15
                            try clear hx15
                            try clear p64
                            try clear c68
                            try clear c68b0
                            try clear c69
                            try clear c69b0
                            try clear c70
                            try clear c70b0
                            try clear c71
                            try clear c71b0
                            try clear c72
                            try clear c75
                            try clear c78
                            try clear hcz33_7
                            try clear hcz33_8
                            try clear hcz35_0
                            try clear hcz35_1
                            try clear hcz35_2
                            try clear hcz35_3
                            try clear hcz35_4
                            try clear hcz35_5
                            try clear hcz35_6
                            try clear hcz35_7
                            try clear hcz35_8
                            try clear hcz36_0
                            try clear hcz36_1
                            try clear hcz36_2
                            try clear hcz36_3
                            try clear hcz36_4
                            try clear hcz36_5
                            try clear hcz36_6
                            try clear hcz36_7
                            try clear hcz36_8
                            try clear hcz38_0
                            try clear hcz38_1
                            try clear hcz38_2
                            try clear hcz38_3
                            try clear hcz38_4
                            try clear hcz38_5
                            try clear hcz38_6
                            try clear hcz38_7
                            try clear hcz38_8
                            try clear hcz39_0
                            try clear hcz39_1
                            try clear hcz39_2
                            try clear hcz39_3
                            try clear hcz39_4
                            try clear hcz39_5
                            try clear hcz39_6
                            try clear hcz39_7
                            try clear hcz39_8
                            try clear hcz41_0
                            try clear hcz41_1
                            try clear hcz41_2
                            try clear hcz41_3
                            try clear hcz41_4
                            try clear hcz41_5
                            try clear hcz41_6
                            try clear hcz41_7
                            try clear hcz41_8
                            try clear hcz42_0
                            try clear hcz42_1
                            try clear hcz42_2
                            try clear hcz42_3
                            try clear hcz42_4
                            try clear hcz42_5
                            try clear hcz42_6
                            try clear hcz42_7
                            try clear hcz42_8
                            try clear hcz49_0
                            try clear hcz49_1
                            try clear hcz49_2
                            try clear hcz49_3
                            try clear hcz49_4
                            try clear hcz49_5
                            try clear hcz49_6
                            try clear hcz49_7
                            try clear hcz49_8
                            try clear hcz50_0
                            try clear hcz50_1
                            try clear hcz50_2
                            try clear hcz50_3
                            try clear hcz50_4
                            try clear hcz50_5
                            try clear hcz50_6
                            try clear hcz50_7
                            try clear hcz50_8
                            try clear hcz52_0
                            try clear hcz52_1
                            try clear hcz52_2
                            try clear hcz52_3
                            try clear hcz52_4
                            try clear hcz52_5
                            try clear hcz52_6
                            try clear hcz52_7
                            try clear hcz52_8
                            try clear hcz53_0
                            try clear hcz53_1
                            try clear hcz53_2
                            try clear hcz53_3
                            try clear hcz53_4
                            try clear hcz53_5
                            try clear hcz53_6
                            try clear hcz53_7
                            try clear hcz53_8
                            try clear hcz55_0
                            try clear hcz55_1
                            try clear hcz55_2
                            try clear hcz55_3
                            try clear hcz55_4
                            try clear hcz55_5
                            try clear hcz55_6
                            try clear hcz55_7
                            try clear hcz55_8
                            try clear hcz61_0
                            try clear hcz61_1
                            try clear hcz61_2
                            try clear hcz61_3
                            try clear hcz61_4
                            try clear hcz61_5
                            try clear hcz61_6
                            try clear hcz61_7
                            try clear hcz61_8
                            try clear hcz62_0
                            try clear hcz62_1
                            try clear hcz62_2
                            try clear hcz62_3
                            try clear hcz62_4
                            try clear hcz62_5
                            try clear hcz62_6
                            try clear hcz62_7
                            try clear hcz62_8
                            try clear hcz64_0
                            try clear hcz64_1
                            try clear hcz64_2
                            try clear hcz64_3
                            try clear hcz64_4
                            try clear hcz64_5
                            try clear hcz64_6
                            try clear hcz64_7
                            try clear hcz64_8
                            try clear hcz65_0
                            try clear hcz65_1
                            try clear hcz65_2
                            try clear hcz65_3
                            try clear hcz65_4
                            try clear hcz65_5
                            try clear hcz65_6
                            try clear hcz65_7
                            try clear hcz65_8
                            try clear hcz67_0
                            try clear hcz67_1
                            try clear hcz67_2
                            try clear hcz67_3
                            try clear hcz67_4
                            try clear hcz67_5
                            try clear hcz67_6
                            try clear hcz67_7
                            try clear hcz67_8
                            try clear hcz73_0
                            try clear hcz73_1
                            try clear hcz73_2
                            try clear hcz73_3
                            try clear hcz73_4
                            try clear hcz73_5
                            try clear hcz73_6
                            try clear hcz73_7
                            try clear hcz73_8
                            try clear hcz74_0
                            try clear hcz74_1
                            try clear hcz74_2
                            try clear hcz74_3
                            try clear hcz74_4
                            try clear hcz74_5
                            try clear hcz74_6
                            try clear hcz74_7
                            try clear hcz74_8
                            try clear hcz76_0
                            try clear hcz76_1
                            try clear hcz76_2
                            try clear hcz76_3
                            try clear hcz76_4
                            try clear hcz76_5
                            try clear hcz76_6
                            try clear hcz76_7
                            try clear hcz76_8
                            try clear hcz77_0
                            try clear hcz77_1
                            try clear hcz77_2
                            try clear hcz77_3
                            try clear hcz77_4
                            try clear hcz77_5
                            try clear hcz77_6
                            try clear hcz77_7
                            try clear hcz77_8
                            try clear hcz79_0
                            try clear hcz79_1
                            try clear hcz79_2
                            try clear hcz79_3
                            try clear hcz79_4
                            try clear hcz79_5
                            try clear hcz79_6
                            try clear hcz79_7
                            try clear hcz79_8
                            try clear hfz17_0
                            try clear hfz17_1
                            try clear hfz17_2
                            try clear hfz17_3
                            try clear hfz17_4
                            try clear hfz17_5
                            try clear hfz17_6
                            try clear hfz17_7
                            try clear hfz17_8
                            try clear hfz18_0
                            try clear hfz18_1
                            try clear hfz18_2
                            try clear hfz18_3
                            try clear hfz18_4
                            try clear hfz18_5
                            try clear hfz18_6
                            try clear hfz18_7
                            try clear hfz18_8
                            try clear hfz20_0
                            try clear hfz20_1
                            try clear hfz20_2
                            try clear hfz20_3
                            try clear hfz20_4
                            try clear hfz20_5
                            try clear hfz20_6
                            try clear hfz20_7
                            try clear hfz20_8
                            try clear hfz21_0
                            try clear hfz21_1
                            try clear hfz21_2
                            try clear hfz21_3
                            try clear hfz21_4
                            try clear hfz21_5
                            try clear hfz21_6
                            try clear hfz21_7
                            try clear hfz21_8
                            try clear hfz23_0
                            try clear hfz23_1
                            try clear hfz23_2
                            try clear hfz23_3
                            try clear hfz23_4
                            try clear hfz23_5
                            try clear hfz23_6
                            try clear hfz23_7
                            try clear hfz23_8
                            try clear hfz24_0
                            try clear hfz24_1
                            try clear hfz24_2
                            try clear hfz24_3
                            try clear hfz24_4
                            try clear hfz24_5
                            try clear hfz24_6
                            try clear hfz24_7
                            try clear hfz24_8
                            try clear hfz26_0
                            try clear hfz26_1
                            try clear hfz26_2
                            try clear hfz26_3
                            try clear hfz26_4
                            try clear hfz26_5
                            try clear hfz26_6
                            try clear hfz26_7
                            try clear hfz26_8
                            try clear hfz27_0
                            try clear hfz27_1
                            try clear hfz27_2
                            try clear hfz27_3
                            try clear hfz27_4
                            try clear hfz27_5
                            try clear hfz27_6
                            try clear hfz27_7
                            try clear hfz27_8
                            try clear hfz29_0
                            try clear hfz29_1
                            try clear hfz29_2
                            try clear hfz29_3
                            try clear hfz29_4
                            try clear hfz29_5
                            try clear hfz29_6
                            try clear hfz29_7
                            try clear hfz29_8
                            try clear hfz30_0
                            try clear hfz30_1
                            try clear hfz30_2
                            try clear hfz30_3
                            try clear hfz30_4
                            try clear hfz30_5
                            try clear hfz30_6
                            try clear hfz30_7
                            try clear hfz30_8
                            try clear hfz32_0
                            try clear hfz32_1
                            try clear hfz32_2
                            try clear hfz32_3
                            try clear hfz32_4
                            try clear hfz32_5
                            try clear hfz32_6
                            try clear hfz32_7
                            try clear hfz32_8
                            try clear hfz33_0
                            try clear hfz33_1
                            try clear hfz33_2
                            try clear hfz33_3
                            try clear hfz33_4
                            try clear hfz33_5
                            try clear hfz33_6
                            try clear hfz33_7
                            try clear hfz33_8
                            try clear hfz35_0
                            try clear hfz35_1
                            try clear hfz35_2
                            try clear hfz35_3
                            try clear hfz35_4
                            try clear hfz35_5
                            try clear hfz35_6
                            try clear hfz35_7
                            try clear hfz35_8
                            try clear hfz36_0
                            try clear hfz36_1
                            try clear hfz36_2
                            try clear hfz36_3
                            try clear hfz36_4
                            try clear hfz36_5
                            try clear hfz36_6
                            try clear hfz36_7
                            try clear hfz36_8
                            try clear hfz38_0
                            try clear hfz38_1
                            try clear hfz38_2
                            try clear hfz38_3
                            try clear hfz38_4
                            try clear hfz38_5
                            try clear hfz38_6
                            try clear hfz38_7
                            try clear hfz38_8
                            try clear hfz39_0
                            try clear hfz39_1
                            try clear hfz39_2
                            try clear hfz39_3
                            try clear hfz39_4
                            try clear hfz39_5
                            try clear hfz39_6
                            try clear hfz39_7
                            try clear hfz39_8
                            try clear hfz41_0
                            try clear hfz41_1
                            try clear hfz41_2
                            try clear hfz41_3
                            try clear hfz41_4
                            try clear hfz41_5
                            try clear hfz41_6
                            try clear hfz41_7
                            try clear hfz41_8
                            try clear hfz42_0
                            try clear hfz42_1
                            try clear hfz42_2
                            try clear hfz42_3
                            try clear hfz42_4
                            try clear hfz42_5
                            try clear hfz42_6
                            try clear hfz42_7
                            try clear hfz42_8
                            try clear hfz49_0
                            try clear hfz49_1
                            try clear hfz49_2
                            try clear hfz49_3
                            try clear hfz49_4
                            try clear hfz49_5
                            try clear hfz49_6
                            try clear hfz49_7
                            try clear hfz49_8
                            try clear hfz50_0
                            try clear hfz50_1
                            try clear hfz50_2
                            try clear hfz50_3
                            try clear hfz50_4
                            try clear hfz50_5
                            try clear hfz50_6
                            try clear hfz50_7
                            try clear hfz50_8
                            try clear hfz52_0
                            try clear hfz52_1
                            try clear hfz52_2
                            try clear hfz52_3
                            try clear hfz52_4
                            try clear hfz52_5
                            try clear hfz52_6
                            try clear hfz52_7
                            try clear hfz52_8
                            try clear hfz53_0
                            try clear hfz53_1
                            try clear hfz53_2
                            try clear hfz53_3
                            try clear hfz53_4
                            try clear hfz53_5
                            try clear hfz53_6
                            try clear hfz53_7
                            try clear hfz53_8
                            try clear hfz55_0
                            try clear hfz55_1
                            try clear hfz55_2
                            try clear hfz55_3
                            try clear hfz55_4
                            try clear hfz55_5
                            try clear hfz55_6
                            try clear hfz55_7
                            try clear hfz55_8
                            try clear hfz61_0
                            try clear hfz61_1
                            try clear hfz61_2
                            try clear hfz61_3
                            try clear hfz61_4
                            try clear hfz61_5
                            try clear hfz61_6
                            try clear hfz61_7
                            try clear hfz61_8
                            try clear hfz62_0
                            try clear hfz62_1
                            try clear hfz62_2
                            try clear hfz62_3
                            try clear hfz62_4
                            try clear hfz62_5
                            try clear hfz62_6
                            try clear hfz62_7
                            try clear hfz62_8
                            try clear hfz64_0
                            try clear hfz64_1
                            try clear hfz64_2
                            try clear hfz64_3
                            try clear hfz64_4
                            try clear hfz64_5
                            try clear hfz64_6
                            try clear hfz64_7
                            try clear hfz64_8
                            try clear hfz65_0
                            try clear hfz65_1
                            try clear hfz65_2
                            try clear hfz65_3
                            try clear hfz65_4
                            try clear hfz65_5
                            try clear hfz65_6
                            try clear hfz65_7
                            try clear hfz65_8
                            try clear hfz67_0
                            try clear hfz67_1
                            try clear hfz67_2
                            try clear hfz67_3
                            try clear hfz67_4
                            try clear hfz67_5
                            try clear hfz67_6
                            try clear hfz67_7
                            try clear hfz67_8
                            try clear hfz73_0
                            try clear hfz73_1
                            try clear hfz73_2
                            try clear hfz73_3
                            try clear hfz73_4
                            try clear hfz73_5
                            try clear hfz73_6
                            try clear hfz73_7
                            try clear hfz73_8
                            try clear hfz74_0
                            try clear hfz74_1
                            try clear hfz74_2
                            try clear hfz74_3
                            try clear hfz74_4
                            try clear hfz74_5
                            try clear hfz74_6
                            try clear hfz74_7
                            try clear hfz74_8
                            try clear hfz76_0
                            try clear hfz76_1
                            try clear hfz76_2
                            try clear hfz76_3
                            try clear hfz76_4
                            try clear hfz76_5
                            try clear hfz76_6
                            try clear hfz76_7
                            try clear hfz76_8
                            try clear hfz77_0
                            try clear hfz77_1
                            try clear hfz77_2
                            try clear hfz77_3
                            try clear hfz77_4
                            try clear hfz77_5
                            try clear hfz77_6
                            try clear hfz77_7
                            try clear hfz77_8
                            try clear hfz79_0
                            try clear hfz79_1
                            try clear hfz79_2
                            try clear hfz79_3
                            try clear hfz79_4
                            try clear hfz79_5
                            try clear hfz79_6
                            try clear hfz79_7
                            try clear hfz79_8
                            try clear hx147_0
                            try clear hx147_1
                            try clear hx147_2
                            try clear hx148_0
                            try clear hx148_1
                            try clear hx148_2
                            try clear hx149_0
                            try clear hx149_1
                            try clear hx149_2
                            try clear hx150_0
                            try clear hx150_1
                            try clear hx150_2
                            try clear hx151_0
                            try clear hx151_1
                            try clear hx152_0
                            try clear hx152_1
                            try clear p147
                            try clear p148
                            try clear p149
                            try clear p150
                            try clear p151
                            try clear p152
                            try clear p2
                            try clear q147
                            try clear q148
                            try clear q149
                            try clear q150
                            try clear q151
                            try clear q152
                            obtain ⟨x8_5, rfl, HA, HK5, BK143, BK144, HB⟩ := hrel
                            cases gk with
                            | zero => exact absurd HA.out (by simp [signalboxref1_Same.l3])
                            | succ k5 =>
                              have H := HA.out; clear HA
                              simp only [signalboxref1_Same.l3] at H
                              by_cases c80 : x8_5 < (l0_6.length : Int)
                              · rw [if_pos c80] at H
                                have c80b0 : decide (x8_5 < (l0_6.length : Int)) = true := decide_eq_true c80; clear c80
                                by_cases c81 : 0 ≤ x8_5
                                case neg =>
                                  rw [if_neg c81] at H
                                  exact absurd H (by simp)
                                rw [if_pos c81] at H
                                have c81b0 : decide (0 ≤ x8_5) = true := decide_eq_true c81; clear c81
                                by_cases c82 : x8_5 < (l1_6.length : Int)
                                case neg =>
                                  rw [if_neg c82] at H
                                  exact absurd H (by simp)
                                rw [if_pos c82] at H
                                have c82b0 : decide (x8_5 < (l1_6.length : Int)) = true := decide_eq_true c82; clear c82; replace H := Option.bind_eq_some_iff.mp H; obtain ⟨t155, A830, H⟩ := H
                                replace H : (if t155 = true then (signalboxref1_Same.l3 k5 (wrap64 (x8_5 + 1)) l0_0 l0_1 l0_2 a0_3 l0_4 l0_5 l0_6 l0_7 a0_8 l1_0 l1_1 l1_2 a1_3 l1_4 l1_5 l1_6 l1_7 a1_8) else (some false)) = some r := H
                                have A83 := Aside0.mk A830; clear A830
                                by_cases c84 : t155 = true
                                · subst c84; have H1 : (signalboxref1_Same.l3 k5 (wrap64 (x8_5 + 1)) l0_0 l0_1 l0_2 a0_3 l0_4 l0_5 l0_6 l0_7 a0_8 l1_0 l1_1 l1_2 a1_3 l1_4 l1_5 l1_6 l1_7 a1_8) = some r := by rw [if_pos rfl] at H; exact H
                                  clear H; have H := H1; clear H1; have H' := Aside0.mk H
                                  clear H; have hnb85 := NB143_144.out; have hnc85 := NB144_143.out; have hcz86_0 : wr.cell? ⟨gb143, 0, none⟩ = some (.slice A0_0 l0_0.length c0_0) := (blk_cell BK143.out 0).trans rfl; have hcz86_1 : wr.cell? ⟨gb143, 1, none⟩ = some (.slice A0_1 l0_1.length c0_1) := (blk_cell BK143.out 1).trans rfl; have hcz86_2 : wr.cell? ⟨gb143, 2, none⟩ = some (.slice A0_2 l0_2.length c0_2) := (blk_cell BK143.out 2).trans rfl; have hcz86_3 : wr.cell? ⟨gb143, 3, none⟩ = some (.int .i64 a0_3) := (blk_cell BK143.out 3).trans rfl; have hcz86_4 : wr.cell? ⟨gb143, 4, none⟩ = some (.slice A0_4 l0_4.length c0_4) := (blk_cell BK143.out 4).trans rfl; have hcz86_5 : wr.cell? ⟨gb143, 5, none⟩ = some (.slice A0_5 l0_5.length c0_5) := (blk_cell BK143.out 5).trans rfl; have hcz86_6 : wr.cell? ⟨gb143, 6, none⟩ = some (.slice A0_6 l0_6.length c0_6) := (blk_cell BK143.out 6).trans rfl; have hcz86_7 : wr.cell? ⟨gb143, 7, none⟩ = some (.slice A0_7 l0_7.length c0_7) := (blk_cell BK143.out 7).trans rfl; have hcz86_8 : wr.cell? ⟨gb143, 8, none⟩ = some (.int .i64 a0_8) := (blk_cell BK143.out 8).trans rfl; have hfz86_0 := blk_frozen BK143.out 0; have hfz86_1 := blk_frozen BK143.out 1; have hfz86_2 := blk_frozen BK143.out 2; have hfz86_3 := blk_frozen BK143.out 3; have hfz86_4 := blk_frozen BK143.out 4; have hfz86_5 := blk_frozen BK143.out 5; have hfz86_6 := blk_frozen BK143.out 6; have hfz86_7 := blk_frozen BK143.out 7; have hfz86_8 := blk_frozen BK143.out 8; have p153 : 0 ≤ (x8_5 : Int) := of_decide_eq_true (by first | (with_reducible assumption) | assumption)
                                  have q153 : x8_5 < (l0_6.length : Int) := of_decide_eq_true (by first | (with_reducible assumption) | assumption)
                                  obtain ⟨ad153, A153_0, c153_0, e153, hx153_0, hl153_0, hi153_0⟩ := at_L1 HR0_6.out x8_5 p153 q153
                                  cases e153; replace hx153_0 := (HB.out.cell (World.block_lt_of_cell? w _ hx153_0)).trans hx153_0; have HR153_0 := Aside0.mk hi153_0; have HC153_0 := Aside0.mk hl153_0; clear hi153_0 hl153_0; replace p153 := eq_true p153; replace q153 := eq_true q153; have hcz87_0 : wr.cell? ⟨gb144, 0, none⟩ = some (.slice A1_0 l1_0.length c1_0) := (blk_cell BK144.out 0).trans rfl; have hcz87_1 : wr.cell? ⟨gb144, 1, none⟩ = some (.slice A1_1 l1_1.length c1_1) := (blk_cell BK144.out 1).trans rfl; have hcz87_2 : wr.cell? ⟨gb144, 2, none⟩ = some (.slice A1_2 l1_2.length c1_2) := (blk_cell BK144.out 2).trans rfl; have hcz87_3 : wr.cell? ⟨gb144, 3, none⟩ = some (.int .i64 a1_3) := (blk_cell BK144.out 3).trans rfl; have hcz87_4 : wr.cell? ⟨gb144, 4, none⟩ = some (.slice A1_4 l1_4.length c1_4) := (blk_cell BK144.out 4).trans rfl; have hcz87_5 : wr.cell? ⟨gb144, 5, none⟩ = some (.slice A1_5 l1_5.length c1_5) := (blk_cell BK144.out 5).trans rfl; have hcz87_6 : wr.cell? ⟨gb144, 6, none⟩ = some (.slice A1_6 l1_6.length c1_6) := (blk_cell BK144.out 6).trans rfl; have hcz87_7 : wr.cell? ⟨gb144, 7, none⟩ = some (.slice A1_7 l1_7.length c1_7) := (blk_cell BK144.out 7).trans rfl; have hcz87_8 : wr.cell? ⟨gb144, 8, none⟩ = some (.int .i64 a1_8) := (blk_cell BK144.out 8).trans rfl; have hfz87_0 := blk_frozen BK144.out 0; have hfz87_1 := blk_frozen BK144.out 1; have hfz87_2 := blk_frozen BK144.out 2; have hfz87_3 := blk_frozen BK144.out 3; have hfz87_4 := blk_frozen BK144.out 4; have hfz87_5 := blk_frozen BK144.out 5; have hfz87_6 := blk_frozen BK144.out 6; have hfz87_7 := blk_frozen BK144.out 7; have hfz87_8 := blk_frozen BK144.out 8; have p154 : 0 ≤ (x8_5 : Int) := of_decide_eq_true (by first | (with_reducible assumption) | assumption)
                                  have q154 : x8_5 < (l1_6.length : Int) := of_decide_eq_true (by first | (with_reducible assumption) | assumption)
                                  obtain ⟨ad154, A154_0, c154_0, e154, hx154_0, hl154_0, hi154_0⟩ := at_L1 HR1_6.out x8_5 p154 q154
                                  cases e154; replace hx154_0 := (HB.out.cell (World.block_lt_of_cell? w _ hx154_0)).trans hx154_0; have HR154_0 := Aside0.mk hi154_0; have HC154_0 := Aside0.mk hl154_0; clear hi154_0 hl154_0; replace p154 := eq_true p154; replace q154 := eq_true q154; go_wp2_with (first | (go_at_call 49; (with_reducible refine (signalboxref1_Ints.calls k5 _ _ (rd_L1 l0_6 x8_5) _ _ (rd_L1 l1_6 x8_5) true _ ?side1 ?side2 ?side3 ?side4 A83.out).mono ?_); (case side1 => repeat (first | exact (Kd.C_below HR153_0.out HB.out) | (with_reducible refine Kd.C_alloc ?_ _) | (with_reducible refine Kd.C_drewN ?_ _) | (with_reducible refine Kd.C_drew ?_))); (case side2 => exact HC153_0.out); (case side3 => repeat (first | exact (Kd.C_below HR154_0.out HB.out) | (with_reducible refine Kd.C_alloc ?_ _) | (with_reducible refine Kd.C_drewN ?_ _) | (with_reducible refine Kd.C_drew ?_))); (case side4 => exact HC154_0.out); rintro e w' ⟨rfl, ⟨nd, rfl⟩⟩; (try first | exact ⟨rfl, _, World.drewN_drewN _ _ _⟩ | exact ⟨rfl, _, Eq.trans (World.drewN_drewN _ _ _) (congrArg (World.drewN _) (Nat.add_assoc _ _ _))⟩)))
                                  repeat (go_quiet (first | (go_at_call 49; (with_reducible refine (signalboxref1_Ints.calls k5 _ _ (rd_L1 l0_6 x8_5) _ _ (rd_L1 l1_6 x8_5) true _ ?side1 ?side2 ?side3 ?side4 A83.out).mono ?_); (case side1 => repeat (first | exact (Kd.C_below HR153_0.out HB.out) | (with_reducible refine Kd.C_alloc ?_ _) | (with_reducible refine Kd.C_drewN ?_ _) | (with_reducible refine Kd.C_drew ?_))); (case side2 => exact HC153_0.out); (case side3 => repeat (first | exact (Kd.C_below HR154_0.out HB.out) | (with_reducible refine Kd.C_alloc ?_ _) | (with_reducible refine Kd.C_drewN ?_ _) | (with_reducible refine Kd.C_drew ?_))); (case side4 => exact HC154_0.out); rintro e w' ⟨rfl, ⟨nd, rfl⟩⟩; (try first | exact ⟨rfl, _, World.drewN_drewN _ _ _⟩ | exact ⟨rfl, _, Eq.trans (World.drewN_drewN _ _ _) (congrArg (World.drewN _) (Nat.add_assoc _ _ _))⟩))); try go_wp2_with (first | (go_at_call 49; (with_reducible refine (signalboxref1_Ints.calls k5 _ _ (rd_L1 l0_6 x8_5) _ _ (rd_L1 l1_6 x8_5) true _ ?side1 ?side2 ?side3 ?side4 A83.out).mono ?_); (case side1 => repeat (first | exact (Kd.C_below HR153_0.out HB.out) | (with_reducible refine Kd.C_alloc ?_ _) | (with_reducible refine Kd.C_drewN ?_ _) | (with_reducible refine Kd.C_drew ?_))); (case side2 => exact HC153_0.out); (case side3 => repeat (first | exact (Kd.C_below HR154_0.out HB.out) | (with_reducible refine Kd.C_alloc ?_ _) | (with_reducible refine Kd.C_drewN ?_ _) | (with_reducible refine Kd.C_drew ?_))); (case side4 => exact HC154_0.out); rintro e w' ⟨rfl, ⟨nd, rfl⟩⟩; (try first | exact ⟨rfl, _, World.drewN_drewN _ _ _⟩ | exact ⟨rfl, _, Eq.trans (World.drewN_drewN _ _ _) (congrArg (World.drewN _) (Nat.add_assoc _ _ _))⟩))))
                                  go_roundg k5
                                  case measure => have := HJ2.out; have := HK2.out; have := HK3.out; have := HK4.out; have := HK5.out; omega
                                  case rel => exact ⟨(wrap64 (x8_5 + 1)), (by first | rfl | (simp; done) | (simp [*]; done)), H', ⟨by have := HJ2.out; have := HK2.out; have := HK3.out; have := HK4.out; have := HK5.out; omega⟩, ⟨by (with_reducible repeat (first | refine blk_drewN ?_ _ | refine blk_drew ?_ | refine blk_alloc ?_ _)); exact BK143.out⟩, ⟨by (with_reducible repeat (first | refine blk_drewN ?_ _ | refine blk_drew ?_ | refine blk_alloc ?_ _)); exact BK144.out⟩, ⟨by repeat (first | (with_reducible first | exact HB.out | apply below_alloc | apply pw_below_drewN | apply below_drew1 | refine below_set ?_ GE143.out | refine below_set ?_ GE144.out) | exact HB.out)⟩⟩
                                · replace c84 := Bool.eq_false_iff.mpr c84; subst c84; have H1 : (some false) = some r := by rw [if_neg (show ¬ (false = true) by decide)] at H; exact H
                                  clear H; have H := H1; clear H1; obtain rfl := Option.some.inj H
                                  have hnb88 := NB143_144.out; have hnc88 := NB144_143.out; have hcz89_0 : wr.cell? ⟨gb143, 0, none⟩ = some (.slice A0_0 l0_0.length c0_0) := (blk_cell BK143.out 0).trans rfl; have hcz89_1 : wr.cell? ⟨gb143, 1, none⟩ = some (.slice A0_1 l0_1.length c0_1) := (blk_cell BK143.out 1).trans rfl; have hcz89_2 : wr.cell? ⟨gb143, 2, none⟩ = some (.slice A0_2 l0_2.length c0_2) := (blk_cell BK143.out 2).trans rfl; have hcz89_3 : wr.cell? ⟨gb143, 3, none⟩ = some (.int .i64 a0_3) := (blk_cell BK143.out 3).trans rfl; have hcz89_4 : wr.cell? ⟨gb143, 4, none⟩ = some (.slice A0_4 l0_4.length c0_4) := (blk_cell BK143.out 4).trans rfl; have hcz89_5 : wr.cell? ⟨gb143, 5, none⟩ = some (.slice A0_5 l0_5.length c0_5) := (blk_cell BK143.out 5).trans rfl; have hcz89_6 : wr.cell? ⟨gb143, 6, none⟩ = some (.slice A0_6 l0_6.length c0_6) := (blk_cell BK143.out 6).trans rfl; have hcz89_7 : wr.cell? ⟨gb143, 7, none⟩ = some (.slice A0_7 l0_7.length c0_7) := (blk_cell BK143.out 7).trans rfl; have hcz89_8 : wr.cell? ⟨gb143, 8, none⟩ = some (.int .i64 a0_8) := (blk_cell BK143.out 8).trans rfl; have hfz89_0 := blk_frozen BK143.out 0; have hfz89_1 := blk_frozen BK143.out 1; have hfz89_2 := blk_frozen BK143.out 2; have hfz89_3 := blk_frozen BK143.out 3; have hfz89_4 := blk_frozen BK143.out 4; have hfz89_5 := blk_frozen BK143.out 5; have hfz89_6 := blk_frozen BK143.out 6; have hfz89_7 := blk_frozen BK143.out 7; have hfz89_8 := blk_frozen BK143.out 8; have p153 : 0 ≤ (x8_5 : Int) := of_decide_eq_true (by first | (with_reducible assumption) | assumption)
                                  have q153 : x8_5 < (l0_6.length : Int) := of_decide_eq_true (by first | (with_reducible assumption) | assumption)
                                  obtain ⟨ad153, A153_0, c153_0, e153, hx153_0, hl153_0, hi153_0⟩ := at_L1 HR0_6.out x8_5 p153 q153
                                  cases e153; replace hx153_0 := (HB.out.cell (World.block_lt_of_cell? w _ hx153_0)).trans hx153_0; have HR153_0 := Aside0.mk hi153_0; have HC153_0 := Aside0.mk hl153_0; clear hi153_0 hl153_0; replace p153 := eq_true p153; replace q153 := eq_true q153; have hcz90_0 : wr.cell? ⟨gb144, 0, none⟩ = some (.slice A1_0 l1_0.length c1_0) := (blk_cell BK144.out 0).trans rfl; have hcz90_1 : wr.cell? ⟨gb144, 1, none⟩ = some (.slice A1_1 l1_1.length c1_1) := (blk_cell BK144.out 1).trans rfl; have hcz90_2 : wr.cell? ⟨gb144, 2, none⟩ = some (.slice A1_2 l1_2.length c1_2) := (blk_cell BK144.out 2).trans rfl; have hcz90_3 : wr.cell? ⟨gb144, 3, none⟩ = some (.int .i64 a1_3) := (blk_cell BK144.out 3).trans rfl; have hcz90_4 : wr.cell? ⟨gb144, 4, none⟩ = some (.slice A1_4 l1_4.length c1_4) := (blk_cell BK144.out 4).trans rfl; have hcz90_5 : wr.cell? ⟨gb144, 5, none⟩ = some (.slice A1_5 l1_5.length c1_5) := (blk_cell BK144.out 5).trans rfl; have hcz90_6 : wr.cell? ⟨gb144, 6, none⟩ = some (.slice A1_6 l1_6.length c1_6) := (blk_cell BK144.out 6).trans rfl; have hcz90_7 : wr.cell? ⟨gb144, 7, none⟩ = some (.slice A1_7 l1_7.length c1_7) := (blk_cell BK144.out 7).trans rfl; have hcz90_8 : wr.cell? ⟨gb144, 8, none⟩ = some (.int .i64 a1_8) := (blk_cell BK144.out 8).trans rfl; have hfz90_0 := blk_frozen BK144.out 0; have hfz90_1 := blk_frozen BK144.out 1; have hfz90_2 := blk_frozen BK144.out 2; have hfz90_3 := blk_frozen BK144.out 3; have hfz90_4 := blk_frozen BK144.out 4; have hfz90_5 := blk_frozen BK144.out 5; have hfz90_6 := blk_frozen BK144.out 6; have hfz90_7 := blk_frozen BK144.out 7; have hfz90_8 := blk_frozen BK144.out 8; have p154 : 0 ≤ (x8_5 : Int) := of_decide_eq_true (by first | (with_reducible assumption) | assumption)
                                  have q154 : x8_5 < (l1_6.length : Int) := of_decide_eq_true (by first | (with_reducible assumption) | assumption)
                                  obtain ⟨ad154, A154_0, c154_0, e154, hx154_0, hl154_0, hi154_0⟩ := at_L1 HR1_6.out x8_5 p154 q154
                                  cases e154; replace hx154_0 := (HB.out.cell (World.block_lt_of_cell? w _ hx154_0)).trans hx154_0; have HR154_0 := Aside0.mk hi154_0; have HC154_0 := Aside0.mk hl154_0; clear hi154_0 hl154_0; replace p154 := eq_true p154; replace q154 := eq_true q154; go_wp2_with (first | (go_at_call 49; (with_reducible refine (signalboxref1_Ints.calls k5 _ _ (rd_L1 l0_6 x8_5) _ _ (rd_L1 l1_6 x8_5) false _ ?side1 ?side2 ?side3 ?side4 A83.out).mono ?_); (case side1 => repeat (first | exact (Kd.C_below HR153_0.out HB.out) | (with_reducible refine Kd.C_alloc ?_ _) | (with_reducible refine Kd.C_drewN ?_ _) | (with_reducible refine Kd.C_drew ?_))); (case side2 => exact HC153_0.out); (case side3 => repeat (first | exact (Kd.C_below HR154_0.out HB.out) | (with_reducible refine Kd.C_alloc ?_ _) | (with_reducible refine Kd.C_drewN ?_ _) | (with_reducible refine Kd.C_drew ?_))); (case side4 => exact HC154_0.out); rintro e w' ⟨rfl, ⟨nd, rfl⟩⟩; (try first | exact ⟨rfl, _, World.drewN_drewN _ _ _⟩ | exact ⟨rfl, _, Eq.trans (World.drewN_drewN _ _ _) (congrArg (World.drewN _) (Nat.add_assoc _ _ _))⟩)))
                                  repeat (go_quiet (first | (go_at_call 49; (with_reducible refine (signalboxref1_Ints.calls k5 _ _ (rd_L1 l0_6 x8_5) _ _ (rd_L1 l1_6 x8_5) false _ ?side1 ?side2 ?side3 ?side4 A83.out).mono ?_); (case side1 => repeat (first | exact (Kd.C_below HR153_0.out HB.out) | (with_reducible refine Kd.C_alloc ?_ _) | (with_reducible refine Kd.C_drewN ?_ _) | (with_reducible refine Kd.C_drew ?_))); (case side2 => exact HC153_0.out); (case side3 => repeat (first | exact (Kd.C_below HR154_0.out HB.out) | (with_reducible refine Kd.C_alloc ?_ _) | (with_reducible refine Kd.C_drewN ?_ _) | (with_reducible refine Kd.C_drew ?_))); (case side4 => exact HC154_0.out); rintro e w' ⟨rfl, ⟨nd, rfl⟩⟩; (try first | exact ⟨rfl, _, World.drewN_drewN _ _ _⟩ | exact ⟨rfl, _, Eq.trans (World.drewN_drewN _ _ _) (congrArg (World.drewN _) (Nat.add_assoc _ _ _))⟩))); try go_wp2_with (first | (go_at_call 49; (with_reducible refine (signalboxref1_Ints.calls k5 _ _ (rd_L1 l0_6 x8_5) _ _ (rd_L1 l1_6 x8_5) false _ ?side1 ?side2 ?side3 ?side4 A83.out).mono ?_); (case side1 => repeat (first | exact (Kd.C_below HR153_0.out HB.out) | (with_reducible refine Kd.C_alloc ?_ _) | (with_reducible refine Kd.C_drewN ?_ _) | (with_reducible refine Kd.C_drew ?_))); (case side2 => exact HC153_0.out); (case side3 => repeat (first | exact (Kd.C_below HR154_0.out HB.out) | (with_reducible refine Kd.C_alloc ?_ _) | (with_reducible refine Kd.C_drewN ?_ _) | (with_reducible refine Kd.C_drew ?_))); (case side4 => exact HC154_0.out); rintro e w' ⟨rfl, ⟨nd, rfl⟩⟩; (try first | exact ⟨rfl, _, World.drewN_drewN _ _ _⟩ | exact ⟨rfl, _, Eq.trans (World.drewN_drewN _ _ _) (congrArg (World.drewN _) (Nat.add_assoc _ _ _))⟩))))
                                  go_ret
                                  exact ⟨by first | rfl | (simp [errW_none, errW_some] <;> rfl) | (simp [*, errW_none, errW_some] <;> rfl), by repeat (first | (with_reducible first | exact HB.out | apply below_alloc | apply pw_below_drewN | apply below_drew1 | refine below_set ?_ GE143.out | refine below_set ?_ GE144.out) | exact HB.out)⟩
                              · rw [if_neg c80] at H
                                have c80b0 : decide (x8_5 < (l0_6.length : Int)) = false := decide_eq_false c80; clear c80; have H' := Aside0.mk H
                                clear H; have hnb91 := NB143_144.out; have hnc91 := NB144_143.out; have hcz92_0 : wr.cell? ⟨gb143, 0, none⟩ = some (.slice A0_0 l0_0.length c0_0) := (blk_cell BK143.out 0).trans rfl; have hcz92_1 : wr.cell? ⟨gb143, 1, none⟩ = some (.slice A0_1 l0_1.length c0_1) := (blk_cell BK143.out 1).trans rfl; have hcz92_2 : wr.cell? ⟨gb143, 2, none⟩ = some (.slice A0_2 l0_2.length c0_2) := (blk_cell BK143.out 2).trans rfl; have hcz92_3 : wr.cell? ⟨gb143, 3, none⟩ = some (.int .i64 a0_3) := (blk_cell BK143.out 3).trans rfl; have hcz92_4 : wr.cell? ⟨gb143, 4, none⟩ = some (.slice A0_4 l0_4.length c0_4) := (blk_cell BK143.out 4).trans rfl; have hcz92_5 : wr.cell? ⟨gb143, 5, none⟩ = some (.slice A0_5 l0_5.length c0_5) := (blk_cell BK143.out 5).trans rfl; have hcz92_6 : wr.cell? ⟨gb143, 6, none⟩ = some (.slice A0_6 l0_6.length c0_6) := (blk_cell BK143.out 6).trans rfl; have hcz92_7 : wr.cell? ⟨gb143, 7, none⟩ = some (.slice A0_7 l0_7.length c0_7) := (blk_cell BK143.out 7).trans rfl; have hcz92_8 : wr.cell? ⟨gb143, 8, none⟩ = some (.int .i64 a0_8) := (blk_cell BK143.out 8).trans rfl; have hfz92_0 := blk_frozen BK143.out 0; have hfz92_1 := blk_frozen BK143.out 1; have hfz92_2 := blk_frozen BK143.out 2; have hfz92_3 := blk_frozen BK143.out 3; have hfz92_4 := blk_frozen BK143.out 4; have hfz92_5 := blk_frozen BK143.out 5; have hfz92_6 := blk_frozen BK143.out 6; have hfz92_7 := blk_frozen BK143.out 7; have hfz92_8 := blk_frozen BK143.out 8; go_wp2
                                repeat (go_quiet (fail); try go_wp2)
                                go_loopg [9] k5 (fun kq v9 w' => ∃ (x9_6 : Int), v9 = .int .i64 x9_6 ∧ Aside0 (signalboxref1_Same.l4 kq x9_6 l0_0 l0_1 l0_2 a0_3 l0_4 l0_5 l0_6 l0_7 a0_8 l1_0 l1_1 l1_2 a1_3 l1_4 l1_5 l1_6 l1_7 a1_8 = some r) ∧ Aside0 (kq ≤ k5) ∧ Aside0 (w'.heap[gb143]? = some (.cells #[(.slice A0_0 l0_0.length c0_0), (.slice A0_1 l0_1.length c0_1), (.slice A0_2 l0_2.length c0_2), .int .i64 a0_3, (.slice A0_4 l0_4.length c0_4), (.slice A0_5 l0_5.length c0_5), (.slice A0_6 l0_6.length c0_6), (.slice A0_7 l0_7.length c0_7), .int .i64 a0_8] 29 (0, 0))) ∧ Aside0 (w'.heap[gb144]? = some (.cells #[(.slice A1_0 l1_0.length c1_0), (.slice A1_1 l1_1.length c1_1), (.slice A1_2 l1_2.length c1_2), .int .i64 a1_3, (.slice A1_4 l1_4.length c1_4), (.slice A1_5 l1_5.length c1_5), (.slice A1_6 l1_6.length c1_6), (.slice A1_7 l1_7.length c1_7), .int .i64 a1_8] 29 (0, 0))) ∧ Aside0 (Below w.heap.size w w'))
                                case atStart => exact ⟨(0), (by first | rfl | (simp; done) | (simp [*]; done)), H', ⟨Nat.le_refl _⟩, ⟨by (with_reducible repeat (first | refine blk_drewN ?_ _ | refine blk_drew ?_ | refine blk_alloc ?_ _)); exact BK143.out⟩, ⟨by (with_reducible repeat (first | refine blk_drewN ?_ _ | refine blk_drew ?_ | refine blk_alloc ?_ _)); exact BK144.out⟩, ⟨by repeat (first | (with_reducible first | exact HB.out | apply below_alloc | apply pw_below_drewN | apply below_drew1 | refine below_set ?_ GE143.out | refine below_set ?_ GE144.out) | exact HB.out)⟩⟩
                                case round =>
                                  clear H'
                                  try clear c1
                                  try clear p1
                                  try clear q1
                                  try clear hx1
                                  try clear p2
                                  try clear p6
                                  try clear c8
                                  try clear c9
                                  try clear p14
                                  try clear q14
                                  try clear hx14
                                  try clear c15
                                  try clear p15
                                  try clear q15
                                  try clear hx15
                                  try clear p64
                                  try clear c80
                                  try clear c80b0
                                  try clear c81
                                  try clear c81b0
                                  try clear c82
                                  try clear c82b0
                                  try clear c84
                                  try clear c85
                                  try clear c88
                                  try clear c91
                                  try clear hcz62_6
                                  try clear hcz62_7
                                  try clear hcz62_8
                                  try clear hcz64_0
                                  try clear hcz64_1
                                  try clear hcz64_2
                                  try clear hcz64_3
                                  try clear hcz64_4
                                  try clear hcz64_5
                                  try clear hcz64_6
                                  try clear hcz64_7
                                  try clear hcz64_8
                                  try clear hcz65_0
                                  try clear hcz65_1
                                  try clear hcz65_2
                                  try clear hcz65_3
                                  try clear hcz65_4
                                  try clear hcz65_5
                                  try clear hcz65_6
                                  try clear hcz65_7
                                  try clear hcz65_8
                                  try clear hcz67_0
                                  try clear hcz67_1
                                  try clear hcz67_2
                                  try clear hcz67_3
                                  try clear hcz67_4
                                  try clear hcz67_5
                                  try clear hcz67_6
                                  try clear hcz67_7
                                  try clear hcz67_8
                                  try clear hcz73_0
                                  try clear hcz73_1
                                  try clear hcz73_2
                                  try clear hcz73_3
                                  try clear hcz73_4
                                  try clear hcz73_5
                                  try clear hcz73_6
                                  try clear hcz73_7
                                  try clear hcz73_8
                                  try clear hcz74_0
                                  try clear hcz74_1
                                  try clear hcz74_2
                                  try clear hcz74_3
                                  try clear hcz74_4
                                  try clear hcz74_5
                                  try clear hcz74_6
                                  try clear hcz74_7
                                  try clear hcz74_8
                                  try clear hcz76_0
                                  try clear hcz76_1
                                  try clear hcz76_2
                                  try clear hcz76_3
                                  try clear hcz76_4
                                  try clear hcz76_5
                                  try clear hcz76_6
                                  try clear hcz76_7
                                  try clear hcz76_8
                                  try clear hcz77_0
                                  try clear hcz77_1
                                  try clear hcz77_2
                                  try clear hcz77_3
                                  try clear hcz77_4
                                  try clear hcz77_5
                                  try clear hcz77_6
                                  try clear hcz77_7
                                  try clear hcz77_8
                                  try clear hcz79_0
                                  try clear hcz79_1
                                  try clear hcz79_2
                                  try clear hcz79_3
                                  try clear hcz79_4
                                  try clear hcz79_5
                                  try clear hcz79_6
                                  try clear hcz79_7
                                  try clear hcz79_8
                                  try clear hcz86_0
                                  try clear hcz86_1
                                  try clear hcz86_2
                                  try clear hcz86_3
                                  try clear hcz86_4
                                  try clear hcz86_5
                                  try clear hcz86_6
                                  try clear hcz86_7
                                  try clear hcz86_8
                                  try clear hcz87_0
                                  try clear hcz87_1
                                  try clear hcz87_2
                                  try clear hcz87_3
                                  try clear hcz87_4
                                  try clear hcz87_5
                                  try clear hcz87_6
                                  try clear hcz87_7
                                  try clear hcz87_8
                                  try clear hcz89_0
                                  try clear hcz89_1
                                  try clear hcz89_2
                                  try clear hcz89_3
                                  try clear hcz89_4
                                  try clear hcz89_5
                                  try clear hcz89_6
                                  try clear hcz89_7
                                  try clear hcz89_8
                                  try clear hcz90_0
                                  try clear hcz90_1
                                  try clear hcz90_2
                                  try clear hcz90_3
                                  try clear hcz90_4
                                  try clear hcz90_5
                                  try clear hcz90_6
                                  try clear hcz90_7
                                  try clear hcz90_8
                                  try clear hcz92_0
                                  try clear hcz92_1
                                  try clear hcz92_2
                                  try clear hcz92_3
                                  try clear hcz92_4
                                  try clear hcz92_5
                                  try clear hcz92_6
                                  try clear hcz92_7
                                  try clear hcz92_8
                                  try clear hfz17_0
                                  try clear hfz17_1
                                  try clear hfz17_2
                                  try clear hfz17_3
                                  try clear hfz17_4
                                  try clear hfz17_5
                                  try clear hfz17_6
                                  try clear hfz17_7
                                  try clear hfz17_8
                                  try clear hfz18_0
                                  try clear hfz18_1
                                  try clear hfz18_2
                                  try clear hfz18_3
                                  try clear hfz18_4
                                  try clear hfz18_5
                                  try clear hfz18_6
                                  try clear hfz18_7
                                  try clear hfz18_8
                                  try clear hfz20_0
                                  try clear hfz20_1
                                  try clear hfz20_2
                                  try clear hfz20_3
                                  try clear hfz20_4
                                  try clear hfz20_5
                                  try clear hfz20_6
                                  try clear hfz20_7
                                  try clear hfz20_8
                                  try clear hfz21_0
                                  try clear hfz21_1
                                  try clear hfz21_2
                                  try clear hfz21_3
                                  try clear hfz21_4
                                  try clear hfz21_5
                                  try clear hfz21_6
                                  try clear hfz21_7
                                  try clear hfz21_8
                                  try clear hfz23_0
                                  try clear hfz23_1
                                  try clear hfz23_2
                                  try clear hfz23_3
                                  try clear hfz23_4
                                  try clear hfz23_5
                                  try clear hfz23_6
                                  try clear hfz23_7
                                  try clear hfz23_8
                                  try clear hfz24_0
                                  try clear hfz24_1
                                  try clear hfz24_2
                                  try clear hfz24_3
                                  try clear hfz24_4
                                  try clear hfz24_5
                                  try clear hfz24_6
                                  try clear hfz24_7
                                  try clear hfz24_8
                                  try clear hfz26_0
                                  try clear hfz26_1
                                  try clear hfz26_2
                                  try clear hfz26_3
                                  try clear hfz26_4
                                  try clear hfz26_5
                                  try clear hfz26_6
                                  try clear hfz26_7
                                  try clear hfz26_8
                                  try clear hfz27_0
                                  try clear hfz27_1
                                  try clear hfz27_2
                                  try clear hfz27_3
                                  try clear hfz27_4
                                  try clear hfz27_5
                                  try clear hfz27_6
                                  try clear hfz27_7
                                  try clear hfz27_8
                                  try clear hfz29_0
                                  try clear hfz29_1
                                  try clear hfz29_2
                                  try clear hfz29_3
                                  try clear hfz29_4
                                  try clear hfz29_5
                                  try clear hfz29_6
                                  try clear hfz29_7
                                  try clear hfz29_8
                                  try clear hfz30_0
                                  try clear hfz30_1
                                  try clear hfz30_2
                                  try clear hfz30_3
                                  try clear hfz30_4
                                  try clear hfz30_5
                                  try clear hfz30_6
                                  try clear hfz30_7
                                  try clear hfz30_8
                                  try clear hfz32_0
                                  try clear hfz32_1
                                  try clear hfz32_2
                                  try clear hfz32_3
                                  try clear hfz32_4
                                  try clear hfz32_5
                                  try clear hfz32_6
                                  try clear hfz32_7
                                  try clear hfz32_8
                                  try clear hfz33_0
                                  try clear hfz33_1
                                  try clear hfz33_2
                                  try clear hfz33_3
                                  try clear hfz33_4
                                  try clear hfz33_5
                                  try clear hfz33_6
                                  try clear hfz33_7
                                  try clear hfz33_8
                                  try clear hfz35_0
                                  try clear hfz35_1
                                  try clear hfz35_2
                                  try clear hfz35_3
                                  try clear hfz35_4
                                  try clear hfz35_5
                                  try clear hfz35_6
                                  try clear hfz35_7
                                  try clear hfz35_8
                                  try clear hfz36_0
                                  try clear hfz36_1
                                  try clear hfz36_2
                                  try clear hfz36_3
                                  try clear hfz36_4
                                  try clear hfz36_5
                                  try clear hfz36_6
                                  try clear hfz36_7
                                  try clear hfz36_8
                                  try clear hfz38_0
                                  try clear hfz38_1
                                  try clear hfz38_2
                                  try clear hfz38_3
                                  try clear hfz38_4
                                  try clear hfz38_5
                                  try clear hfz38_6
                                  try clear hfz38_7
                                  try clear hfz38_8
                                  try clear hfz39_0
                                  try clear hfz39_1
                                  try clear hfz39_2
                                  try clear hfz39_3
                                  try clear hfz39_4
                                  try clear hfz39_5
                                  try clear hfz39_6
                                  try clear hfz39_7
                                  try clear hfz39_8
                                  try clear hfz41_0
                                  try clear hfz41_1
                                  try clear hfz41_2
                                  try clear hfz41_3
                                  try clear hfz41_4
                                  try clear hfz41_5
                                  try clear hfz41_6
                                  try clear hfz41_7
                                  try clear hfz41_8
                                  try clear hfz42_0
                                  try clear hfz42_1
                                  try clear hfz42_2
                                  try clear hfz42_3
                                  try clear hfz42_4
                                  try clear hfz42_5
                                  try clear hfz42_6
                                  try clear hfz42_7
                                  try clear hfz42_8
                                  try clear hfz49_0
                                  try clear hfz49_1
                                  try clear hfz49_2
                                  try clear hfz49_3
                                  try clear hfz49_4
                                  try clear hfz49_5
                                  try clear hfz49_6
                                  try clear hfz49_7
                                  try clear hfz49_8
                                  try clear hfz50_0
                                  try clear hfz50_1
                                  try clear hfz50_2
                                  try clear hfz50_3
                                  try clear hfz50_4
                                  try clear hfz50_5
                                  try clear hfz50_6
                                  try clear hfz50_7
                                  try clear hfz50_8
                                  try clear hfz52_0
                                  try clear hfz52_1
                                  try clear hfz52_2
                                  try clear hfz52_3
                                  try clear hfz52_4
                                  try clear hfz52_5
                                  try clear hfz52_6
                                  try clear hfz52_7
                                  try clear hfz52_8
                                  try clear hfz53_0
                                  try clear hfz53_1
                                  try clear hfz53_2
                                  try clear hfz53_3
                                  try clear hfz53_4
                                  try clear hfz53_5
                                  try clear hfz53_6
                                  try clear hfz53_7
                                  try clear hfz53_8
                                  try clear hfz55_0
                                  try clear hfz55_1
                                  try clear hfz55_2
                                  try clear hfz55_3
                                  try clear hfz55_4
                                  try clear hfz55_5
                                  try clear hfz55_6
                                  try clear hfz55_7
                                  try clear hfz55_8
                                  try clear hfz61_0
                                  try clear hfz61_1
                                  try clear hfz61_2
                                  try clear hfz61_3
                                  try clear hfz61_4
                                  try clear hfz61_5
                                  try clear hfz61_6
                                  try clear hfz61_7
                                  try clear hfz61_8
                                  try clear hfz62_0
                                  try clear hfz62_1
                                  try clear hfz62_2
                                  try clear hfz62_3
                                  try clear hfz62_4
                                  try clear hfz62_5
                                  try clear hfz62_6
                                  try clear hfz62_7
                                  try clear hfz62_8
                                  try clear hfz64_0
                                  try clear hfz64_1
                                  try clear hfz64_2
                                  try clear hfz64_3
                                  try clear hfz64_4
                                  try clear hfz64_5
                                  try clear hfz64_6
                                  try clear hfz64_7
                                  try clear hfz64_8
                                  try clear hfz65_0
                                  try clear hfz65_1
                                  try clear hfz65_2
                                  try clear hfz65_3
                                  try clear hfz65_4
                                  try clear hfz65_5
                                  try clear hfz65_6
                                  try clear hfz65_7
                                  try clear hfz65_8
                                  try clear hfz67_0
                                  try clear hfz67_1
                                  try clear hfz67_2
                                  try clear hfz67_3
                                  try clear hfz67_4
                                  try clear hfz67_5
                                  try clear hfz67_6
                                  try clear hfz67_7
                                  try clear hfz67_8
                                  try clear hfz73_0
                                  try clear hfz73_1
                                  try clear hfz73_2
                                  try clear hfz73_3
                                  try clear hfz73_4
                                  try clear hfz73_5
                                  try clear hfz73_6
                                  try clear hfz73_7
                                  try clear hfz73_8
                                  try clear hfz74_0
                                  try clear hfz74_1
                                  try clear hfz74_2
                                  try clear hfz74_3
                                  try clear hfz74_4
                                  try clear hfz74_5
                                  try clear hfz74_6
                                  try clear hfz74_7
                                  try clear hfz74_8
                                  try clear hfz76_0
                                  try clear hfz76_1
                                  try clear hfz76_2
                                  try clear hfz76_3
                                  try clear hfz76_4
                                  try clear hfz76_5
                                  try clear hfz76_6
                                  try clear hfz76_7
                                  try clear hfz76_8
                                  try clear hfz77_0
                                  try clear hfz77_1
                                  try clear hfz77_2
                                  try clear hfz77_3
                                  try clear hfz77_4
                                  try clear hfz77_5
                                  try clear hfz77_6
                                  try clear hfz77_7
                                  try clear hfz77_8
                                  try clear hfz79_0
                                  try clear hfz79_1
                                  try clear hfz79_2
                                  try clear hfz79_3
                                  try clear hfz79_4
                                  try clear hfz79_5
                                  try clear hfz79_6
                                  try clear hfz79_7
                                  try clear hfz79_8
                                  try clear hfz86_0
                                  try clear hfz86_1
                                  try clear hfz86_2
                                  try clear hfz86_3
                                  try clear hfz86_4
                                  try clear hfz86_5
                                  try clear hfz86_6
                                  try clear hfz86_7
                                  try clear hfz86_8
                                  try clear hfz87_0
                                  try clear hfz87_1
                                  try clear hfz87_2
                                  try clear hfz87_3
                                  try clear hfz87_4
                                  try clear hfz87_5
                                  try clear hfz87_6
                                  try clear hfz87_7
                                  try clear hfz87_8
                                  try clear hfz89_0
                                  try clear hfz89_1
                                  try clear hfz89_2
                                  try clear hfz89_3
                                  try clear hfz89_4
                                  try clear hfz89_5
                                  try clear hfz89_6
                                  try clear hfz89_7
                                  try clear hfz89_8
                                  try clear hfz90_0
                                  try clear hfz90_1
                                  try clear hfz90_2
                                  try clear hfz90_3
                                  try clear hfz90_4
                                  try clear hfz90_5
                                  try clear hfz90_6
                                  try clear hfz90_7
                                  try clear hfz90_8
                                  try clear hfz92_0
                                  try clear hfz92_1
                                  try clear hfz92_2
                                  try clear hfz92_3
                                  try clear hfz92_4
                                  try clear hfz92_5
                                  try clear hfz92_6
                                  try clear hfz92_7
                                  try clear hfz92_8
                                  try clear hx147_0
                                  try clear hx147_1
                                  try clear hx147_2
                                  try clear hx148_0
                                  try clear hx148_1
                                  try clear hx148_2
                                  try clear hx149_0
                                  try clear hx149_1
                                  try clear hx149_2
                                  try clear hx150_0
                                  try clear hx150_1
                                  try clear hx150_2
                                  try clear hx151_0
                                  try clear hx151_1
                                  try clear hx152_0
                                  try clear hx152_1
                                  try clear hx153_0
                                  try clear hx154_0
                                  try clear p147
                                  try clear p148
                                  try clear p149
                                  try clear p150
                                  try clear p151
                                  try clear p152
                                  try clear p153
                                  try clear p154
                                  try clear p2
                                  try clear q147
                                  try clear q148
                                  try clear q149
                                  try clear q150
                                  try clear q151
                                  try clear q152
                                  try clear q153
                                  try clear q154
                                  obtain ⟨x9_6, rfl, HA, HK6, BK143, BK144, HB⟩ := hrel
                                  cases gk with
                                  | zero => exact absurd HA.out (by simp [signalboxref1_Same.l4])
                                  | succ k6 =>
                                    have H := HA.out; clear HA
                                    simp only [signalboxref1_Same.l4] at H
                                    by_cases c93 : x9_6 < (l0_7.length : Int)
                                    · rw [if_pos c93] at H
                                      have c93b0 : decide (x9_6 < (l0_7.length : Int)) = true := decide_eq_true c93; clear c93
                                      by_cases c94 : 0 ≤ x9_6
                                      case neg =>
                                        rw [if_neg c94] at H
                                        exact absurd H (by simp)
                                      rw [if_pos c94] at H
                                      have c94b0 : decide (0 ≤ x9_6) = true := decide_eq_true c94; clear c94
                                      by_cases c95 : x9_6 < (l1_7.length : Int)
                                      case neg =>
                                        rw [if_neg c95] at H
                                        exact absurd H (by simp)
                                      rw [if_pos c95] at H
                                      have c95b0 : decide (x9_6 < (l1_7.length : Int)) = true := decide_eq_true c95; clear c95
                                      by_cases c96 : (!(((rd_T65 l0_7 x9_6).f0) == ((rd_T65 l1_7 x9_6).f0)) || (!(((rd_T65 l0_7 x9_6).f1) == ((rd_T65 l1_7 x9_6).f1)))) = true
                                      · rw [if_pos c96] at H
                                        have c96b0 : (!(((rd_T65 l0_7 x9_6).f0) == ((rd_T65 l1_7 x9_6).f0)) || (!(((rd_T65 l0_7 x9_6).f1) == ((rd_T65 l1_7 x9_6).f1)))) = true := c96; clear c96; obtain rfl := Option.some.inj H
                                        have hnb97 := NB143_144.out; have hnc97 := NB144_143.out; have hcz98_0 : wr.cell? ⟨gb143, 0, none⟩ = some (.slice A0_0 l0_0.length c0_0) := (blk_cell BK143.out 0).trans rfl; have hcz98_1 : wr.cell? ⟨gb143, 1, none⟩ = some (.slice A0_1 l0_1.length c0_1) := (blk_cell BK143.out 1).trans rfl; have hcz98_2 : wr.cell? ⟨gb143, 2, none⟩ = some (.slice A0_2 l0_2.length c0_2) := (blk_cell BK143.out 2).trans rfl; have hcz98_3 : wr.cell? ⟨gb143, 3, none⟩ = some (.int .i64 a0_3) := (blk_cell BK143.out 3).trans rfl; have hcz98_4 : wr.cell? ⟨gb143, 4, none⟩ = some (.slice A0_4 l0_4.length c0_4) := (blk_cell BK143.out 4).trans rfl; have hcz98_5 : wr.cell? ⟨gb143, 5, none⟩ = some (.slice A0_5 l0_5.length c0_5) := (blk_cell BK143.out 5).trans rfl; have hcz98_6 : wr.cell? ⟨gb143, 6, none⟩ = some (.slice A0_6 l0_6.length c0_6) := (blk_cell BK143.out 6).trans rfl; have hcz98_7 : wr.cell? ⟨gb143, 7, none⟩ = some (.slice A0_7 l0_7.length c0_7) := (blk_cell BK143.out 7).trans rfl; have hcz98_8 : wr.cell? ⟨gb143, 8, none⟩ = some (.int .i64 a0_8) := (blk_cell BK143.out 8).trans rfl; have hfz98_0 := blk_frozen BK143.out 0; have hfz98_1 := blk_frozen BK143.out 1; have hfz98_2 := blk_frozen BK143.out 2; have hfz98_3 := blk_frozen BK143.out 3; have hfz98_4 := blk_frozen BK143.out 4; have hfz98_5 := blk_frozen BK143.out 5; have hfz98_6 := blk_frozen BK143.out 6; have hfz98_7 := blk_frozen BK143.out 7; have hfz98_8 := blk_frozen BK143.out 8; have p156 : 0 ≤ (x9_6 : Int) := of_decide_eq_true (by first | (with_reducible assumption) | assumption)
                                        have q156 : x9_6 < (l0_7.length : Int) := of_decide_eq_true (by first | (with_reducible assumption) | assumption)
                                        obtain ⟨ad156, e156, hx156_0, hx156_1⟩ := at_T65 HR0_7.out x9_6 p156 q156
                                        cases e156; replace hx156_0 := (HB.out.cell (World.block_lt_of_cell? w _ hx156_0)).trans hx156_0; replace hx156_1 := (HB.out.cell (World.block_lt_of_cell? w _ hx156_1)).trans hx156_1; replace p156 := eq_true p156; replace q156 := eq_true q156; have hcz99_0 : wr.cell? ⟨gb144, 0, none⟩ = some (.slice A1_0 l1_0.length c1_0) := (blk_cell BK144.out 0).trans rfl; have hcz99_1 : wr.cell? ⟨gb144, 1, none⟩ = some (.slice A1_1 l1_1.length c1_1) := (blk_cell BK144.out 1).trans rfl; have hcz99_2 : wr.cell? ⟨gb144, 2, none⟩ = some (.slice A1_2 l1_2.length c1_2) := (blk_cell BK144.out 2).trans rfl; have hcz99_3 : wr.cell? ⟨gb144, 3, none⟩ = some (.int .i64 a1_3) := (blk_cell BK144.out 3).trans rfl; have hcz99_4 : wr.cell? ⟨gb144, 4, none⟩ = some (.slice A1_4 l1_4.length c1_4) := (blk_cell BK144.out 4).trans rfl; have hcz99_5 : wr.cell? ⟨gb144, 5, none⟩ = some (.slice A1_5 l1_5.length c1_5) := (blk_cell BK144.out 5).trans rfl; have hcz99_6 : wr.cell? ⟨gb144, 6, none⟩ = some (.slice A1_6 l1_6.length c1_6) := (blk_cell BK144.out 6).trans rfl; have hcz99_7 : wr.cell? ⟨gb144, 7, none⟩ = some (.slice A1_7 l1_7.length c1_7) := (blk_cell BK144.out 7).trans rfl; have hcz99_8 : wr.cell? ⟨gb144, 8, none⟩ = some (.int .i64 a1_8) := (blk_cell BK144.out 8).trans rfl; have hfz99_0 := blk_frozen BK144.out 0; have hfz99_1 := blk_frozen BK144.out 1; have hfz99_2 := blk_frozen BK144.out 2; have hfz99_3 := blk_frozen BK144.out 3; have hfz99_4 := blk_frozen BK144.out 4; have hfz99_5 := blk_frozen BK144.out 5; have hfz99_6 := blk_frozen BK144.out 6; have hfz99_7 := blk_frozen BK144.out 7; have hfz99_8 := blk_frozen BK144.out 8; have p157 : 0 ≤ (x9_6 : Int) := of_decide_eq_true (by first | (with_reducible assumption) | assumption)
                                        have q157 : x9_6 < (l1_7.length : Int) := of_decide_eq_true (by first | (with_reducible assumption) | assumption)
                                        obtain ⟨ad157, e157, hx157_0, hx157_1⟩ := at_T65 HR1_7.out x9_6 p157 q157
                                        cases e157; replace hx157_0 := (HB.out.cell (World.block_lt_of_cell? w _ hx157_0)).trans hx157_0; replace hx157_1 := (HB.out.cell (World.block_lt_of_cell? w _ hx157_1)).trans hx157_1; replace p157 := eq_true p157; replace q157 := eq_true q157; go_wp2
                                        repeat (go_quiet (fail); try go_wp2)
                                        go_ret
                                        exact ⟨by first | rfl | (simp [errW_none, errW_some] <;> rfl) | (simp [*, errW_none, errW_some] <;> rfl), by repeat (first | (with_reducible first | exact HB.out | apply below_alloc | apply pw_below_drewN | apply below_drew1 | refine below_set ?_ GE143.out | refine below_set ?_ GE144.out) | exact HB.out)⟩
                                      · rw [if_neg c96] at H
                                        have c96b0 : (!(((rd_T65 l0_7 x9_6).f0) == ((rd_T65 l1_7 x9_6).f0)) || (!(((rd_T65 l0_7 x9_6).f1) == ((rd_T65 l1_7 x9_6).f1)))) = false := by simpa using c96
                                        clear c96; have H' := Aside0.mk H
                                        clear H; have hnb100 := NB143_144.out; have hnc100 := NB144_143.out; have hcz101_0 : wr.cell? ⟨gb143, 0, none⟩ = some (.slice A0_0 l0_0.length c0_0) := (blk_cell BK143.out 0).trans rfl; have hcz101_1 : wr.cell? ⟨gb143, 1, none⟩ = some (.slice A0_1 l0_1.length c0_1) := (blk_cell BK143.out 1).trans rfl; have hcz101_2 : wr.cell? ⟨gb143, 2, none⟩ = some (.slice A0_2 l0_2.length c0_2) := (blk_cell BK143.out 2).trans rfl; have hcz101_3 : wr.cell? ⟨gb143, 3, none⟩ = some (.int .i64 a0_3) := (blk_cell BK143.out 3).trans rfl; have hcz101_4 : wr.cell? ⟨gb143, 4, none⟩ = some (.slice A0_4 l0_4.length c0_4) := (blk_cell BK143.out 4).trans rfl; have hcz101_5 : wr.cell? ⟨gb143, 5, none⟩ = some (.slice A0_5 l0_5.length c0_5) := (blk_cell BK143.out 5).trans rfl; have hcz101_6 : wr.cell? ⟨gb143, 6, none⟩ = some (.slice A0_6 l0_6.length c0_6) := (blk_cell BK143.out 6).trans rfl; have hcz101_7 : wr.cell? ⟨gb143, 7, none⟩ = some (.slice A0_7 l0_7.length c0_7) := (blk_cell BK143.out 7).trans rfl; have hcz101_8 : wr.cell? ⟨gb143, 8, none⟩ = some (.int .i64 a0_8) := (blk_cell BK143.out 8).trans rfl; have hfz101_0 := blk_frozen BK143.out 0; have hfz101_1 := blk_frozen BK143.out 1; have hfz101_2 := blk_frozen BK143.out 2; have hfz101_3 := blk_frozen BK143.out 3; have hfz101_4 := blk_frozen BK143.out 4; have hfz101_5 := blk_frozen BK143.out 5; have hfz101_6 := blk_frozen BK143.out 6; have hfz101_7 := blk_frozen BK143.out 7; have hfz101_8 := blk_frozen BK143.out 8; have p156 : 0 ≤ (x9_6 : Int) := of_decide_eq_true (by first | (with_reducible assumption) | assumption)
                                        have q156 : x9_6 < (l0_7.length : Int) := of_decide_eq_true (by first | (with_reducible assumption) | assumption)
                                        obtain ⟨ad156, e156, hx156_0, hx156_1⟩ := at_T65 HR0_7.out x9_6 p156 q156
                                        cases e156; replace hx156_0 := (HB.out.cell (World.block_lt_of_cell? w _ hx156_0)).trans hx156_0; replace hx156_1 := (HB.out.cell (World.block_lt_of_cell? w _ hx156_1)).trans hx156_1; replace p156 := eq_true p156; replace q156 := eq_true q156; have hcz102_0 : wr.cell? ⟨gb144, 0, none⟩ = some (.slice A1_0 l1_0.length c1_0) := (blk_cell BK144.out 0).trans rfl; have hcz102_1 : wr.cell? ⟨gb144, 1, none⟩ = some (.slice A1_1 l1_1.length c1_1) := (blk_cell BK144.out 1).trans rfl; have hcz102_2 : wr.cell? ⟨gb144, 2, none⟩ = some (.slice A1_2 l1_2.length c1_2) := (blk_cell BK144.out 2).trans rfl; have hcz102_3 : wr.cell? ⟨gb144, 3, none⟩ = some (.int .i64 a1_3) := (blk_cell BK144.out 3).trans rfl; have hcz102_4 : wr.cell? ⟨gb144, 4, none⟩ = some (.slice A1_4 l1_4.length c1_4) := (blk_cell BK144.out 4).trans rfl; have hcz102_5 : wr.cell? ⟨gb144, 5, none⟩ = some (.slice A1_5 l1_5.length c1_5) := (blk_cell BK144.out 5).trans rfl; have hcz102_6 : wr.cell? ⟨gb144, 6, none⟩ = some (.slice A1_6 l1_6.length c1_6) := (blk_cell BK144.out 6).trans rfl; have hcz102_7 : wr.cell? ⟨gb144, 7, none⟩ = some (.slice A1_7 l1_7.length c1_7) := (blk_cell BK144.out 7).trans rfl; have hcz102_8 : wr.cell? ⟨gb144, 8, none⟩ = some (.int .i64 a1_8) := (blk_cell BK144.out 8).trans rfl; have hfz102_0 := blk_frozen BK144.out 0; have hfz102_1 := blk_frozen BK144.out 1; have hfz102_2 := blk_frozen BK144.out 2; have hfz102_3 := blk_frozen BK144.out 3; have hfz102_4 := blk_frozen BK144.out 4; have hfz102_5 := blk_frozen BK144.out 5; have hfz102_6 := blk_frozen BK144.out 6; have hfz102_7 := blk_frozen BK144.out 7; have hfz102_8 := blk_frozen BK144.out 8; have p157 : 0 ≤ (x9_6 : Int) := of_decide_eq_true (by first | (with_reducible assumption) | assumption)
                                        have q157 : x9_6 < (l1_7.length : Int) := of_decide_eq_true (by first | (with_reducible assumption) | assumption)
                                        obtain ⟨ad157, e157, hx157_0, hx157_1⟩ := at_T65 HR1_7.out x9_6 p157 q157
                                        cases e157; replace hx157_0 := (HB.out.cell (World.block_lt_of_cell? w _ hx157_0)).trans hx157_0; replace hx157_1 := (HB.out.cell (World.block_lt_of_cell? w _ hx157_1)).trans hx157_1; replace p157 := eq_true p157; replace q157 := eq_true q157; go_wp2
                                        repeat (go_quiet (fail); try go_wp2)
                                        go_roundg k6
                                        case measure => have := HJ2.out; have := HK2.out; have := HK3.out; have := HK4.out; have := HK5.out; have := HK6.out; omega
                                        case rel => exact ⟨(wrap64 (x9_6 + 1)), (by first | rfl | (simp; done) | (simp [*]; done)), H', ⟨by have := HJ2.out; have := HK2.out; have := HK3.out; have := HK4.out; have := HK5.out; have := HK6.out; omega⟩, ⟨by (with_reducible repeat (first | refine blk_drewN ?_ _ | refine blk_drew ?_ | refine blk_alloc ?_ _)); exact BK143.out⟩, ⟨by (with_reducible repeat (first | refine blk_drewN ?_ _ | refine blk_drew ?_ | refine blk_alloc ?_ _)); exact BK144.out⟩, ⟨by repeat (first | (with_reducible first | exact HB.out | apply below_alloc | apply pw_below_drewN | apply below_drew1 | refine below_set ?_ GE143.out | refine below_set ?_ GE144.out) | exact HB.out)⟩⟩
                                    · rw [if_neg c93] at H
                                      have c93b0 : decide (x9_6 < (l0_7.length : Int)) = false := decide_eq_false c93; clear c93; obtain rfl := Option.some.inj H
                                      have hnb103 := NB143_144.out; have hnc103 := NB144_143.out; have hcz104_0 : wr.cell? ⟨gb143, 0, none⟩ = some (.slice A0_0 l0_0.length c0_0) := (blk_cell BK143.out 0).trans rfl; have hcz104_1 : wr.cell? ⟨gb143, 1, none⟩ = some (.slice A0_1 l0_1.length c0_1) := (blk_cell BK143.out 1).trans rfl; have hcz104_2 : wr.cell? ⟨gb143, 2, none⟩ = some (.slice A0_2 l0_2.length c0_2) := (blk_cell BK143.out 2).trans rfl; have hcz104_3 : wr.cell? ⟨gb143, 3, none⟩ = some (.int .i64 a0_3) := (blk_cell BK143.out 3).trans rfl; have hcz104_4 : wr.cell? ⟨gb143, 4, none⟩ = some (.slice A0_4 l0_4.length c0_4) := (blk_cell BK143.out 4).trans rfl; have hcz104_5 : wr.cell? ⟨gb143, 5, none⟩ = some (.slice A0_5 l0_5.length c0_5) := (blk_cell BK143.out 5).trans rfl; have hcz104_6 : wr.cell? ⟨gb143, 6, none⟩ = some (.slice A0_6 l0_6.length c0_6) := (blk_cell BK143.out 6).trans rfl; have hcz104_7 : wr.cell? ⟨gb143, 7, none⟩ = some (.slice A0_7 l0_7.length c0_7) := (blk_cell BK143.out 7).trans rfl; have hcz104_8 : wr.cell? ⟨gb143, 8, none⟩ = some (.int .i64 a0_8) := (blk_cell BK143.out 8).trans rfl; have hfz104_0 := blk_frozen BK143.out 0; have hfz104_1 := blk_frozen BK143.out 1; have hfz104_2 := blk_frozen BK143.out 2; have hfz104_3 := blk_frozen BK143.out 3; have hfz104_4 := blk_frozen BK143.out 4; have hfz104_5 := blk_frozen BK143.out 5; have hfz104_6 := blk_frozen BK143.out 6; have hfz104_7 := blk_frozen BK143.out 7; have hfz104_8 := blk_frozen BK143.out 8; go_wp2
                                      repeat (go_quiet (fail); try go_wp2)
                                      go_ret
                                      exact ⟨by first | rfl | (simp [errW_none, errW_some] <;> rfl) | (simp [*, errW_none, errW_some] <;> rfl), by repeat (first | (with_reducible first | exact HB.out | apply below_alloc | apply pw_below_drewN | apply below_drew1 | refine below_set ?_ GE143.out | refine below_set ?_ GE144.out) | exact HB.out)⟩

end Go.Proofs.Ytdgaklldijkoaaa.PCode
