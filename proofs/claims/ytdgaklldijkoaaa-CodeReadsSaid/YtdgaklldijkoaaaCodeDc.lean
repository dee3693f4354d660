-- Written by a program of this session (over the kit's printer): not typed by hand.
import Derived.Test.YtdgaklldijkoaaaPCodex0
import Derived.Test.YtdgaklldijkoaaaPCodex7
import Derived.Test.YtdgaklldijkoaaaCodeCu
namespace Go.Proofs.Ytdgaklldijkoaaa.PCode
open Go.RowKit Go.Proofs.YtdgaklldijkoaaaW.PrintWords Go.Proofs.YtdgaklldijkoaaaW.PrintLast Go.Proofs.YtdgaklldijkoaaaW.PrintMore
attribute [local go_sem] max2_int min2_int max_two min_two max_three min_three max_four min_four   -- for this text's walks alone
set_option linter.unusedVariables false
set_option linter.unusedSimpArgs false

theorem infoD25 : (Try.prog.info? 25).map (fun i => (i.zero, i.size, i.bytes)) = some (some (.slice none 0 0), 1, 24) := by kernel_rfl
theorem infoD44 : (Try.prog.info? 44).map (fun i => (i.zero, i.size, i.bytes)) = some (some (.agg #[(.int .i64 0), (.int .i64 0), (.int .i64 0)]), 3, 24) := by kernel_rfl
theorem infoD46 : (Try.prog.info? 46).map (fun i => (i.zero, i.size, i.bytes)) = some (some (.agg #[(.int .i64 0), (.int .i64 0), (.int .i64 0)]), 3, 24) := by kernel_rfl
theorem infoD56 : (Try.prog.info? 56).map (fun i => (i.zero, i.size, i.bytes)) = some (some (.agg #[(.int .i64 0), (.int .i64 0)]), 2, 16) := by kernel_rfl
theorem infoD65 : (Try.prog.info? 65).map (fun i => (i.zero, i.size, i.bytes)) = some (some (.agg #[(.int .i64 0), (.int .i64 0)]), 2, 16) := by kernel_rfl
/-! ### signalboxref1_Decode: function 17 -/
mutual
def signalboxref1_Decode.j0 : Nat → List Int → Bool → Option ((List (S44)) × (List (S46)) × (List (S56)) × Int × List Int × List Int × (List (List Int)) × (List (S65)) × Int × Int)
 | 0, _, _ => none
 | k + 1, x0, x34 => if x34 = true then (some (([] : List (S44)), ([] : List (S46)), ([] : List (S56)), 0, ([] : List Int), ([] : List Int), ([] : List (List Int)), ([] : List (S65)), 0, 5)) else ((signalboxref1_Cursor_count.f k x0 2 false 3).bind fun bt273 => (signalboxref1_Decode.l0 k x0 bt273.1 0 x0 bt273.2.1 bt273.2.2 ([] : List (S44)) 0 0))
def signalboxref1_Decode.l0 : Nat → List Int → Int → Int → List Int → Int → Bool → List (S44) → Int → Int → Option ((List (S44)) × (List (S46)) × (List (S56)) × Int × List Int × List Int × (List (List Int)) × (List (S65)) × Int × Int)
 | 0, _, _, _, _, _, _, _, _, _ => none
 | k + 1, x0, x6, x7, x272000, x272001, x272002, x273000, x273003, x273008 => if x7 < x6 then ((signalboxref1_Cursor_num.f k x272000 x272001 x272002 8).bind fun bt276 => ((signalboxref1_Cursor_num.f k x272000 bt276.2.1 bt276.2.2 8).bind fun bt279 => ((signalboxref1_Cursor_num.f k x272000 bt279.2.1 bt279.2.2 8).bind fun bt282 => (if x273000.length < 5864062014805 then (signalboxref1_Decode.l0 k x0 x6 (wrap64 (x7 + 1)) x272000 bt282.2.1 bt282.2.2 (x273000 ++ [(⟨bt276.1, bt279.1, bt282.1⟩ : S44)]) x273003 x273008) else (none))))) else ((signalboxref1_Cursor_count.f k x272000 x272001 x272002 3).bind fun bt288 => (signalboxref1_Decode.l1 k x0 bt288.1 0 x272000 bt288.2.1 bt288.2.2 x273000 ([] : List (S46)) x273003 x273008))
def signalboxref1_Decode.l1 : Nat → List Int → Int → Int → List Int → Int → Bool → List (S44) → List (S46) → Int → Int → Option ((List (S44)) × (List (S46)) × (List (S56)) × Int × List Int × List Int × (List (List Int)) × (List (S65)) × Int × Int)
 | 0, _, _, _, _, _, _, _, _, _, _ => none
 | k + 1, x0, x6, x10, x272000, x272001, x272002, x273000, x273001, x273003, x273008 => if x10 < x6 then ((signalboxref1_Cursor_num.f k x272000 x272001 x272002 8).bind fun bt291 => ((signalboxref1_Cursor_num.f k x272000 bt291.2.1 bt291.2.2 8).bind fun bt294 => ((signalboxref1_Cursor_num.f k x272000 bt294.2.1 bt294.2.2 8).bind fun bt297 => (if x273001.length < 5864062014805 then (signalboxref1_Decode.l1 k x0 x6 (wrap64 (x10 + 1)) x272000 bt297.2.1 bt297.2.2 x273000 (x273001 ++ [(⟨bt291.1, bt294.1, bt297.1⟩ : S46)]) x273003 x273008) else (none))))) else ((signalboxref1_Cursor_count.f k x272000 x272001 x272002 2).bind fun bt303 => (signalboxref1_Decode.l2 k x0 bt303.1 0 x272000 bt303.2.1 bt303.2.2 x273000 x273001 ([] : List (S56)) x273003 x273008))
def signalboxref1_Decode.l2 : Nat → List Int → Int → Int → List Int → Int → Bool → List (S44) → List (S46) → List (S56) → Int → Int → Option ((List (S44)) × (List (S46)) × (List (S56)) × Int × List Int × List Int × (List (List Int)) × (List (S65)) × Int × Int)
 | 0, _, _, _, _, _, _, _, _, _, _, _ => none
 | k + 1, x0, x6, x13, x272000, x272001, x272002, x273000, x273001, x273002, x273003, x273008 => if x13 < x6 then ((signalboxref1_Cursor_num.f k x272000 x272001 x272002 8).bind fun bt306 => ((signalboxref1_Cursor_num.f k x272000 bt306.2.1 bt306.2.2 8).bind fun bt309 => (if x273002.length < 8796093022208 then (signalboxref1_Decode.l2 k x0 x6 (wrap64 (x13 + 1)) x272000 bt309.2.1 bt309.2.2 x273000 x273001 (x273002 ++ [(⟨bt306.1, bt309.1⟩ : S56)]) x273003 x273008) else (none)))) else ((signalboxref1_Cursor_num.f k x272000 x272001 x272002 8).bind fun bt315 => ((signalboxref1_Cursor_nums.f k x272000 bt315.2.1 bt315.2.2).bind fun bt318 => ((signalboxref1_Cursor_nums.f k x272000 bt318.2.1 bt318.2.2).bind fun bt323 => ((signalboxref1_Cursor_count.f k x272000 bt323.2.1 bt323.2.2 (bt323.1.length : Int)).bind fun bt328 => (signalboxref1_Decode.l3 k x0 bt328.1 0 x272000 bt328.2.1 bt328.2.2 x273000 x273001 x273002 bt315.1 bt318.1 bt323.1 ([] : List (List Int)) x273008)))))
def signalboxref1_Decode.l3 : Nat → List Int → Int → Int → List Int → Int → Bool → List (S44) → List (S46) → List (S56) → Int → List Int → List Int → List (List Int) → Int → Option ((List (S44)) × (List (S46)) × (List (S56)) × Int × List Int × List Int × (List (List Int)) × (List (S65)) × Int × Int)
 | 0, _, _, _, _, _, _, _, _, _, _, _, _, _, _ => none
 | k + 1, x0, x6, x15, x272000, x272001, x272002, x273000, x273001, x273002, x273003, x273004, x273005, x273006, x273008 => if x15 < x6 then (signalboxref1_Decode.l4 k x0 x6 x15 (([] : List Int)) 0 x272000 x272001 x272002 x273000 x273001 x273002 x273003 x273004 x273005 x273006 x273008) else ((signalboxref1_Cursor_count.f k x272000 x272001 x272002 2).bind fun bt343 => (signalboxref1_Decode.l5 k x0 bt343.1 0 x272000 bt343.2.1 bt343.2.2 x273000 x273001 x273002 x273003 x273004 x273005 x273006 ([] : List (S65)) x273008))
def signalboxref1_Decode.l4 : Nat → List Int → Int → Int → List Int → Int → List Int → Int → Bool → List (S44) → List (S46) → List (S56) → Int → List Int → List Int → List (List Int) → Int → Option ((List (S44)) × (List (S46)) × (List (S56)) × Int × List Int × List Int × (List (List Int)) × (List (S65)) × Int × Int)
 | 0, _, _, _, _, _, _, _, _, _, _, _, _, _, _, _, _ => none
 | k + 1, x0, x6, x15, x16, x17, x272000, x272001, x272002, x273000, x273001, x273002, x273003, x273004, x273005, x273006, x273008 => if x17 < (x273005.length : Int) then ((signalboxref1_Cursor_num.f k x272000 x272001 x272002 8).bind fun bt334 => (if x16.length < 17592186044416 then (signalboxref1_Decode.l4 k x0 x6 x15 (x16 ++ [bt334.1]) (wrap64 (x17 + 1)) x272000 bt334.2.1 bt334.2.2 x273000 x273001 x273002 x273003 x273004 x273005 x273006 x273008) else (none))) else (if x273006.length < 5864062014805 then (signalboxref1_Decode.l3 k x0 x6 (wrap64 (x15 + 1)) x272000 x272001 x272002 x273000 x273001 x273002 x273003 x273004 x273005 (x273006 ++ [x16]) x273008) else (none))
def signalboxref1_Decode.l5 : Nat → List Int → Int → Int → List Int → Int → Bool → List (S44) → List (S46) → List (S56) → Int → List Int → List Int → List (List Int) → List (S65) → Int → Option ((List (S44)) × (List (S46)) × (List (S56)) × Int × List Int × List Int × (List (List Int)) × (List (S65)) × Int × Int)
 | 0, _, _, _, _, _, _, _, _, _, _, _, _, _, _, _ => none
 | k + 1, x0, x6, x18, x272000, x272001, x272002, x273000, x273001, x273002, x273003, x273004, x273005, x273006, x273007, x273008 => if x18 < x6 then ((signalboxref1_Cursor_num.f k x272000 x272001 x272002 8).bind fun bt346 => ((signalboxref1_Cursor_num.f k x272000 bt346.2.1 bt346.2.2 8).bind fun bt349 => (if x273007.length < 8796093022208 then (signalboxref1_Decode.l5 k x0 x6 (wrap64 (x18 + 1)) x272000 bt349.2.1 bt349.2.2 x273000 x273001 x273002 x273003 x273004 x273005 x273006 (x273007 ++ [(⟨bt346.1, bt349.1⟩ : S65)]) x273008) else (none)))) else ((signalboxref1_Cursor_num.f k x272000 x272001 x272002 8).bind fun bt355 => (if bt355.2.2 = true then (some (([] : List (S44)), ([] : List (S46)), ([] : List (S56)), 0, ([] : List Int), ([] : List Int), ([] : List (List Int)), ([] : List (S65)), 0, 5)) else (if bt355.2.1 = (x0.length : Int) then ((signalboxref1_May.f k x273000 x273001 x273002 x273003 x273004 x273005 x273006 x273007 bt355.1).bind fun t358 => (if t358 = true then (some (x273000, x273001, x273002, x273003, x273004, x273005, x273006, x273007, bt355.1, 0)) else (some (([] : List (S44)), ([] : List (S46)), ([] : List (S56)), 0, ([] : List Int), ([] : List Int), ([] : List (List Int)), ([] : List (S65)), 0, 5)))) else (some (([] : List (S44)), ([] : List (S46)), ([] : List (S56)), 0, ([] : List Int), ([] : List Int), ([] : List (List Int)), ([] : List (S65)), 0, 5)))))
end
def signalboxref1_Decode.f (k : Nat) (l0 : List Int) : Option ((List (S44)) × (List (S46)) × (List (S56)) × Int × List Int × List Int × (List (List Int)) × (List (S65)) × Int × Int) := if (l0.length : Int) < 2 then (signalboxref1_Decode.j0 k l0 true) else (if 0 < (l0.length : Int) then (if (rd l0 0) = 83 then (if 1 < (l0.length : Int) then (signalboxref1_Decode.j0 k l0 ((rd l0 1) != 66)) else (none)) else (signalboxref1_Decode.j0 k l0 true)) else (none))
theorem iS_of {w W W' : World} {a : Nat} {row : Option Nat} {g : Nat} {f0 : List Int} {f1 : Int} {f2 : Bool} (_ : KeepBut W W' a row) (h : IsS101 w W g f0 f1 f2) : IsS101 w W g f0 f1 f2 := h
def signalboxref1_Decode.T11 : Bool × List (List Nat × List Nat) := (true, [([], []), ([0], [0]), ([], []), ([], []), ([], []), ([4], [4]), ([2, 3, 5], [2, 3, 5]), ([6], [6]), ([1, 7, 5], [1, 7]), ([0, 1, 2, 3, 4, 5, 6, 7, 8], []), ([9, 8, 8, 0, 1, 2, 3, 4, 5, 6, 7, 8], [8, 9])])
def signalboxref1_Decode.B11 : List Nat := [0, 1, 0, 0, 0, 16, 60, 124, 255, 511, 1023]
theorem signalboxref1_Decode.tab11 : rtab .any (opsOf Try.f17 11) = signalboxref1_Decode.T11 := by kernel_rfl
theorem signalboxref1_Decode.bits11 : waitsOk signalboxref1_Decode.T11.2 signalboxref1_Decode.B11 = true := by kernel_rfl
def signalboxref1_Decode.T18 : Bool × List (List Nat × List Nat) := (true, [([], []), ([0], [0]), ([], []), ([], []), ([], []), ([4], [4]), ([2, 3, 5], [2, 3, 5]), ([6], [6]), ([1, 7, 5], [1, 7]), ([0, 1, 2, 3, 4, 5, 6, 7, 8], []), ([9, 8, 8, 0, 1, 2, 3, 4, 5, 6, 7, 8], [8, 9])])
def signalboxref1_Decode.B18 : List Nat := [0, 1, 0, 0, 0, 16, 60, 124, 255, 511, 1023]
theorem signalboxref1_Decode.tab18 : rtab .any (opsOf Try.f17 18) = signalboxref1_Decode.T18 := by kernel_rfl
theorem signalboxref1_Decode.bits18 : waitsOk signalboxref1_Decode.T18.2 signalboxref1_Decode.B18 = true := by kernel_rfl
def signalboxref1_Decode.T24 : Bool × List (List Nat × List Nat) := (true, [([], []), ([0], [0]), ([], []), ([], []), ([3], [3]), ([2, 4], [2, 4]), ([5], [5]), ([1, 6, 4], [1, 6]), ([0, 1, 2, 3, 4, 5, 6, 7], []), ([8, 7, 7, 0, 1, 2, 3, 4, 5, 6, 7], [7, 8])])
def signalboxref1_Decode.B24 : List Nat := [0, 1, 0, 0, 8, 28, 60, 127, 255, 511]
theorem signalboxref1_Decode.tab24 : rtab .any (opsOf Try.f17 24) = signalboxref1_Decode.T24 := by kernel_rfl
theorem signalboxref1_Decode.bits24 : waitsOk signalboxref1_Decode.T24.2 signalboxref1_Decode.B24 = true := by kernel_rfl
def signalboxref1_Decode.T43 : Bool × List (List Nat × List Nat) := (true, [([], []), ([0], [0]), ([], []), ([], []), ([3], [3]), ([2, 4], [2, 4]), ([5], [5]), ([1, 6, 4], [1, 6]), ([0, 1, 2, 3, 4, 5, 6, 7], []), ([8, 7, 7, 0, 1, 2, 3, 4, 5, 6, 7], [7, 8])])
def signalboxref1_Decode.B43 : List Nat := [0, 1, 0, 0, 8, 28, 60, 127, 255, 511]
theorem signalboxref1_Decode.tab43 : rtab .any (opsOf Try.f17 43) = signalboxref1_Decode.T43 := by kernel_rfl
theorem signalboxref1_Decode.bits43 : waitsOk signalboxref1_Decode.T43.2 signalboxref1_Decode.B43 = true := by kernel_rfl
theorem kA : type_of% @Kd.R_alloc := @Kd.R_alloc
theorem kN : type_of% @Kd.R_drewN := @Kd.R_drewN
theorem kD : type_of% @Kd.R_drew := @Kd.R_drew
theorem iA : type_of% @IsS101.alloc := @IsS101.alloc
theorem iN : type_of% @IsS101.drewN := @IsS101.drewN
theorem iD : type_of% @IsS101.drew := @IsS101.drew
theorem iF : type_of% @IsS101.far := @IsS101.far
theorem bN : type_of% @blk_drewN := @blk_drewN
theorem bD : type_of% @blk_drew := @blk_drew
theorem bA : type_of% @blk_alloc := @blk_alloc
theorem bC : type_of% @blk_cell := @blk_cell
theorem bF : type_of% @blk_frozen := @blk_frozen
theorem aK : type_of% @Aside0.mk := @Aside0.mk
theorem pN : type_of% @pw_below_drewN := @pw_below_drewN
theorem pD : type_of% @below_drew1 := @below_drew1
theorem pA : type_of% @below_alloc := @below_alloc
theorem pS : type_of% @below_set := @below_set
theorem kM : type_of% @Kd.R_mono := @Kd.R_mono
theorem kK : type_of% @Kd.R_keep := @Kd.R_keep
theorem iP : type_of% @IsS101.apart := @IsS101.apart
theorem kF : type_of% @Kd.R_far := @Kd.R_far
theorem kB : type_of% @KeepBut.blk := @KeepBut.blk
theorem kT : type_of% @Kd.R_types := @Kd.R_types
theorem iG : type_of% @IsS101.ge := @IsS101.ge
set_option maxHeartbeats 8000000 in
set_option maxRecDepth 100000 in
theorem signalboxref1_Decode.calls (k : Nat) (A0 : Option Addr) (c0 : Nat) (l0 : List Int) (r1 : List (S44)) (r2 : List (S46)) (r3 : List (S56)) (r4 : Int) (r5 : List Int) (r6 : List Int) (r7 : List (List Int)) (r8 : List (S65)) (r9 : Int) (r10 : Int) (w : World) (hr0 : Kd.C (Kd.int .u8) w A0 l0.length l0) (hc0 : l0.length ≤ c0) (h : signalboxref1_Decode.f k l0 = some (r1, r2, r3, r4, r5, r6, r7, r8, r9, r10)) :
  Calls Try.prog 17 #[.slice A0 l0.length c0] w fun e w' => ∃ v0_ v1_ v2_ v4_ v5_ v6_ v7_ : Value, e = .returned (.tuple #[.agg #[v0_, v1_, v2_, .int .i64 r4, v4_, v5_, v6_, v7_, .int .i64 r9], .int .i64 r10]) ∧ Kd.R k44 44 w' w.heap.size (fun _ => True) v0_ r1 ∧ Kd.R k46 46 w' w.heap.size (fun _ => True) v1_ r2 ∧ Kd.R k56 56 w' w.heap.size (fun _ => True) v2_ r3 ∧ Kd.R (Kd.int .i64) 3 w' w.heap.size (fun k_ => some k_ ≠ (v5_ : Value).ownBlock) v4_ r5 ∧ Kd.R (Kd.int .i64) 3 w' w.heap.size (fun k_ => some k_ ≠ (v4_ : Value).ownBlock) v5_ r6 ∧ Kd.S (Kd.slice 3 (Kd.int .i64)) 25 w' w.heap.size (fun k_ => some k_ ≠ (v4_ : Value).ownBlock ∧ some k_ ≠ (v5_ : Value).ownBlock) v6_ r7 ∧ Kd.R k65 65 w' w.heap.size (fun _ => True) v7_ r8 ∧ Below w.heap.size w w' := by
 have hu29 := Try.underlying29; have hu101 := Try.underlying101; have hu44 := Try.underlying44; have hu46 := Try.underlying46; have hu56 := Try.underlying56; have hu65 := Try.underlying65; have HR0 := aK hr0; have HC0 := aK hc0; clear hr0 hc0; have HB := aK (Below.refl w.heap.size w); have H : (if (l0.length : Int) < 2 then (signalboxref1_Decode.j0 k l0 true) else (if 0 < (l0.length : Int) then (if (rd l0 0) = 83 then (if 1 < (l0.length : Int) then (signalboxref1_Decode.j0 k l0 ((rd l0 1) != 66)) else (none)) else (signalboxref1_Decode.j0 k l0 true)) else (none))) = some (r1, r2, r3, r4, r5, r6, r7, r8, r9, r10) := h
 clear h; have HC2 := aK H; clear H; go_enter Try.func17, Try.ntmps17
 go_upto_region 1 with (first | ((with_reducible refine gate_dst (N := 2) rfl ?_); (try (refine gate_guard (by rfl) ?_; dsimp only)); refine box_event ?hg (N := 2) ?hd (cs := #[.slice none 0 0, .slice none 0 0, .slice none 0 0, .int .i64 0, .slice none 0 0, .slice none 0 0, .slice none 0 0, .slice none 0 0, .int .i64 0]) (t := 29) ?hr ?_; (case hd => rfl); (case hg => rfl); (case hr => first | (go_simp; done) | (go_simp; rfl)); intro a5 hg w3 hbox hb; have a3 := aK (hbox); have GW268 := aK ((by rw [hg]; exact (below_size (by repeat (first | (with_reducible first | exact HB.out | apply pA | apply pN | apply pD) | exact HB.out))) : w.heap.size ≤ a5)); have ak := aK ((by rw [hg]; exact (below_size (by repeat (first | (with_reducible first | exact HB.out | apply pA | apply pN | apply pD) | exact HB.out))) : w.heap.size ≤ a5)); replace HB := aK (below_step (by repeat (first | (with_reducible first | exact HB.out | apply pA | apply pN | apply pD) | exact HB.out)) hb); clear hb hbox hg))
 (try simp only [Act.put, List.setIfInBounds_toArray, List.set_cons_zero, List.set_cons_succ])
 go_cut [34] (fun v34 wc => ∃ (kq : Nat) (x34_1 : Bool), v34 = .bool x34_1 ∧ Aside0 (signalboxref1_Decode.j0 kq l0 x34_1 = some (r1, r2, r3, r4, r5, r6, r7, r8, r9, r10)) ∧ Aside0 (kq ≤ k) ∧ Aside0 (wc.heap[a5]? = some (.cells #[(.slice none 0 0), (.slice none 0 0), (.slice none 0 0), .int .i64 0, (.slice none 0 0), (.slice none 0 0), (.slice none 0 0), (.slice none 0 0), .int .i64 0] 29 (0, 0))) ∧ Aside0 (Below w.heap.size w wc))
 case first =>
  have H := HC2.out; clear HC2
  by_cases c4 : (l0.length : Int) < 2
  ·rw [if_pos c4] at H
   have c4b0 : decide ((l0.length : Int) < 2) = true := decide_eq_true c4; have c4b1 : decide (l0.length < 2) = true := decide_eq_true (by omega); clear c4
   (first | rw [c4b0] | (simp only [i64_w, i32_w]; rw [c4b0]) | skip)
   have H' := aK H
   clear H; go_wp2
   go_meet
   case rel => exact ⟨_, (true), (by first | rfl | (simp; done) | (simp [*]; done)), H', ⟨by first | omega | exact Nat.le_refl _⟩, ⟨by (with_reducible repeat (first | refine bN ?_ _ | refine bD ?_ | refine bA ?_ _)); exact a3.out⟩, ⟨by repeat (first | (with_reducible first | exact HB.out | apply pA | apply pN | apply pD | refine pS ?_ ak.out) | exact HB.out)⟩⟩
  ·rw [if_neg c4] at H
   have c4b0 : decide ((l0.length : Int) < 2) = false := decide_eq_false c4; have c4b1 : decide (l0.length < 2) = false := decide_eq_false (by omega); clear c4
   (first | rw [c4b0] | (simp only [i64_w, i32_w]; rw [c4b0]) | skip)
   by_cases c5 : 0 < (l0.length : Int)
   case neg =>
    rw [if_neg c5] at H
    exact absurd H (by simp)
   rw [if_pos c5] at H
   have c5b0 : decide (0 < (l0.length : Int)) = true := decide_eq_true c5; have c5b1 : decide (0 < l0.length) = true := decide_eq_true (by omega); clear c5
   by_cases c6 : (rd l0 0) = 83
   ·rw [if_pos c6] at H
    have c6b0 : ((rd l0 0) == 83) = true := beq_iff_eq.mpr c6; have c6b1 : ((rd l0 0) != 83) = false := bne_eq_false_iff_eq.mpr c6; clear c6
    by_cases c7 : 1 < (l0.length : Int)
    case neg =>
     rw [if_neg c7] at H
     exact absurd H (by simp)
    rw [if_pos c7] at H
    have c7b0 : decide (1 < (l0.length : Int)) = true := decide_eq_true c7; have c7b1 : decide (1 < l0.length) = true := decide_eq_true (by omega); clear c7; have H' := aK H
    clear H; have p269 : 0 ≤ (0 : Int) := (by omega); have q269 : 0 < (l0.length : Int) := of_decide_eq_true (by first | (with_reducible assumption) | assumption)
    obtain ⟨ad269, e269, ax⟩ := Kd.at_int HR0.out 0 p269 q269
    cases e269; have qi269 : (0 < l0.length) = True := eq_true (by omega)
    (try rw [show ((0 : Int)).toNat = 0 from rfl] at ax)
    (try rw [Addr.add_zero'] at ax)
    replace ax := (HB.out.cell (World.block_lt_of_cell? w _ ax)).trans ax; replace p269 := eq_true p269; replace q269 := eq_true q269; have p270 : 0 ≤ (1 : Int) := (by omega); have q270 : 1 < (l0.length : Int) := of_decide_eq_true (by first | (with_reducible assumption) | assumption)
    obtain ⟨ad270, e270, aA⟩ := Kd.at_int HR0.out 1 p270 q270
    obtain rfl : ad269 = ad270 := (by injection e270)
    (try simp only [show (1 : Int).toNat = 1 from rfl, Nat.reduceMul, Nat.reduceEqDiff, Go.Addr.add, ↓reduceIte] at aA)
    have qi270 : (1 < l0.length) = True := eq_true (by omega)
    (try rw [show ((1 : Int)).toNat = 1 from rfl] at aA)
    replace aA := (HB.out.cell (World.block_lt_of_cell? w _ aA)).trans aA; replace p270 := eq_true p270; replace q270 := eq_true q270; go_wp2
    go_meet
    case rel => exact ⟨_, (((rd l0 1) != 66)), (by first | rfl | (simp; done) | (simp [*]; done)), H', ⟨by first | omega | exact Nat.le_refl _⟩, ⟨by (with_reducible repeat (first | refine bN ?_ _ | refine bD ?_ | refine bA ?_ _)); exact a3.out⟩, ⟨by repeat (first | (with_reducible first | exact HB.out | apply pA | apply pN | apply pD | refine pS ?_ ak.out) | exact HB.out)⟩⟩
   ·rw [if_neg c6] at H
    have c6b0 : ((rd l0 0) == 83) = false := beq_eq_false_iff_ne.mpr c6; have c6b1 : ((rd l0 0) != 83) = true := bne_iff_ne.mpr c6; have H' := aK H
    clear H; have p269 : 0 ≤ (0 : Int) := (by omega); have q269 : 0 < (l0.length : Int) := of_decide_eq_true (by first | (with_reducible assumption) | assumption)
    obtain ⟨ad269, e269, ax⟩ := Kd.at_int HR0.out 0 p269 q269
    cases e269; have qi269 : (0 < l0.length) = True := eq_true (by omega)
    (try rw [show ((0 : Int)).toNat = 0 from rfl] at ax)
    (try rw [Addr.add_zero'] at ax)
    replace ax := (HB.out.cell (World.block_lt_of_cell? w _ ax)).trans ax; replace p269 := eq_true p269; replace q269 := eq_true q269; go_wp2
    go_meet
    case rel => exact ⟨_, (true), (by first | rfl | (simp; done) | (simp [*]; done)), H', ⟨by first | omega | exact Nat.le_refl _⟩, ⟨by (with_reducible repeat (first | refine bN ?_ _ | refine bD ?_ | refine bA ?_ _)); exact a3.out⟩, ⟨by repeat (first | (with_reducible first | exact HB.out | apply pA | apply pN | apply pD | refine pS ?_ ak.out) | exact HB.out)⟩⟩
 case rest =>
  clear HC2
  try clear c1
  try clear p2
  try clear q2
  try clear hx2
  try clear qi2
  try clear c4
  try clear c4b0
  try clear c4b1
  try clear c5
  try clear c5b0
  try clear c5b1
  try clear c6
  try clear c6b0
  try clear c6b1
  try clear c7
  try clear c7b0
  try clear c7b1
  try clear ax
  try clear aA
  try clear p269
  try clear p270
  try clear q269
  try clear q270
  obtain ⟨kq, x34_1, rfl, HA, HJ1, a3, HB⟩ := hcut
  cases kq with
  | zero => exact absurd HA.out (by simp [signalboxref1_Decode.j0])
  | succ kj1 =>
   have H := HA.out; clear HA
   simp only [signalboxref1_Decode.j0] at H
   by_cases c8 : x34_1 = true
   ·subst c8; have H1 : (some (([] : List (S44)), ([] : List (S46)), ([] : List (S56)), 0, ([] : List Int), ([] : List Int), ([] : List (List Int)), ([] : List (S65)), 0, 5)) = some (r1, r2, r3, r4, r5, r6, r7, r8, r9, r10) := by rw [if_pos rfl] at H; exact H
    clear H; have H := H1; clear H1
    simp only [Option.some.injEq, Prod.mk.injEq] at H
    obtain ⟨rfl, rfl, rfl, rfl, rfl, rfl, rfl, rfl, rfl, rfl⟩ := H
    have b9 : wc.cell? ⟨a5, 0, none⟩ = some (.slice none 0 0) := (bC a3.out 0).trans rfl; have ba : wc.cell? ⟨a5, 1, none⟩ = some (.slice none 0 0) := (bC a3.out 1).trans rfl; have bb : wc.cell? ⟨a5, 2, none⟩ = some (.slice none 0 0) := (bC a3.out 2).trans rfl; have bc : wc.cell? ⟨a5, 3, none⟩ = some (.int .i64 0) := (bC a3.out 3).trans rfl; have bd : wc.cell? ⟨a5, 4, none⟩ = some (.slice none 0 0) := (bC a3.out 4).trans rfl; have be : wc.cell? ⟨a5, 5, none⟩ = some (.slice none 0 0) := (bC a3.out 5).trans rfl; have bf : wc.cell? ⟨a5, 6, none⟩ = some (.slice none 0 0) := (bC a3.out 6).trans rfl; have bg : wc.cell? ⟨a5, 7, none⟩ = some (.slice none 0 0) := (bC a3.out 7).trans rfl; have bh : wc.cell? ⟨a5, 8, none⟩ = some (.int .i64 0) := (bC a3.out 8).trans rfl; have bi := bF a3.out 0; have bj := bF a3.out 1; have bk := bF a3.out 2; have bl := bF a3.out 3; have bm := bF a3.out 4; have bn := bF a3.out 5; have bo := bF a3.out 6; have bp := bF a3.out 7; have bq := bF a3.out 8; go_wp2
    refine bodyPost_ret (results_ct rfl _ _ a5 29 #[.slice none 0 0, .slice none 0 0, .slice none 0 0, .int .i64 0, .slice none 0 0, .slice none 0 0, .slice none 0 0, .slice none 0 0, .int .i64 0] (0, 0) _ rfl (by (with_reducible repeat (first | refine bN ?_ _ | refine bD ?_ | refine bA ?_ _)); refine blk_put (cs := #[.slice none 0 0, .slice none 0 0, .slice none 0 0, .int .i64 0, .slice none 0 0, .slice none 0 0, .slice none 0 0, .slice none 0 0, .int .i64 0]) ?_ 8 _ rfl; (with_reducible repeat (first | refine bN ?_ _ | refine bD ?_ | refine bA ?_ _)); refine blk_put (cs := #[.slice none 0 0, .slice none 0 0, .slice none 0 0, .int .i64 0, .slice none 0 0, .slice none 0 0, .slice none 0 0, .slice none 0 0, .int .i64 0]) ?_ 7 _ rfl; (with_reducible repeat (first | refine bN ?_ _ | refine bD ?_ | refine bA ?_ _)); refine blk_put (cs := #[.slice none 0 0, .slice none 0 0, .slice none 0 0, .int .i64 0, .slice none 0 0, .slice none 0 0, .slice none 0 0, .slice none 0 0, .int .i64 0]) ?_ 6 _ rfl; (with_reducible repeat (first | refine bN ?_ _ | refine bD ?_ | refine bA ?_ _)); refine blk_put (cs := #[.slice none 0 0, .slice none 0 0, .slice none 0 0, .int .i64 0, .slice none 0 0, .slice none 0 0, .slice none 0 0, .slice none 0 0, .int .i64 0]) ?_ 5 _ rfl; (with_reducible repeat (first | refine bN ?_ _ | refine bD ?_ | refine bA ?_ _)); refine blk_put (cs := #[.slice none 0 0, .slice none 0 0, .slice none 0 0, .int .i64 0, .slice none 0 0, .slice none 0 0, .slice none 0 0, .slice none 0 0, .int .i64 0]) ?_ 4 _ rfl; (with_reducible repeat (first | refine bN ?_ _ | refine bD ?_ | refine bA ?_ _)); refine blk_put (cs := #[.slice none 0 0, .slice none 0 0, .slice none 0 0, .int .i64 0, .slice none 0 0, .slice none 0 0, .slice none 0 0, .slice none 0 0, .int .i64 0]) ?_ 3 _ rfl; (with_reducible repeat (first | refine bN ?_ _ | refine bD ?_ | refine bA ?_ _)); refine blk_put (cs := #[.slice none 0 0, .slice none 0 0, .slice none 0 0, .int .i64 0, .slice none 0 0, .slice none 0 0, .slice none 0 0, .slice none 0 0, .int .i64 0]) ?_ 2 _ rfl; (with_reducible repeat (first | refine bN ?_ _ | refine bD ?_ | refine bA ?_ _)); refine blk_put (cs := #[.slice none 0 0, .slice none 0 0, .slice none 0 0, .int .i64 0, .slice none 0 0, .slice none 0 0, .slice none 0 0, .slice none 0 0, .int .i64 0]) ?_ 1 _ rfl; (with_reducible repeat (first | refine bN ?_ _ | refine bD ?_ | refine bA ?_ _)); refine blk_put (cs := #[.slice none 0 0, .slice none 0 0, .slice none 0 0, .int .i64 0, .slice none 0 0, .slice none 0 0, .slice none 0 0, .slice none 0 0, .int .i64 0]) ?_ 0 _ rfl; (with_reducible repeat (first | refine bN ?_ _ | refine bD ?_ | refine bA ?_ _)); exact a3.out) Try.underlying29 rfl (by kernel_rfl)) rfl ?_
    exact ⟨_, _, _, _, _, _, _, by first | rfl | (simp [errW_none, errW_some] <;> rfl) | (simp [*, errW_none, errW_some] <;> rfl), by first | exact Kd.R_nil _ _ _ _ _ | exact Kd.N_nil _ _ _ _ _ | exact Kd.V_nil _ _ _ _ _ | exact Kd.Q_nil _ _ _ _ _ | exact Kd.S_nil _ _ _ _ _, by first | exact Kd.R_nil _ _ _ _ _ | exact Kd.N_nil _ _ _ _ _ | exact Kd.V_nil _ _ _ _ _ | exact Kd.Q_nil _ _ _ _ _ | exact Kd.S_nil _ _ _ _ _, by first | exact Kd.R_nil _ _ _ _ _ | exact Kd.N_nil _ _ _ _ _ | exact Kd.V_nil _ _ _ _ _ | exact Kd.Q_nil _ _ _ _ _ | exact Kd.S_nil _ _ _ _ _, by first | exact Kd.R_nil _ _ _ _ _ | exact Kd.N_nil _ _ _ _ _ | exact Kd.V_nil _ _ _ _ _ | exact Kd.Q_nil _ _ _ _ _ | exact Kd.S_nil _ _ _ _ _, by first | exact Kd.R_nil _ _ _ _ _ | exact Kd.N_nil _ _ _ _ _ | exact Kd.V_nil _ _ _ _ _ | exact Kd.Q_nil _ _ _ _ _ | exact Kd.S_nil _ _ _ _ _, by first | exact Kd.S_nil _ _ _ _ _ | exact Kd.N_nil _ _ _ _ _ | exact Kd.V_nil _ _ _ _ _ | exact Kd.Q_nil _ _ _ _ _ | exact Kd.R_nil _ _ _ _ _, by first | exact Kd.R_nil _ _ _ _ _ | exact Kd.N_nil _ _ _ _ _ | exact Kd.V_nil _ _ _ _ _ | exact Kd.Q_nil _ _ _ _ _ | exact Kd.S_nil _ _ _ _ _, by repeat (first | (with_reducible first | exact HB.out | apply pA | apply pN | apply pD | refine pS ?_ ak.out) | exact HB.out)⟩
   ·replace c8 := Bool.eq_false_iff.mpr c8; subst c8; have H1 : ((signalboxref1_Cursor_count.f kj1 l0 2 false 3).bind fun bt273 => (signalboxref1_Decode.l0 kj1 l0 bt273.1 0 l0 bt273.2.1 bt273.2.2 ([] : List (S44)) 0 0)) = some (r1, r2, r3, r4, r5, r6, r7, r8, r9, r10) := by rw [if_neg (show ¬ (false = true) by decide)] at H; exact H
    clear H; have H := H1; clear H1; replace H := Option.bind_eq_some_iff.mp H; obtain ⟨⟨t273, t274, t275⟩, A100, H⟩ := H
    replace H : (signalboxref1_Decode.l0 kj1 l0 t273 0 l0 t274 t275 ([] : List (S44)) 0 0) = some (r1, r2, r3, r4, r5, r6, r7, r8, r9, r10) := H
    have A10 := aK A100; clear A100; have H' := aK H
    clear H; go_wp2_with (first | ((with_reducible refine gate_dst (N := 38) rfl ?_); (try (refine gate_guard (by rfl) ?_; dsimp only)); refine box_event ?hg (N := 38) ?hd (cs := #[.slice A0 l0.length c0, .int .i64 2, .bool false]) (t := 101) ?hr ?_; (case hd => rfl); (case hg => rfl); (case hr => first | (go_simp; done) | (go_simp; rfl)); intro ae hg w11 hbox hb; have GW271 := aK ((by rw [hg]; exact (below_size (by repeat (first | (with_reducible first | exact HB.out | apply pA | apply pN | apply pD | refine pS ?_ ak.out) | exact HB.out))) : w.heap.size ≤ ae)); have GE271 := aK ((by rw [hg]; exact (below_size (by repeat (first | (with_reducible first | exact HB.out | apply pA | apply pN | apply pD | refine pS ?_ ak.out) | exact HB.out))) : w.heap.size ≤ ae)); have ar := aK ((by rw [hg]; exact Nat.ne_of_lt (blk_lt (g := a5) (o := .cells #[.slice none 0 0, .slice none 0 0, .slice none 0 0, .int .i64 0, .slice none 0 0, .slice none 0 0, .slice none 0 0, .slice none 0 0, .int .i64 0] 29 (0, 0)) (by (with_reducible repeat (first | refine bN ?_ _ | refine bD ?_ | refine bA ?_ _)); exact a3.out)) : a5 ≠ ae)); have a8 := aK ((by rw [hg]; exact Nat.ne_of_gt (blk_lt (g := a5) (o := .cells #[.slice none 0 0, .slice none 0 0, .slice none 0 0, .int .i64 0, .slice none 0 0, .slice none 0 0, .slice none 0 0, .slice none 0 0, .int .i64 0] 29 (0, 0)) (by (with_reducible repeat (first | refine bN ?_ _ | refine bD ?_ | refine bA ?_ _)); exact a3.out)) : ae ≠ a5)); replace a3 := aK (blk_below (g := a5) (o := .cells #[.slice none 0 0, .slice none 0 0, .slice none 0 0, .int .i64 0, .slice none 0 0, .slice none 0 0, .slice none 0 0, .slice none 0 0, .int .i64 0] 29 (0, 0)) (by (with_reducible repeat (first | refine bN ?_ _ | refine bD ?_ | refine bA ?_ _)); exact a3.out) hb); have a1 := aK ((⟨_, _, hbox, by rw [hg]; exact (below_size (by repeat (first | (with_reducible first | exact HB.out | apply pA | apply pN | apply pD | refine pS ?_ ak.out) | exact HB.out))), HR0.out⟩ : IsS101 w w11 ae l0 2 false)); replace HB := aK (below_step (by repeat (first | (with_reducible first | exact HB.out | apply pA | apply pN | apply pD | refine pS ?_ ak.out) | exact HB.out)) hb); clear hb hbox hg) | ((with_reducible refine gate_dst (N := 5) rfl ?_); (try (refine gate_guard (by rfl) ?_; dsimp only)); refine box_event ?hg (N := 5) ?hd (cs := #[.slice none 0 0, .slice none 0 0, .slice none 0 0, .int .i64 0, .slice none 0 0, .slice none 0 0, .slice none 0 0, .slice none 0 0, .int .i64 0]) (t := 29) ?hr ?_; (case hd => rfl); (case hg => rfl); (case hr => first | (go_simp; done) | (go_simp; rfl)); intro a2 hg w12 hbox hb; have a0 := aK (hbox); have GW272 := aK ((by rw [hg]; exact (below_size (by repeat (first | (with_reducible first | exact HB.out | apply pA | apply pN | apply pD | refine pS ?_ (iG a1.out) | refine pS ?_ ak.out) | exact HB.out))) : w.heap.size ≤ a2)); have ap := aK ((by rw [hg]; exact (below_size (by repeat (first | (with_reducible first | exact HB.out | apply pA | apply pN | apply pD | refine pS ?_ (iG a1.out) | refine pS ?_ ak.out) | exact HB.out))) : w.heap.size ≤ a2)); replace HB := aK (below_step (by repeat (first | (with_reducible first | exact HB.out | apply pA | apply pN | apply pD | refine pS ?_ (iG a1.out) | refine pS ?_ ak.out) | exact HB.out)) hb); have ao := aK ((by rw [hg]; exact Nat.ne_of_lt (blk_lt (g := a5) (o := .cells #[.slice none 0 0, .slice none 0 0, .slice none 0 0, .int .i64 0, .slice none 0 0, .slice none 0 0, .slice none 0 0, .slice none 0 0, .int .i64 0] 29 (0, 0)) (by (with_reducible repeat (first | refine bN ?_ _ | refine bD ?_ | refine bA ?_ _)); exact a3.out)) : a5 ≠ a2)); have az := aK ((by rw [hg]; exact Nat.ne_of_gt (blk_lt (g := a5) (o := .cells #[.slice none 0 0, .slice none 0 0, .slice none 0 0, .int .i64 0, .slice none 0 0, .slice none 0 0, .slice none 0 0, .slice none 0 0, .int .i64 0] 29 (0, 0)) (by (with_reducible repeat (first | refine bN ?_ _ | refine bD ?_ | refine bA ?_ _)); exact a3.out)) : a2 ≠ a5)); replace a3 := aK (blk_below (g := a5) (o := .cells #[.slice none 0 0, .slice none 0 0, .slice none 0 0, .int .i64 0, .slice none 0 0, .slice none 0 0, .slice none 0 0, .slice none 0 0, .int .i64 0] 29 (0, 0)) (by (with_reducible repeat (first | refine bN ?_ _ | refine bD ?_ | refine bA ?_ _)); exact a3.out) hb); have a7 := aK ((by rw [hg]; exact Nat.ne_of_lt (IsS101.lt (show IsS101 w _ ae l0 2 false from by repeat (first | (with_reducible first | exact a1.out | apply iA | apply iN | apply iD | refine iF ?_ a8.out _) | exact a1.out))) : ae ≠ a2)); have aq := aK ((by rw [hg]; exact Nat.ne_of_gt (IsS101.lt (show IsS101 w _ ae l0 2 false from by repeat (first | (with_reducible first | exact a1.out | apply iA | apply iN | apply iD | refine iF ?_ a8.out _) | exact a1.out))) : a2 ≠ ae)); replace a1 := aK (IsS101.below (by repeat (first | (with_reducible first | exact a1.out | apply iA | apply iN | apply iD | refine iF ?_ a8.out _) | exact a1.out)) hb); clear hb hbox hg; have hnb13 := az.out; have hnc13 := ao.out; have hnb14 := aq.out; have hnc14 := a7.out; have aQ : w12.cell? ⟨a2, 0, none⟩ = some (.slice none 0 0) := (bC a0.out 0).trans rfl; have aR : w12.cell? ⟨a2, 1, none⟩ = some (.slice none 0 0) := (bC a0.out 1).trans rfl; have aT : w12.cell? ⟨a2, 2, none⟩ = some (.slice none 0 0) := (bC a0.out 2).trans rfl; have aU : w12.cell? ⟨a2, 3, none⟩ = some (.int .i64 0) := (bC a0.out 3).trans rfl; have aV : w12.cell? ⟨a2, 4, none⟩ = some (.slice none 0 0) := (bC a0.out 4).trans rfl; have aW : w12.cell? ⟨a2, 5, none⟩ = some (.slice none 0 0) := (bC a0.out 5).trans rfl; have aX : w12.cell? ⟨a2, 6, none⟩ = some (.slice none 0 0) := (bC a0.out 6).trans rfl; have aY : w12.cell? ⟨a2, 7, none⟩ = some (.slice none 0 0) := (bC a0.out 7).trans rfl; have aZ : w12.cell? ⟨a2, 8, none⟩ = some (.int .i64 0) := (bC a0.out 8).trans rfl; have b0 := bF a0.out 0; have b1 := bF a0.out 1; have b2 := bF a0.out 2; have b3 := bF a0.out 3; have b4 := bF a0.out 4; have b5 := bF a0.out 5; have b6 := bF a0.out 6; have b7 := bF a0.out 7; have b8 := bF a0.out 8) | ((with_reducible refine gate_callee (f := 56) rfl ?_); refine goesL_ (some 41) rfl rfl Try.func56 (by kernel_rfl) rfl #[.pointer (some ⟨ae, 0, none⟩), .int .i64 3] rfl (by (try simp only [List.map_toArray, List.map_cons, List.map_nil]); first | done | rfl | (simp only [List.length_drop, List.length_take]; rfl)) ?_; (with_reducible refine (signalboxref1_Cursor_count.calls kj1 ae l0 2 false 3 t273 t274 t275 w _ ?side1 ?side2 A10.out).mono ?_); (case side1 => repeat (first | (with_reducible first | exact a1.out | apply iA | apply iN | apply iD | refine iF ?_ a8.out _ | refine iF ?_ a7.out _) | exact a1.out)); (case side2 => repeat (first | (with_reducible first | exact HB.out | apply pA | apply pN | apply pD | refine pS ?_ (iG a1.out) | refine pS ?_ ak.out | refine pS ?_ ap.out) | exact HB.out)); rintro e w16 ⟨rfl, hi, hb, hk⟩; refine ⟨_, rfl, ?_⟩; replace a3 := aK (kB hk (g' := a5) (o := .cells #[.slice none 0 0, .slice none 0 0, .slice none 0 0, .int .i64 0, .slice none 0 0, .slice none 0 0, .slice none 0 0, .slice none 0 0, .int .i64 0] 29 (0, 0)) (by (with_reducible repeat (first | refine bN ?_ _ | refine bD ?_ | refine bA ?_ _)); refine blk_far ?_ ao.out _; (with_reducible repeat (first | refine bN ?_ _ | refine bD ?_ | refine bA ?_ _)); refine blk_far ?_ ao.out _; (with_reducible repeat (first | refine bN ?_ _ | refine bD ?_ | refine bA ?_ _)); refine blk_far ?_ ao.out _; (with_reducible repeat (first | refine bN ?_ _ | refine bD ?_ | refine bA ?_ _)); refine blk_far ?_ ao.out _; (with_reducible repeat (first | refine bN ?_ _ | refine bD ?_ | refine bA ?_ _)); refine blk_far ?_ ao.out _; (with_reducible repeat (first | refine bN ?_ _ | refine bD ?_ | refine bA ?_ _)); refine blk_far ?_ ao.out _; (with_reducible repeat (first | refine bN ?_ _ | refine bD ?_ | refine bA ?_ _)); refine blk_far ?_ ao.out _; (with_reducible repeat (first | refine bN ?_ _ | refine bD ?_ | refine bA ?_ _)); refine blk_far ?_ ao.out _; (with_reducible repeat (first | refine bN ?_ _ | refine bD ?_ | refine bA ?_ _)); refine blk_far ?_ ao.out _; (with_reducible repeat (first | refine bN ?_ _ | refine bD ?_ | refine bA ?_ _)); exact a3.out) ar.out (by simp)); replace a0 := aK (kB hk (g' := a2) (o := .cells #[.slice none 0 0, .slice none 0 0, .slice none 0 0, .int .i64 0, .slice none 0 0, .slice none 0 0, .slice none 0 0, .slice none 0 0, .int .i64 0] 29 (0, 0)) (by (with_reducible repeat (first | refine bN ?_ _ | refine bD ?_ | refine bA ?_ _)); refine blk_put (cs := #[.slice none 0 0, .slice none 0 0, .slice none 0 0, .int .i64 0, .slice none 0 0, .slice none 0 0, .slice none 0 0, .slice none 0 0, .int .i64 0]) ?_ 8 _ rfl; (with_reducible repeat (first | refine bN ?_ _ | refine bD ?_ | refine bA ?_ _)); refine blk_put (cs := #[.slice none 0 0, .slice none 0 0, .slice none 0 0, .int .i64 0, .slice none 0 0, .slice none 0 0, .slice none 0 0, .slice none 0 0, .int .i64 0]) ?_ 7 _ rfl; (with_reducible repeat (first | refine bN ?_ _ | refine bD ?_ | refine bA ?_ _)); refine blk_put (cs := #[.slice none 0 0, .slice none 0 0, .slice none 0 0, .int .i64 0, .slice none 0 0, .slice none 0 0, .slice none 0 0, .slice none 0 0, .int .i64 0]) ?_ 6 _ rfl; (with_reducible repeat (first | refine bN ?_ _ | refine bD ?_ | refine bA ?_ _)); refine blk_put (cs := #[.slice none 0 0, .slice none 0 0, .slice none 0 0, .int .i64 0, .slice none 0 0, .slice none 0 0, .slice none 0 0, .slice none 0 0, .int .i64 0]) ?_ 5 _ rfl; (with_reducible repeat (first | refine bN ?_ _ | refine bD ?_ | refine bA ?_ _)); refine blk_put (cs := #[.slice none 0 0, .slice none 0 0, .slice none 0 0, .int .i64 0, .slice none 0 0, .slice none 0 0, .slice none 0 0, .slice none 0 0, .int .i64 0]) ?_ 4 _ rfl; (with_reducible repeat (first | refine bN ?_ _ | refine bD ?_ | refine bA ?_ _)); refine blk_put (cs := #[.slice none 0 0, .slice none 0 0, .slice none 0 0, .int .i64 0, .slice none 0 0, .slice none 0 0, .slice none 0 0, .slice none 0 0, .int .i64 0]) ?_ 3 _ rfl; (with_reducible repeat (first | refine bN ?_ _ | refine bD ?_ | refine bA ?_ _)); refine blk_put (cs := #[.slice none 0 0, .slice none 0 0, .slice none 0 0, .int .i64 0, .slice none 0 0, .slice none 0 0, .slice none 0 0, .slice none 0 0, .int .i64 0]) ?_ 2 _ rfl; (with_reducible repeat (first | refine bN ?_ _ | refine bD ?_ | refine bA ?_ _)); refine blk_put (cs := #[.slice none 0 0, .slice none 0 0, .slice none 0 0, .int .i64 0, .slice none 0 0, .slice none 0 0, .slice none 0 0, .slice none 0 0, .int .i64 0]) ?_ 1 _ rfl; (with_reducible repeat (first | refine bN ?_ _ | refine bD ?_ | refine bA ?_ _)); refine blk_put (cs := #[.slice none 0 0, .slice none 0 0, .slice none 0 0, .int .i64 0, .slice none 0 0, .slice none 0 0, .slice none 0 0, .slice none 0 0, .int .i64 0]) ?_ 0 _ rfl; (with_reducible repeat (first | refine bN ?_ _ | refine bD ?_ | refine bA ?_ _)); exact a0.out) aq.out (by simp)); replace HB := aK (hb); replace a1 := aK (hi); clear hb hk hi))
    go_loopg [7] kj1 (fun kq v7 w' => ∃ (x7_2 : Int) (aD : Int) (aE : Bool) (a9 : List (S44)) (af : Value), v7 = .int .i64 x7_2 ∧ Aside0 (signalboxref1_Decode.l0 kq l0 t273 x7_2 l0 aD aE a9 0 0 = some (r1, r2, r3, r4, r5, r6, r7, r8, r9, r10)) ∧ Aside0 (kq ≤ kj1) ∧ Aside0 (Kd.R k44 44 w' w.heap.size (fun _ => True) af a9) ∧ Aside0 (w'.heap[a5]? = some (.cells #[(.slice none 0 0), (.slice none 0 0), (.slice none 0 0), .int .i64 0, (.slice none 0 0), (.slice none 0 0), (.slice none 0 0), (.slice none 0 0), .int .i64 0] 29 (0, 0))) ∧ Aside0 (w'.heap[a2]? = some (.cells #[af, (.slice none 0 0), (.slice none 0 0), .int .i64 0, (.slice none 0 0), (.slice none 0 0), (.slice none 0 0), (.slice none 0 0), .int .i64 0] 29 (0, 0))) ∧ Aside0 (IsS101 w w' ae l0 aD aE) ∧ Aside0 (Below w.heap.size w w'))
    case atStart => exact ⟨(0), (t274), (t275), (([] : List (S44))), (.slice none 0 0), (by first | rfl | (simp; done) | (simp [*]; done)), H', ⟨Nat.le_refl _⟩, ⟨by first | exact Kd.R_nil _ _ _ _ _ | exact Kd.N_nil _ _ _ _ _ | exact Kd.V_nil _ _ _ _ _ | exact Kd.Q_nil _ _ _ _ _ | exact Kd.S_nil _ _ _ _ _⟩, ⟨by (with_reducible repeat (first | refine bN ?_ _ | refine bD ?_ | refine bA ?_ _)); exact a3.out⟩, ⟨by (with_reducible repeat (first | refine bN ?_ _ | refine bD ?_ | refine bA ?_ _)); exact a0.out⟩, ⟨by repeat (first | (with_reducible first | exact a1.out | apply iA | apply iN | apply iD | refine iF ?_ a8.out _ | refine iF ?_ a7.out _) | exact a1.out)⟩, ⟨by repeat (first | (with_reducible first | exact HB.out | apply pA | apply pN | apply pD | refine pS ?_ (iG a1.out) | refine pS ?_ ak.out | refine pS ?_ ap.out) | exact HB.out)⟩⟩
    case round =>
     clear H'
     try clear c1
     try clear p2
     try clear q2
     try clear hx2
     try clear qi2
     try clear c4
     try clear c4b0
     try clear c4b1
     try clear c5
     try clear c5b0
     try clear c5b1
     try clear c6
     try clear c6b0
     try clear c6b1
     try clear c7
     try clear c7b0
     try clear c7b1
     try clear c8
     try clear c13
     try clear c14
     try clear aQ
     try clear aR
     try clear aT
     try clear aU
     try clear aV
     try clear aW
     try clear aX
     try clear aY
     try clear aZ
     try clear b9
     try clear ba
     try clear bb
     try clear bc
     try clear bd
     try clear be
     try clear bf
     try clear bg
     try clear bh
     try clear b0
     try clear b1
     try clear b2
     try clear b3
     try clear b4
     try clear b5
     try clear b6
     try clear b7
     try clear b8
     try clear bi
     try clear bj
     try clear bk
     try clear bl
     try clear bm
     try clear bn
     try clear bo
     try clear bp
     try clear bq
     try clear ax
     try clear aA
     try clear p2
     try clear p269
     try clear p270
     try clear q2
     try clear q269
     try clear q270
     obtain ⟨x7_2, aD, aE, a9, af, rfl, HA, HK2, a4, a3, a0, a1, HB⟩ := hrel
     cases gk with
     | zero => exact absurd HA.out (by simp [signalboxref1_Decode.l0])
     | succ k2 =>
      have H := HA.out; clear HA
      simp only [signalboxref1_Decode.l0] at H
      by_cases c17 : x7_2 < t273
      ·rw [if_pos c17] at H
       have c17b0 : decide (x7_2 < t273) = true := decide_eq_true c17; clear c17; replace H := Option.bind_eq_some_iff.mp H; obtain ⟨⟨t276, t277, t278⟩, A180, H⟩ := H
       replace H : ((signalboxref1_Cursor_num.f k2 l0 t277 t278 8).bind fun bt279 => ((signalboxref1_Cursor_num.f k2 l0 bt279.2.1 bt279.2.2 8).bind fun bt282 => (if a9.length < 5864062014805 then (signalboxref1_Decode.l0 k2 l0 t273 (wrap64 (x7_2 + 1)) l0 bt282.2.1 bt282.2.2 (a9 ++ [(⟨t276, bt279.1, bt282.1⟩ : S44)]) 0 0) else (none)))) = some (r1, r2, r3, r4, r5, r6, r7, r8, r9, r10) := H
       have A18 := aK A180; clear A180; replace H := Option.bind_eq_some_iff.mp H; obtain ⟨⟨t279, t280, t281⟩, A190, H⟩ := H
       replace H : ((signalboxref1_Cursor_num.f k2 l0 t280 t281 8).bind fun bt282 => (if a9.length < 5864062014805 then (signalboxref1_Decode.l0 k2 l0 t273 (wrap64 (x7_2 + 1)) l0 bt282.2.1 bt282.2.2 (a9 ++ [(⟨t276, t279, bt282.1⟩ : S44)]) 0 0) else (none))) = some (r1, r2, r3, r4, r5, r6, r7, r8, r9, r10) := H
       have A19 := aK A190; clear A190; replace H := Option.bind_eq_some_iff.mp H; obtain ⟨⟨t282, t283, t284⟩, A200, H⟩ := H
       replace H : (if a9.length < 5864062014805 then (signalboxref1_Decode.l0 k2 l0 t273 (wrap64 (x7_2 + 1)) l0 t283 t284 (a9 ++ [(⟨t276, t279, t282⟩ : S44)]) 0 0) else (none)) = some (r1, r2, r3, r4, r5, r6, r7, r8, r9, r10) := H
       have A20 := aK A200; clear A200
       by_cases c21 : a9.length < 5864062014805
       case neg =>
        rw [if_neg c21] at H
        exact absurd H (by simp)
       rw [if_pos c21] at H
       have LMc21 := aK c21; clear c21; obtain ⟨y285, hy285⟩ : ∃ y_ : List (S44), y_ = (a9 ++ [(⟨t276, t279, t282⟩ : S44)]) := ⟨_, rfl⟩
       replace H : (signalboxref1_Decode.l0 k2 l0 t273 (wrap64 (x7_2 + 1)) l0 t283 t284 y285 0 0) = some (r1, r2, r3, r4, r5, r6, r7, r8, r9, r10) := by first | (rw [hy285]; with_reducible exact H) | (have H2_ := (Option.bind_some _ _).symm.trans H; rw [hy285]; with_reducible exact H2_) | (have H2_ := (Option.bind_some _ _).symm.trans H; with_reducible exact H2_) | with_reducible exact H | (rw [hy285]; exact H) | exact H
       have Ny285 := aK hy285; clear hy285; have H' := aK H
       clear H
       try go_wp2_with (first | ((with_reducible refine gate_callee (f := 57) rfl ?_); refine goesL_ (some 48) rfl rfl Try.func57 (by kernel_rfl) rfl #[.pointer (some ⟨ae, 0, none⟩), .int .i64 8] rfl (by (try simp only [List.map_toArray, List.map_cons, List.map_nil]); first | done | rfl | (simp only [List.length_drop, List.length_take]; rfl)) ?_; (with_reducible refine (signalboxref1_Cursor_num.calls k2 ae l0 aD aE 8 t276 t277 t278 w _ ?side1 ?side2 A18.out).mono ?_); (case side1 => repeat (first | (with_reducible first | exact a1.out | apply iA | apply iN | apply iD | refine iF ?_ a8.out _ | refine iF ?_ a7.out _) | exact a1.out)); (case side2 => repeat (first | (with_reducible first | exact HB.out | apply pA | apply pN | apply pD | refine pS ?_ (iG a1.out) | refine pS ?_ ak.out | refine pS ?_ ap.out) | exact HB.out)); rintro e w22 ⟨rfl, hi, hb, hk⟩; refine ⟨_, rfl, ?_⟩; replace a4 := aK (kM (kK (iP (show IsS101 w _ ae l0 aD aE from by repeat (first | (with_reducible first | exact a1.out | apply iA | apply iN | apply iD | refine iF ?_ a8.out _ | refine iF ?_ a7.out _) | exact a1.out)) (by (with_reducible repeat (first | apply kA | apply kN | apply kD)); exact a4.out) (by decide)) hk (fun _ h => h.2)) (fun _ h => h.1)); replace a3 := aK (kB hk (g' := a5) (o := .cells #[.slice none 0 0, .slice none 0 0, .slice none 0 0, .int .i64 0, .slice none 0 0, .slice none 0 0, .slice none 0 0, .slice none 0 0, .int .i64 0] 29 (0, 0)) (by (with_reducible repeat (first | refine bN ?_ _ | refine bD ?_ | refine bA ?_ _)); exact a3.out) ar.out (by simp)); replace a0 := aK (kB hk (g' := a2) (o := .cells #[af, .slice none 0 0, .slice none 0 0, .int .i64 0, .slice none 0 0, .slice none 0 0, .slice none 0 0, .slice none 0 0, .int .i64 0] 29 (0, 0)) (by (with_reducible repeat (first | refine bN ?_ _ | refine bD ?_ | refine bA ?_ _)); exact a0.out) aq.out (by simp)); replace HB := aK (hb); replace a1 := aK (hi); clear hb hk hi) | ((with_reducible refine gate_callee (f := 57) rfl ?_); refine goesL_ (some 50) rfl rfl Try.func57 (by kernel_rfl) rfl #[.pointer (some ⟨ae, 0, none⟩), .int .i64 8] rfl (by (try simp only [List.map_toArray, List.map_cons, List.map_nil]); first | done | rfl | (simp only [List.length_drop, List.length_take]; rfl)) ?_; (with_reducible refine (signalboxref1_Cursor_num.calls k2 ae l0 t277 t278 8 t279 t280 t281 w _ ?side1 ?side2 A19.out).mono ?_); (case side1 => repeat (first | (with_reducible first | exact a1.out | apply iA | apply iN | apply iD | refine iF ?_ a8.out _ | refine iF ?_ a7.out _) | exact a1.out)); (case side2 => repeat (first | (with_reducible first | exact HB.out | apply pA | apply pN | apply pD | refine pS ?_ (iG a1.out) | refine pS ?_ ak.out | refine pS ?_ ap.out) | exact HB.out)); rintro e w23 ⟨rfl, hi, hb, hk⟩; refine ⟨_, rfl, ?_⟩; replace a4 := aK (kM (kK (iP (show IsS101 w _ ae l0 t277 t278 from by repeat (first | (with_reducible first | exact a1.out | apply iA | apply iN | apply iD | refine iF ?_ a8.out _ | refine iF ?_ a7.out _) | exact a1.out)) (by (with_reducible repeat (first | apply kA | apply kN | apply kD)); exact a4.out) (by decide)) hk (fun _ h => h.2)) (fun _ h => h.1)); replace a3 := aK (kB hk (g' := a5) (o := .cells #[.slice none 0 0, .slice none 0 0, .slice none 0 0, .int .i64 0, .slice none 0 0, .slice none 0 0, .slice none 0 0, .slice none 0 0, .int .i64 0] 29 (0, 0)) (by (with_reducible repeat (first | refine bN ?_ _ | refine bD ?_ | refine bA ?_ _)); exact a3.out) ar.out (by simp)); replace a0 := aK (kB hk (g' := a2) (o := .cells #[af, .slice none 0 0, .slice none 0 0, .int .i64 0, .slice none 0 0, .slice none 0 0, .slice none 0 0, .slice none 0 0, .int .i64 0] 29 (0, 0)) (by (with_reducible repeat (first | refine bN ?_ _ | refine bD ?_ | refine bA ?_ _)); exact a0.out) aq.out (by simp)); replace HB := aK (hb); replace a1 := aK (hi); clear hb hk hi))
       replace a4 := aK (kD a4.out)
       replace a3 := aK (bD a3.out)
       replace a0 := aK (bD a0.out)
       replace a1 := aK (iD a1.out)
       replace HB := aK (pD HB.out)
       refine start_ (n := 11) (S := fun w' => w'.cell? ⟨a2, 0, none⟩ = some (af) ∧ w'.cell? ⟨a2, 1, none⟩ = some (.slice none 0 0) ∧ w'.cell? ⟨a2, 2, none⟩ = some (.slice none 0 0) ∧ w'.cell? ⟨a2, 3, none⟩ = some (.int .i64 0) ∧ w'.cell? ⟨a2, 4, none⟩ = some (.slice none 0 0) ∧ w'.cell? ⟨a2, 5, none⟩ = some (.slice none 0 0) ∧ w'.cell? ⟨a2, 6, none⟩ = some (.slice none 0 0) ∧ w'.cell? ⟨a2, 7, none⟩ = some (.slice none 0 0) ∧ w'.cell? ⟨a2, 8, none⟩ = some (.int .i64 0)) (ds := [10]) #[false, false, false, false, false, false, false, false, false, false, false] (by kernel_rfl) rfl rfl ⟨(bC a0.out 0).trans rfl, (bC a0.out 1).trans rfl, (bC a0.out 2).trans rfl, (bC a0.out 3).trans rfl, (bC a0.out 4).trans rfl, (bC a0.out 5).trans rfl, (bC a0.out 6).trans rfl, (bC a0.out 7).trans rfl, (bC a0.out 8).trans rfl⟩ (fun hHeld => ?_); refine with_tabW signalboxref1_Decode.tab11 signalboxref1_Decode.bits11 (fun HT_ HW_ => ?_)
       generalize w23.drew = w24 at a4 a3 a0 a1 HB hHeld ⊢
       refine pure_ (i := 0) (N := some 51) (v := ?_) (a' := ?_) #[true, false, false, false, false, false, false, false, false, false, false] rfl rfl (any_of HT_.out (by kernel_rfl)) (fun _ _ _ h => h) (Or.inl ⟨by rfl, ?_⟩) ?_ ?_
       rotate_left
       ·intro w'
        go_simp
        with_reducible rfl
       rotate_left
       ·simp only [Act.put, List.setIfInBounds_toArray, List.set_cons_zero, List.set_cons_succ, i64_w, i32_w]
        rfl
       refine pure_ (i := 2) (N := some 53) (v := ?_) (a' := ?_) #[true, false, true, false, false, false, false, false, false, false, false] rfl rfl (any_of HT_.out (by kernel_rfl)) (fun _ _ _ h => h) (Or.inl ⟨by rfl, ?_⟩) ?_ ?_
       rotate_left
       ·intro w'
        go_simp
        with_reducible rfl
       rotate_left
       ·simp only [Act.put, List.setIfInBounds_toArray, List.set_cons_zero, List.set_cons_succ, i64_w, i32_w]
        rfl
       refine pure_ (i := 3) (N := some 54) (v := ?_) (a' := ?_) #[true, false, true, true, false, false, false, false, false, false, false] rfl rfl (any_of HT_.out (by kernel_rfl)) (fun _ _ _ h => h) (Or.inl ⟨by rfl, ?_⟩) ?_ ?_
       rotate_left
       ·intro w'
        go_simp
        with_reducible rfl
       rotate_left
       ·simp only [Act.put, List.setIfInBounds_toArray, List.set_cons_zero, List.set_cons_succ, i64_w, i32_w]
        rfl
       refine pure_ (i := 4) (N := some 55) (v := ?_) (a' := ?_) #[true, false, true, true, true, false, false, false, false, false, false] rfl rfl (any_of HT_.out (by kernel_rfl)) (fun _ _ _ h => h) (Or.inl ⟨by rfl, ?_⟩) ?_ ?_
       rotate_left
       ·intro w'
        go_simp
        with_reducible rfl
       rotate_left
       ·simp only [Act.put, List.setIfInBounds_toArray, List.set_cons_zero, List.set_cons_succ, i64_w, i32_w]
        rfl
       refine take_ (i := 1) (N := some 52) (v := ?_) (a' := ?_) #[true, true, true, true, true, false, false, false, false, false, false] rfl rfl (take_ofW HT_.out HW_.out (by kernel_rfl)) (fun _ _ _ h => h) (Or.inl ⟨by rfl, ?_⟩) hHeld ?_ ?_
       rotate_left
       ·rintro w' ⟨s0, s1, s2, s3, s4, s5, s6, s7, s8⟩
        go_simp
        with_reducible rfl
       rotate_left
       ·simp only [Act.put, List.setIfInBounds_toArray, List.set_cons_zero, List.set_cons_succ, i64_w, i32_w]
        rfl
       refine one_ (i := 5) (N := some 56) #[true, true, true, true, true, true, false, false, false, false, false] rfl rfl (one_of HT_.out (by kernel_rfl)) (by decide) (fun K hK => ?_)
       refine goes_ Try.func57 (by kernel_rfl) rfl #[.pointer (some ⟨ae, 0, none⟩), .int .i64 8] (by rfl) rfl rfl (by (try simp only [List.map_toArray, List.map_cons, List.map_nil]); first | done | rfl | (simp only [List.length_drop, List.length_take]; rfl)) ?_
       with_reducible refine (signalboxref1_Cursor_num.calls k2 ae l0 t280 t281 8 t282 t283 t284 w _ ?side1 ?side2 A20.out).mono ?_
       (case side1 => repeat (first | (with_reducible first | exact a1.out | apply iA | apply iN | apply iD | refine iF ?_ a8.out _ | refine iF ?_ a7.out _) | exact a1.out))
       (case side2 => repeat (first | (with_reducible first | exact HB.out | apply pA | apply pN | apply pD | refine pS ?_ (iG a1.out) | refine pS ?_ ak.out | refine pS ?_ ap.out) | exact HB.out))
       rintro e w25 ⟨rfl, hi, hb, hk⟩
       refine ⟨_, rfl, ?_⟩
       replace a4 := aK (kM (kK (iP (show IsS101 w _ ae l0 t280 t281 from by repeat (first | (with_reducible first | exact a1.out | apply iA | apply iN | apply iD | refine iF ?_ a8.out _ | refine iF ?_ a7.out _) | exact a1.out)) (by (with_reducible repeat (first | apply kA | apply kN | apply kD)); exact a4.out) (by decide)) hk (fun _ h => h.2)) (fun _ h => h.1))
       replace a3 := aK (kB hk (g' := a5) (o := .cells #[.slice none 0 0, .slice none 0 0, .slice none 0 0, .int .i64 0, .slice none 0 0, .slice none 0 0, .slice none 0 0, .slice none 0 0, .int .i64 0] 29 (0, 0)) (by (with_reducible repeat (first | refine bN ?_ _ | refine bD ?_ | refine bA ?_ _)); exact a3.out) ar.out (by simp))
       replace a0 := aK (kB hk (g' := a2) (o := .cells #[af, .slice none 0 0, .slice none 0 0, .int .i64 0, .slice none 0 0, .slice none 0 0, .slice none 0 0, .slice none 0 0, .int .i64 0] 29 (0, 0)) (by (with_reducible repeat (first | refine bN ?_ _ | refine bD ?_ | refine bA ?_ _)); exact a0.out) aq.out (by simp))
       replace HB := aK (hb)
       replace a1 := aK (hi)
       (try clear hb)
       (try clear hb2)
       (try clear hk)
       (try clear hi)
       refine hK.out _ _ ⟨(bC a0.out 0).trans rfl, (bC a0.out 1).trans rfl, (bC a0.out 2).trans rfl, (bC a0.out 3).trans rfl, (bC a0.out 4).trans rfl, (bC a0.out 5).trans rfl, (bC a0.out 6).trans rfl, (bC a0.out 7).trans rfl, (bC a0.out 8).trans rfl⟩ (fun hHeld => ?_)
       clear hK K
       refine norm_ (a' := ?_) ?_ ?_
       rotate_left
       ·show Act.put _ (some 56) _ = _
        simp only [Act.put, List.setIfInBounds_toArray, List.set_cons_zero, List.set_cons_succ, i64_w, i32_w]
        rfl
       refine pure_ (i := 6) (N := some 57) (v := ?_) (a' := ?_) #[true, true, true, true, true, true, true, false, false, false, false] rfl rfl (any_of HT_.out (by kernel_rfl)) (fun _ _ _ h => h) (Or.inl ⟨by rfl, ?_⟩) ?_ ?_
       rotate_left
       ·intro w'
        go_simp
        with_reducible rfl
       rotate_left
       ·simp only [Act.put, List.setIfInBounds_toArray, List.set_cons_zero, List.set_cons_succ, i64_w, i32_w]
        rfl
       refine one_ (i := 7) (N := some 58) #[true, true, true, true, true, true, true, true, false, false, false] rfl rfl (one_of HT_.out (by kernel_rfl)) (by decide) (fun K hK => ?_)
       refine value_ (w1 := ?_) (v := ?_) (by rfl) rfl ?_ ?_
       rotate_left 2
       ·go_simp
        constructor
        ·rfl
        ·rfl
       refine hK.out _ _ ⟨(bC (bA a0.out _) 0).trans rfl, (bC (bA a0.out _) 1).trans rfl, (bC (bA a0.out _) 2).trans rfl, (bC (bA a0.out _) 3).trans rfl, (bC (bA a0.out _) 4).trans rfl, (bC (bA a0.out _) 5).trans rfl, (bC (bA a0.out _) 6).trans rfl, (bC (bA a0.out _) 7).trans rfl, (bC (bA a0.out _) 8).trans rfl⟩ (fun hHeld => ?_)
       clear hK K
       refine norm_ (a' := ?_) ?_ ?_
       rotate_left
       ·show Act.put _ (some 58) _ = _
        simp only [Act.put, List.setIfInBounds_toArray, List.set_cons_zero, List.set_cons_succ, i64_w, i32_w]
        rfl
       refine one_ (i := 8) (N := some 59) #[true, true, true, true, true, true, true, true, true, false, false] rfl rfl (one_of HT_.out (by kernel_rfl)) (by decide) (fun K hK => ?_)
       refine Kd.R_append_step k44 (w0 := w) w.heap.size (by rfl) (.tmp 52) (.tmp 58) 22 44 (.agg #[(.int .i64 0), (.int .i64 0), (.int .i64 0)]) 24 rfl Try.underlying22 infoD44 rfl (by decide) (by omega) af a9 (⟨t276, t279, t282⟩ : S44) [.int .i64 t276, .int .i64 t279, .int .i64 t282] (fun _ => True) (fun _ => False) rfl rfl ?aP (fun _ hk => hk.elim) ?aF ?aO ?aB ?aS ?aL ?_
       (case aP => exact k44_mkM _ _ _ (⟨t276, t279, t282⟩ : S44))
       (case aB => exact (by repeat (first | (with_reducible first | exact HB.out | apply pA | apply pN | apply pD | refine pS ?_ (iG a1.out) | refine pS ?_ ak.out | refine pS ?_ ap.out) | exact HB.out)))
       (case aF => exact (fun _ _ => trivial))
       (case aO => exact (by (with_reducible repeat (first | apply kA | apply kN | apply kD)); exact a4.out))
       (case aS => exact (below_size (by repeat (first | (with_reducible first | exact HB.out | apply pA | apply pN | apply pD | refine pS ?_ (iG a1.out) | refine pS ?_ ak.out | refine pS ?_ ap.out) | exact HB.out))))
       (case aL => have := LMc21.out; omega)
       intro v286 w26 ho hb hg hat
       rw [← Ny285.out] at ho
       replace a3 := aK (blk_grown (g := a5) (o := .cells #[.slice none 0 0, .slice none 0 0, .slice none 0 0, .int .i64 0, .slice none 0 0, .slice none 0 0, .slice none 0 0, .slice none 0 0, .int .i64 0] 29 (0, 0)) (by (with_reducible repeat (first | refine bN ?_ _ | refine bD ?_ | refine bA ?_ _)); exact a3.out) hg (Kd.R_ne a4.out a3.out (by decide)))
       replace a0 := aK (blk_grown (g := a2) (o := .cells #[af, .slice none 0 0, .slice none 0 0, .int .i64 0, .slice none 0 0, .slice none 0 0, .slice none 0 0, .slice none 0 0, .int .i64 0] 29 (0, 0)) (by (with_reducible repeat (first | refine bN ?_ _ | refine bD ?_ | refine bA ?_ _)); exact a0.out) hg (Kd.R_ne a4.out a0.out (by decide)))
       replace a1 := aK (IsS101.grown (by repeat (first | (with_reducible first | exact a1.out | apply iA | apply iN | apply iD | refine iF ?_ a8.out _ | refine iF ?_ a7.out _) | exact a1.out)) hg (IsS101.own_ne a1.out a4.out (by decide)))
       replace HB := aK (hb)
       have HO287 := aK (ho)
       clear a4 ho hb hg hat
       obtain ⟨Ao27, co27, eo27⟩ := Kd.R_slice HO287.out
       (first | subst eo27 | (injection eo27 with f1_ f2_ f3_; have f4_ := f1_.symm; have f5_ := f3_.symm; clear f1_ f2_ f3_; subst f4_; subst f5_))
       refine hK.out _ _ ⟨(bC a0.out 0).trans rfl, (bC a0.out 1).trans rfl, (bC a0.out 2).trans rfl, (bC a0.out 3).trans rfl, (bC a0.out 4).trans rfl, (bC a0.out 5).trans rfl, (bC a0.out 6).trans rfl, (bC a0.out 7).trans rfl, (bC a0.out 8).trans rfl⟩ (fun hHeld => ?_)
       clear hK K
       refine norm_ (a' := ?_) ?_ ?_
       rotate_left
       ·show Act.put _ (some 59) _ = _
        simp only [Act.put, List.setIfInBounds_toArray, List.set_cons_zero, List.set_cons_succ, i64_w, i32_w]
        rfl
       refine pure_ (i := 9) (N := some 60) (v := ?_) (a' := ?_) #[true, true, true, true, true, true, true, true, true, true, false] rfl rfl (any_of HT_.out (by kernel_rfl)) (fun _ _ _ h => h) (Or.inl ⟨by rfl, ?_⟩) ?_ ?_
       rotate_left
       ·intro w'
        go_simp
        with_reducible rfl
       rotate_left
       ·simp only [Act.put, List.setIfInBounds_toArray, List.set_cons_zero, List.set_cons_succ, i64_w, i32_w]
        rfl
       refine last_ (i := 10) (N := none) #[true, true, true, true, true, true, true, true, true, true, true] rfl rfl (one_of HT_.out (by kernel_rfl)) (by decide) (fun K hK => ?_)
       have hs28 : w26.cell? ⟨a2, 0, none⟩ = some (af) := (bC a0.out 0).trans rfl; have hfs28 := bF a0.out 0; have hns28_0 := ao.out; have hms28_0 := az.out
       refine skip_ (w1 := ?_) (by rfl) rfl ?_ ?_
       rotate_left
       ·go_simp
        rfl
       refine hK.out _ _ ?_
       clear hK K
       refine done_ (done_of HT_.out (by kernel_rfl)) ?_
       try go_wp2
       go_roundg k2
       case measure => have := HJ1.out; have := HK2.out; omega
       case rel => exact ⟨(wrap64 (x7_2 + 1)), (t283), (t284), (y285), (.slice Ao27 y285.length co27), (by first | rfl | (simp; done) | (simp [*]; done)), H', ⟨by have := HJ1.out; have := HK2.out; omega⟩, ⟨by (with_reducible repeat (first | apply kA | apply kN | apply kD)); exact kM (kF (p := ⟨a2, 0, none⟩) (kT HO287.out a0.out (by decide)) (fun _ hk => hk.2) (.slice Ao27 y285.length co27)) (fun _ hk => trivial)⟩, ⟨by (with_reducible repeat (first | refine bN ?_ _ | refine bD ?_ | refine bA ?_ _)); refine blk_far ?_ ao.out _; (with_reducible repeat (first | refine bN ?_ _ | refine bD ?_ | refine bA ?_ _)); exact a3.out⟩, ⟨by (with_reducible repeat (first | refine bN ?_ _ | refine bD ?_ | refine bA ?_ _)); refine blk_put (cs := #[af, .slice none 0 0, .slice none 0 0, .int .i64 0, .slice none 0 0, .slice none 0 0, .slice none 0 0, .slice none 0 0, .int .i64 0]) ?_ 0 _ rfl; (with_reducible repeat (first | refine bN ?_ _ | refine bD ?_ | refine bA ?_ _)); exact a0.out⟩, ⟨by repeat (first | (with_reducible first | exact a1.out | apply iA | apply iN | apply iD | refine iF ?_ a8.out _ | refine iF ?_ a7.out _) | exact a1.out)⟩, ⟨by repeat (first | (with_reducible first | exact HB.out | apply pA | apply pN | apply pD | refine pS ?_ (iG a1.out) | refine pS ?_ ak.out | refine pS ?_ ap.out) | exact HB.out)⟩⟩
      ·rw [if_neg c17] at H
       have c17b0 : decide (x7_2 < t273) = false := decide_eq_false c17; clear c17; replace H := Option.bind_eq_some_iff.mp H; obtain ⟨⟨t288, t289, t290⟩, A290, H⟩ := H
       replace H : (signalboxref1_Decode.l1 k2 l0 t288 0 l0 t289 t290 a9 ([] : List (S46)) 0 0) = some (r1, r2, r3, r4, r5, r6, r7, r8, r9, r10) := H
       have A29 := aK A290; clear A290; have H' := aK H
       clear H; go_wp2_with (first | ((with_reducible refine gate_callee (f := 56) rfl ?_); refine goesL_ (some 62) rfl rfl Try.func56 (by kernel_rfl) rfl #[.pointer (some ⟨ae, 0, none⟩), .int .i64 3] rfl (by (try simp only [List.map_toArray, List.map_cons, List.map_nil]); first | done | rfl | (simp only [List.length_drop, List.length_take]; rfl)) ?_; (with_reducible refine (signalboxref1_Cursor_count.calls k2 ae l0 aD aE 3 t288 t289 t290 w _ ?side1 ?side2 A29.out).mono ?_); (case side1 => repeat (first | (with_reducible first | exact a1.out | apply iA | apply iN | apply iD | refine iF ?_ a8.out _ | refine iF ?_ a7.out _) | exact a1.out)); (case side2 => repeat (first | (with_reducible first | exact HB.out | apply pA | apply pN | apply pD | refine pS ?_ (iG a1.out) | refine pS ?_ ak.out | refine pS ?_ ap.out) | exact HB.out)); rintro e w30 ⟨rfl, hi, hb, hk⟩; refine ⟨_, rfl, ?_⟩; replace a4 := aK (kM (kK (iP (show IsS101 w _ ae l0 aD aE from by repeat (first | (with_reducible first | exact a1.out | apply iA | apply iN | apply iD | refine iF ?_ a8.out _ | refine iF ?_ a7.out _) | exact a1.out)) (by (with_reducible repeat (first | apply kA | apply kN | apply kD)); exact a4.out) (by decide)) hk (fun _ h => h.2)) (fun _ h => h.1)); replace a3 := aK (kB hk (g' := a5) (o := .cells #[.slice none 0 0, .slice none 0 0, .slice none 0 0, .int .i64 0, .slice none 0 0, .slice none 0 0, .slice none 0 0, .slice none 0 0, .int .i64 0] 29 (0, 0)) (by (with_reducible repeat (first | refine bN ?_ _ | refine bD ?_ | refine bA ?_ _)); exact a3.out) ar.out (by simp)); replace a0 := aK (kB hk (g' := a2) (o := .cells #[af, .slice none 0 0, .slice none 0 0, .int .i64 0, .slice none 0 0, .slice none 0 0, .slice none 0 0, .slice none 0 0, .int .i64 0] 29 (0, 0)) (by (with_reducible repeat (first | refine bN ?_ _ | refine bD ?_ | refine bA ?_ _)); exact a0.out) aq.out (by simp)); replace HB := aK (hb); replace a1 := aK (hi); clear hb hk hi))
       go_loopg [10] k2 (fun kq v10 w' => ∃ (x10_3 : Int) (aG : Int) (aH : Bool) (ab : List (S46)) (ai : Value), v10 = .int .i64 x10_3 ∧ Aside0 (signalboxref1_Decode.l1 kq l0 t288 x10_3 l0 aG aH a9 ab 0 0 = some (r1, r2, r3, r4, r5, r6, r7, r8, r9, r10)) ∧ Aside0 (kq ≤ k2) ∧ Aside0 (Kd.R k44 44 w' w.heap.size (fun _ => True) af a9) ∧ Aside0 (Kd.R k46 46 w' w.heap.size (fun _ => True) ai ab) ∧ Aside0 (w'.heap[a5]? = some (.cells #[(.slice none 0 0), (.slice none 0 0), (.slice none 0 0), .int .i64 0, (.slice none 0 0), (.slice none 0 0), (.slice none 0 0), (.slice none 0 0), .int .i64 0] 29 (0, 0))) ∧ Aside0 (w'.heap[a2]? = some (.cells #[af, ai, (.slice none 0 0), .int .i64 0, (.slice none 0 0), (.slice none 0 0), (.slice none 0 0), (.slice none 0 0), .int .i64 0] 29 (0, 0))) ∧ Aside0 (IsS101 w w' ae l0 aG aH) ∧ Aside0 (Below w.heap.size w w'))
       case atStart => exact ⟨(0), (t289), (t290), (([] : List (S46))), (.slice none 0 0), (by first | rfl | (simp; done) | (simp [*]; done)), H', ⟨Nat.le_refl _⟩, ⟨by (with_reducible repeat (first | apply kA | apply kN | apply kD)); exact a4.out⟩, ⟨by first | exact Kd.R_nil _ _ _ _ _ | exact Kd.N_nil _ _ _ _ _ | exact Kd.V_nil _ _ _ _ _ | exact Kd.Q_nil _ _ _ _ _ | exact Kd.S_nil _ _ _ _ _⟩, ⟨by (with_reducible repeat (first | refine bN ?_ _ | refine bD ?_ | refine bA ?_ _)); exact a3.out⟩, ⟨by (with_reducible repeat (first | refine bN ?_ _ | refine bD ?_ | refine bA ?_ _)); exact a0.out⟩, ⟨by repeat (first | (with_reducible first | exact a1.out | apply iA | apply iN | apply iD | refine iF ?_ a8.out _ | refine iF ?_ a7.out _) | exact a1.out)⟩, ⟨by repeat (first | (with_reducible first | exact HB.out | apply pA | apply pN | apply pD | refine pS ?_ (iG a1.out) | refine pS ?_ ak.out | refine pS ?_ ap.out) | exact HB.out)⟩⟩
       case round =>
        clear H'
        try clear c1
        try clear c2
        try clear p2
        try clear q2
        try clear hx2
        try clear qi2
        try clear c4
        try clear c4b0
        try clear c4b1
        try clear c5
        try clear c5b0
        try clear c5b1
        try clear c6
        try clear c6b0
        try clear c6b1
        try clear p6
        try clear c7
        try clear c7b0
        try clear c7b1
        try clear c8
        try clear c13
        try clear c14
        try clear c17
        try clear c17b0
        try clear c21
        try clear p26
        try clear q26
        try clear hx26
        try clear qi26
        try clear p27
        try clear q27
        try clear hx27
        try clear qi27
        try clear aQ
        try clear aR
        try clear aT
        try clear aU
        try clear aV
        try clear aW
        try clear aX
        try clear aY
        try clear aZ
        try clear b9
        try clear ba
        try clear bb
        try clear bc
        try clear bd
        try clear be
        try clear bf
        try clear bg
        try clear bh
        try clear b0
        try clear b1
        try clear b2
        try clear b3
        try clear b4
        try clear b5
        try clear b6
        try clear b7
        try clear b8
        try clear bi
        try clear bj
        try clear bk
        try clear bl
        try clear bm
        try clear bn
        try clear bo
        try clear bp
        try clear bq
        try clear ax
        try clear aA
        try clear p2
        try clear p269
        try clear p270
        try clear q2
        try clear q269
        try clear q270
        obtain ⟨x10_3, aG, aH, ab, ai, rfl, HA, HK3, a4, a6, a3, a0, a1, HB⟩ := hrel
        cases gk with
        | zero => exact absurd HA.out (by simp [signalboxref1_Decode.l1])
        | succ k3 =>
         have H := HA.out; clear HA
         simp only [signalboxref1_Decode.l1] at H
         by_cases c31 : x10_3 < t288
         ·rw [if_pos c31] at H
          have c31b0 : decide (x10_3 < t288) = true := decide_eq_true c31; clear c31; replace H := Option.bind_eq_some_iff.mp H; obtain ⟨⟨t291, t292, t293⟩, A320, H⟩ := H
          replace H : ((signalboxref1_Cursor_num.f k3 l0 t292 t293 8).bind fun bt294 => ((signalboxref1_Cursor_num.f k3 l0 bt294.2.1 bt294.2.2 8).bind fun bt297 => (if ab.length < 5864062014805 then (signalboxref1_Decode.l1 k3 l0 t288 (wrap64 (x10_3 + 1)) l0 bt297.2.1 bt297.2.2 a9 (ab ++ [(⟨t291, bt294.1, bt297.1⟩ : S46)]) 0 0) else (none)))) = some (r1, r2, r3, r4, r5, r6, r7, r8, r9, r10) := H
          have A32 := aK A320; clear A320; replace H := Option.bind_eq_some_iff.mp H; obtain ⟨⟨t294, t295, t296⟩, A330, H⟩ := H
          replace H : ((signalboxref1_Cursor_num.f k3 l0 t295 t296 8).bind fun bt297 => (if ab.length < 5864062014805 then (signalboxref1_Decode.l1 k3 l0 t288 (wrap64 (x10_3 + 1)) l0 bt297.2.1 bt297.2.2 a9 (ab ++ [(⟨t291, t294, bt297.1⟩ : S46)]) 0 0) else (none))) = some (r1, r2, r3, r4, r5, r6, r7, r8, r9, r10) := H
          have A33 := aK A330; clear A330; replace H := Option.bind_eq_some_iff.mp H; obtain ⟨⟨t297, t298, t299⟩, A340, H⟩ := H
          replace H : (if ab.length < 5864062014805 then (signalboxref1_Decode.l1 k3 l0 t288 (wrap64 (x10_3 + 1)) l0 t298 t299 a9 (ab ++ [(⟨t291, t294, t297⟩ : S46)]) 0 0) else (none)) = some (r1, r2, r3, r4, r5, r6, r7, r8, r9, r10) := H
          have A34 := aK A340; clear A340
          by_cases c35 : ab.length < 5864062014805
          case neg =>
           rw [if_neg c35] at H
           exact absurd H (by simp)
          rw [if_pos c35] at H
          have LMc35 := aK c35; clear c35; obtain ⟨y300, hy300⟩ : ∃ y_ : List (S46), y_ = (ab ++ [(⟨t291, t294, t297⟩ : S46)]) := ⟨_, rfl⟩
          replace H : (signalboxref1_Decode.l1 k3 l0 t288 (wrap64 (x10_3 + 1)) l0 t298 t299 a9 y300 0 0) = some (r1, r2, r3, r4, r5, r6, r7, r8, r9, r10) := by first | (rw [hy300]; with_reducible exact H) | (have H2_ := (Option.bind_some _ _).symm.trans H; rw [hy300]; with_reducible exact H2_) | (have H2_ := (Option.bind_some _ _).symm.trans H; with_reducible exact H2_) | with_reducible exact H | (rw [hy300]; exact H) | exact H
          have Ny300 := aK hy300; clear hy300; have H' := aK H
          clear H
          try go_wp2_with (first | ((with_reducible refine gate_callee (f := 57) rfl ?_); refine goesL_ (some 69) rfl rfl Try.func57 (by kernel_rfl) rfl #[.pointer (some ⟨ae, 0, none⟩), .int .i64 8] rfl (by (try simp only [List.map_toArray, List.map_cons, List.map_nil]); first | done | rfl | (simp only [List.length_drop, List.length_take]; rfl)) ?_; (with_reducible refine (signalboxref1_Cursor_num.calls k3 ae l0 aG aH 8 t291 t292 t293 w _ ?side1 ?side2 A32.out).mono ?_); (case side1 => repeat (first | (with_reducible first | exact a1.out | apply iA | apply iN | apply iD | refine iF ?_ a8.out _ | refine iF ?_ a7.out _) | exact a1.out)); (case side2 => repeat (first | (with_reducible first | exact HB.out | apply pA | apply pN | apply pD | refine pS ?_ (iG a1.out) | refine pS ?_ ak.out | refine pS ?_ ap.out) | exact HB.out)); rintro e w36 ⟨rfl, hi, hb, hk⟩; refine ⟨_, rfl, ?_⟩; have hI : IsS101 w _ ae l0 aG aH := iS_of hk (by repeat (first | (with_reducible first | exact a1.out | apply iA | apply iN | apply iD | refine iF ?_ a8.out _ | refine iF ?_ a7.out _) | exact a1.out)); replace a4 := aK (kM (kK (iP hI (by (with_reducible repeat (first | apply kA | apply kN | apply kD)); exact a4.out) (by decide)) hk (fun _ h => h.2)) (fun _ h => h.1)); replace a6 := aK (kM (kK (iP hI (by (with_reducible repeat (first | apply kA | apply kN | apply kD)); exact a6.out) (by decide)) hk (fun _ h => h.2)) (fun _ h => h.1)); replace a3 := aK (kB hk (g' := a5) (o := .cells #[.slice none 0 0, .slice none 0 0, .slice none 0 0, .int .i64 0, .slice none 0 0, .slice none 0 0, .slice none 0 0, .slice none 0 0, .int .i64 0] 29 (0, 0)) (by (with_reducible repeat (first | refine bN ?_ _ | refine bD ?_ | refine bA ?_ _)); exact a3.out) ar.out (by simp)); replace a0 := aK (kB hk (g' := a2) (o := .cells #[af, ai, .slice none 0 0, .int .i64 0, .slice none 0 0, .slice none 0 0, .slice none 0 0, .slice none 0 0, .int .i64 0] 29 (0, 0)) (by (with_reducible repeat (first | refine bN ?_ _ | refine bD ?_ | refine bA ?_ _)); exact a0.out) aq.out (by simp)); replace HB := aK (hb); replace a1 := aK (hi); clear hb hk hi; clear hI) | ((with_reducible refine gate_callee (f := 57) rfl ?_); refine goesL_ (some 71) rfl rfl Try.func57 (by kernel_rfl) rfl #[.pointer (some ⟨ae, 0, none⟩), .int .i64 8] rfl (by (try simp only [List.map_toArray, List.map_cons, List.map_nil]); first | done | rfl | (simp only [List.length_drop, List.length_take]; rfl)) ?_; (with_reducible refine (signalboxref1_Cursor_num.calls k3 ae l0 t292 t293 8 t294 t295 t296 w _ ?side1 ?side2 A33.out).mono ?_); (case side1 => repeat (first | (with_reducible first | exact a1.out | apply iA | apply iN | apply iD | refine iF ?_ a8.out _ | refine iF ?_ a7.out _) | exact a1.out)); (case side2 => repeat (first | (with_reducible first | exact HB.out | apply pA | apply pN | apply pD | refine pS ?_ (iG a1.out) | refine pS ?_ ak.out | refine pS ?_ ap.out) | exact HB.out)); rintro e w37 ⟨rfl, hi, hb, hk⟩; refine ⟨_, rfl, ?_⟩; have hI : IsS101 w _ ae l0 t292 t293 := iS_of hk (by repeat (first | (with_reducible first | exact a1.out | apply iA | apply iN | apply iD | refine iF ?_ a8.out _ | refine iF ?_ a7.out _) | exact a1.out)); replace a4 := aK (kM (kK (iP hI (by (with_reducible repeat (first | apply kA | apply kN | apply kD)); exact a4.out) (by decide)) hk (fun _ h => h.2)) (fun _ h => h.1)); replace a6 := aK (kM (kK (iP hI (by (with_reducible repeat (first | apply kA | apply kN | apply kD)); exact a6.out) (by decide)) hk (fun _ h => h.2)) (fun _ h => h.1)); replace a3 := aK (kB hk (g' := a5) (o := .cells #[.slice none 0 0, .slice none 0 0, .slice none 0 0, .int .i64 0, .slice none 0 0, .slice none 0 0, .slice none 0 0, .slice none 0 0, .int .i64 0] 29 (0, 0)) (by (with_reducible repeat (first | refine bN ?_ _ | refine bD ?_ | refine bA ?_ _)); exact a3.out) ar.out (by simp)); replace a0 := aK (kB hk (g' := a2) (o := .cells #[af, ai, .slice none 0 0, .int .i64 0, .slice none 0 0, .slice none 0 0, .slice none 0 0, .slice none 0 0, .int .i64 0] 29 (0, 0)) (by (with_reducible repeat (first | refine bN ?_ _ | refine bD ?_ | refine bA ?_ _)); exact a0.out) aq.out (by simp)); replace HB := aK (hb); replace a1 := aK (hi); clear hb hk hi; clear hI))
          replace a4 := aK (kD a4.out)
          replace a6 := aK (kD a6.out)
          replace a3 := aK (bD a3.out)
          replace a0 := aK (bD a0.out)
          replace a1 := aK (iD a1.out)
          replace HB := aK (pD HB.out)
          refine start_ (n := 11) (S := fun w' => w'.cell? ⟨a2, 0, none⟩ = some (af) ∧ w'.cell? ⟨a2, 1, none⟩ = some (ai) ∧ w'.cell? ⟨a2, 2, none⟩ = some (.slice none 0 0) ∧ w'.cell? ⟨a2, 3, none⟩ = some (.int .i64 0) ∧ w'.cell? ⟨a2, 4, none⟩ = some (.slice none 0 0) ∧ w'.cell? ⟨a2, 5, none⟩ = some (.slice none 0 0) ∧ w'.cell? ⟨a2, 6, none⟩ = some (.slice none 0 0) ∧ w'.cell? ⟨a2, 7, none⟩ = some (.slice none 0 0) ∧ w'.cell? ⟨a2, 8, none⟩ = some (.int .i64 0)) (ds := [10]) #[false, false, false, false, false, false, false, false, false, false, false] (by kernel_rfl) rfl rfl ⟨(bC a0.out 0).trans rfl, (bC a0.out 1).trans rfl, (bC a0.out 2).trans rfl, (bC a0.out 3).trans rfl, (bC a0.out 4).trans rfl, (bC a0.out 5).trans rfl, (bC a0.out 6).trans rfl, (bC a0.out 7).trans rfl, (bC a0.out 8).trans rfl⟩ (fun hHeld => ?_); refine with_tabW signalboxref1_Decode.tab18 signalboxref1_Decode.bits18 (fun HT_ HW_ => ?_)
          generalize w37.drew = w38 at a4 a6 a3 a0 a1 HB hHeld ⊢
          refine pure_ (i := 0) (N := some 72) (v := ?_) (a' := ?_) #[true, false, false, false, false, false, false, false, false, false, false] rfl rfl (any_of HT_.out (by kernel_rfl)) (fun _ _ _ h => h) (Or.inl ⟨by rfl, ?_⟩) ?_ ?_
          rotate_left
          ·intro w'
           go_simp
           with_reducible rfl
          rotate_left
          ·simp only [Act.put, List.setIfInBounds_toArray, List.set_cons_zero, List.set_cons_succ, i64_w, i32_w]
           rfl
          refine pure_ (i := 2) (N := some 74) (v := ?_) (a' := ?_) #[true, false, true, false, false, false, false, false, false, false, false] rfl rfl (any_of HT_.out (by kernel_rfl)) (fun _ _ _ h => h) (Or.inl ⟨by rfl, ?_⟩) ?_ ?_
          rotate_left
          ·intro w'
           go_simp
           with_reducible rfl
          rotate_left
          ·simp only [Act.put, List.setIfInBounds_toArray, List.set_cons_zero, List.set_cons_succ, i64_w, i32_w]
           rfl
          refine pure_ (i := 3) (N := some 75) (v := ?_) (a' := ?_) #[true, false, true, true, false, false, false, false, false, false, false] rfl rfl (any_of HT_.out (by kernel_rfl)) (fun _ _ _ h => h) (Or.inl ⟨by rfl, ?_⟩) ?_ ?_
          rotate_left
          ·intro w'
           go_simp
           with_reducible rfl
          rotate_left
          ·simp only [Act.put, List.setIfInBounds_toArray, List.set_cons_zero, List.set_cons_succ, i64_w, i32_w]
           rfl
          refine pure_ (i := 4) (N := some 76) (v := ?_) (a' := ?_) #[true, false, true, true, true, false, false, false, false, false, false] rfl rfl (any_of HT_.out (by kernel_rfl)) (fun _ _ _ h => h) (Or.inl ⟨by rfl, ?_⟩) ?_ ?_
          rotate_left
          ·intro w'
           go_simp
           with_reducible rfl
          rotate_left
          ·simp only [Act.put, List.setIfInBounds_toArray, List.set_cons_zero, List.set_cons_succ, i64_w, i32_w]
           rfl
          refine take_ (i := 1) (N := some 73) (v := ?_) (a' := ?_) #[true, true, true, true, true, false, false, false, false, false, false] rfl rfl (take_ofW HT_.out HW_.out (by kernel_rfl)) (fun _ _ _ h => h) (Or.inl ⟨by rfl, ?_⟩) hHeld ?_ ?_
          rotate_left
          ·rintro w' ⟨s0, s1, s2, s3, s4, s5, s6, s7, s8⟩
           go_simp
           with_reducible rfl
          rotate_left
          ·simp only [Act.put, List.setIfInBounds_toArray, List.set_cons_zero, List.set_cons_succ, i64_w, i32_w]
           rfl
          refine one_ (i := 5) (N := some 77) #[true, true, true, true, true, true, false, false, false, false, false] rfl rfl (one_of HT_.out (by kernel_rfl)) (by decide) (fun K hK => ?_)
          refine goes_ Try.func57 (by kernel_rfl) rfl #[.pointer (some ⟨ae, 0, none⟩), .int .i64 8] (by rfl) rfl rfl (by (try simp only [List.map_toArray, List.map_cons, List.map_nil]); first | done | rfl | (simp only [List.length_drop, List.length_take]; rfl)) ?_
          with_reducible refine (signalboxref1_Cursor_num.calls k3 ae l0 t295 t296 8 t297 t298 t299 w _ ?side1 ?side2 A34.out).mono ?_
          (case side1 => repeat (first | (with_reducible first | exact a1.out | apply iA | apply iN | apply iD | refine iF ?_ a8.out _ | refine iF ?_ a7.out _) | exact a1.out))
          (case side2 => repeat (first | (with_reducible first | exact HB.out | apply pA | apply pN | apply pD | refine pS ?_ (iG a1.out) | refine pS ?_ ak.out | refine pS ?_ ap.out) | exact HB.out))
          rintro e w39 ⟨rfl, hi, hb, hk⟩
          refine ⟨_, rfl, ?_⟩
          replace a4 := aK (kM (kK (iP (show IsS101 w _ ae l0 t295 t296 from by repeat (first | (with_reducible first | exact a1.out | apply iA | apply iN | apply iD | refine iF ?_ a8.out _ | refine iF ?_ a7.out _) | exact a1.out)) (by (with_reducible repeat (first | apply kA | apply kN | apply kD)); exact a4.out) (by decide)) hk (fun _ h => h.2)) (fun _ h => h.1))
          replace a6 := aK (kM (kK (iP (show IsS101 w _ ae l0 t295 t296 from by repeat (first | (with_reducible first | exact a1.out | apply iA | apply iN | apply iD | refine iF ?_ a8.out _ | refine iF ?_ a7.out _) | exact a1.out)) (by (with_reducible repeat (first | apply kA | apply kN | apply kD)); exact a6.out) (by decide)) hk (fun _ h => h.2)) (fun _ h => h.1))
          replace a3 := aK (kB hk (g' := a5) (o := .cells #[.slice none 0 0, .slice none 0 0, .slice none 0 0, .int .i64 0, .slice none 0 0, .slice none 0 0, .slice none 0 0, .slice none 0 0, .int .i64 0] 29 (0, 0)) (by (with_reducible repeat (first | refine bN ?_ _ | refine bD ?_ | refine bA ?_ _)); exact a3.out) ar.out (by simp))
          replace a0 := aK (kB hk (g' := a2) (o := .cells #[af, ai, .slice none 0 0, .int .i64 0, .slice none 0 0, .slice none 0 0, .slice none 0 0, .slice none 0 0, .int .i64 0] 29 (0, 0)) (by (with_reducible repeat (first | refine bN ?_ _ | refine bD ?_ | refine bA ?_ _)); exact a0.out) aq.out (by simp))
          replace HB := aK (hb)
          replace a1 := aK (hi)
          (try clear hb)
          (try clear hb2)
          (try clear hk)
          (try clear hi)
          refine hK.out _ _ ⟨(bC a0.out 0).trans rfl, (bC a0.out 1).trans rfl, (bC a0.out 2).trans rfl, (bC a0.out 3).trans rfl, (bC a0.out 4).trans rfl, (bC a0.out 5).trans rfl, (bC a0.out 6).trans rfl, (bC a0.out 7).trans rfl, (bC a0.out 8).trans rfl⟩ (fun hHeld => ?_)
          clear hK K
          refine norm_ (a' := ?_) ?_ ?_
          rotate_left
          ·show Act.put _ (some 77) _ = _
           simp only [Act.put, List.setIfInBounds_toArray, List.set_cons_zero, List.set_cons_succ, i64_w, i32_w]
           rfl
          refine pure_ (i := 6) (N := some 78) (v := ?_) (a' := ?_) #[true, true, true, true, true, true, true, false, false, false, false] rfl rfl (any_of HT_.out (by kernel_rfl)) (fun _ _ _ h => h) (Or.inl ⟨by rfl, ?_⟩) ?_ ?_
          rotate_left
          ·intro w'
           go_simp
           with_reducible rfl
          rotate_left
          ·simp only [Act.put, List.setIfInBounds_toArray, List.set_cons_zero, List.set_cons_succ, i64_w, i32_w]
           rfl
          refine one_ (i := 7) (N := some 79) #[true, true, true, true, true, true, true, true, false, false, false] rfl rfl (one_of HT_.out (by kernel_rfl)) (by decide) (fun K hK => ?_)
          refine value_ (w1 := ?_) (v := ?_) (by rfl) rfl ?_ ?_
          rotate_left 2
          ·go_simp
           constructor
           ·rfl
           ·rfl
          refine hK.out _ _ ⟨(bC (bA a0.out _) 0).trans rfl, (bC (bA a0.out _) 1).trans rfl, (bC (bA a0.out _) 2).trans rfl, (bC (bA a0.out _) 3).trans rfl, (bC (bA a0.out _) 4).trans rfl, (bC (bA a0.out _) 5).trans rfl, (bC (bA a0.out _) 6).trans rfl, (bC (bA a0.out _) 7).trans rfl, (bC (bA a0.out _) 8).trans rfl⟩ (fun hHeld => ?_)
          clear hK K
          refine norm_ (a' := ?_) ?_ ?_
          rotate_left
          ·show Act.put _ (some 79) _ = _
           simp only [Act.put, List.setIfInBounds_toArray, List.set_cons_zero, List.set_cons_succ, i64_w, i32_w]
           rfl
          refine one_ (i := 8) (N := some 80) #[true, true, true, true, true, true, true, true, true, false, false] rfl rfl (one_of HT_.out (by kernel_rfl)) (by decide) (fun K hK => ?_)
          refine Kd.R_append_step k46 (w0 := w) w.heap.size (by rfl) (.tmp 73) (.tmp 79) 23 46 (.agg #[(.int .i64 0), (.int .i64 0), (.int .i64 0)]) 24 rfl Try.underlying23 infoD46 rfl (by decide) (by omega) ai ab (⟨t291, t294, t297⟩ : S46) [.int .i64 t291, .int .i64 t294, .int .i64 t297] (fun _ => True) (fun _ => False) rfl rfl ?aP (fun _ hk => hk.elim) ?aF ?aO ?aB ?aS ?aL ?_
          (case aP => exact k46_mkM _ _ _ (⟨t291, t294, t297⟩ : S46))
          (case aB => exact (by repeat (first | (with_reducible first | exact HB.out | apply pA | apply pN | apply pD | refine pS ?_ (iG a1.out) | refine pS ?_ ak.out | refine pS ?_ ap.out) | exact HB.out)))
          (case aF => exact (fun _ _ => trivial))
          (case aO => exact (by (with_reducible repeat (first | apply kA | apply kN | apply kD)); exact a6.out))
          (case aS => exact (below_size (by repeat (first | (with_reducible first | exact HB.out | apply pA | apply pN | apply pD | refine pS ?_ (iG a1.out) | refine pS ?_ ak.out | refine pS ?_ ap.out) | exact HB.out))))
          (case aL => have := LMc35.out; omega)
          intro v301 w40 ho hb hg hat
          rw [← Ny300.out] at ho
          replace a4 := aK (Kd.R_over' (by (with_reducible repeat (first | apply kA | apply kN | apply kD)); exact a4.out) (Kd.R_typed (by (with_reducible repeat (first | apply kA | apply kN | apply kD)); exact a6.out)) (by decide) hg)
          replace a3 := aK (blk_grown (g := a5) (o := .cells #[.slice none 0 0, .slice none 0 0, .slice none 0 0, .int .i64 0, .slice none 0 0, .slice none 0 0, .slice none 0 0, .slice none 0 0, .int .i64 0] 29 (0, 0)) (by (with_reducible repeat (first | refine bN ?_ _ | refine bD ?_ | refine bA ?_ _)); exact a3.out) hg (Kd.R_ne a6.out a3.out (by decide)))
          replace a0 := aK (blk_grown (g := a2) (o := .cells #[af, ai, .slice none 0 0, .int .i64 0, .slice none 0 0, .slice none 0 0, .slice none 0 0, .slice none 0 0, .int .i64 0] 29 (0, 0)) (by (with_reducible repeat (first | refine bN ?_ _ | refine bD ?_ | refine bA ?_ _)); exact a0.out) hg (Kd.R_ne a6.out a0.out (by decide)))
          replace a1 := aK (IsS101.grown (by repeat (first | (with_reducible first | exact a1.out | apply iA | apply iN | apply iD | refine iF ?_ a8.out _ | refine iF ?_ a7.out _) | exact a1.out)) hg (IsS101.own_ne a1.out a6.out (by decide)))
          replace HB := aK (hb)
          have HO302 := aK (ho)
          clear a6 ho hb hg hat
          obtain ⟨Ao41, co41, eo41⟩ := Kd.R_slice HO302.out
          (first | subst eo41 | (injection eo41 with f1_ f2_ f3_; have f4_ := f1_.symm; have f5_ := f3_.symm; clear f1_ f2_ f3_; subst f4_; subst f5_))
          refine hK.out _ _ ⟨(bC a0.out 0).trans rfl, (bC a0.out 1).trans rfl, (bC a0.out 2).trans rfl, (bC a0.out 3).trans rfl, (bC a0.out 4).trans rfl, (bC a0.out 5).trans rfl, (bC a0.out 6).trans rfl, (bC a0.out 7).trans rfl, (bC a0.out 8).trans rfl⟩ (fun hHeld => ?_)
          clear hK K
          refine norm_ (a' := ?_) ?_ ?_
          rotate_left
          ·show Act.put _ (some 80) _ = _
           simp only [Act.put, List.setIfInBounds_toArray, List.set_cons_zero, List.set_cons_succ, i64_w, i32_w]
           rfl
          refine pure_ (i := 9) (N := some 81) (v := ?_) (a' := ?_) #[true, true, true, true, true, true, true, true, true, true, false] rfl rfl (any_of HT_.out (by kernel_rfl)) (fun _ _ _ h => h) (Or.inl ⟨by rfl, ?_⟩) ?_ ?_
          rotate_left
          ·intro w'
           go_simp
           with_reducible rfl
          rotate_left
          ·simp only [Act.put, List.setIfInBounds_toArray, List.set_cons_zero, List.set_cons_succ, i64_w, i32_w]
           rfl
          refine last_ (i := 10) (N := none) #[true, true, true, true, true, true, true, true, true, true, true] rfl rfl (one_of HT_.out (by kernel_rfl)) (by decide) (fun K hK => ?_)
          have hs42 : w40.cell? ⟨a2, 1, none⟩ = some (ai) := (bC a0.out 1).trans rfl; have hfs42 := bF a0.out 1; have hns42_0 := ao.out; have hms42_0 := az.out
          refine skip_ (w1 := ?_) (by rfl) rfl ?_ ?_
          rotate_left
          ·go_simp
           rfl
          refine hK.out _ _ ?_
          clear hK K
          refine done_ (done_of HT_.out (by kernel_rfl)) ?_
          try go_wp2
          go_roundg k3
          case measure => have := HJ1.out; have := HK2.out; have := HK3.out; omega
          case rel => exact ⟨(wrap64 (x10_3 + 1)), (t298), (t299), (y300), (.slice Ao41 y300.length co41), (by first | rfl | (simp; done) | (simp [*]; done)), H', ⟨by have := HJ1.out; have := HK2.out; have := HK3.out; omega⟩, ⟨by (with_reducible repeat (first | apply kA | apply kN | apply kD)); exact kM (kF (p := ⟨a2, 1, none⟩) (kT a4.out a0.out (by decide)) (fun _ hk => hk.2) (.slice Ao41 y300.length co41)) (fun _ hk => trivial)⟩, ⟨by (with_reducible repeat (first | apply kA | apply kN | apply kD)); exact kM (kF (p := ⟨a2, 1, none⟩) (kT HO302.out a0.out (by decide)) (fun _ hk => hk.2) (.slice Ao41 y300.length co41)) (fun _ hk => trivial)⟩, ⟨by (with_reducible repeat (first | refine bN ?_ _ | refine bD ?_ | refine bA ?_ _)); refine blk_far ?_ ao.out _; (with_reducible repeat (first | refine bN ?_ _ | refine bD ?_ | refine bA ?_ _)); exact a3.out⟩, ⟨by (with_reducible repeat (first | refine bN ?_ _ | refine bD ?_ | refine bA ?_ _)); refine blk_put (cs := #[af, ai, .slice none 0 0, .int .i64 0, .slice none 0 0, .slice none 0 0, .slice none 0 0, .slice none 0 0, .int .i64 0]) ?_ 1 _ rfl; (with_reducible repeat (first | refine bN ?_ _ | refine bD ?_ | refine bA ?_ _)); exact a0.out⟩, ⟨by repeat (first | (with_reducible first | exact a1.out | apply iA | apply iN | apply iD | refine iF ?_ a8.out _ | refine iF ?_ a7.out _) | exact a1.out)⟩, ⟨by repeat (first | (with_reducible first | exact HB.out | apply pA | apply pN | apply pD | refine pS ?_ (iG a1.out) | refine pS ?_ ak.out | refine pS ?_ ap.out) | exact HB.out)⟩⟩
         ·rw [if_neg c31] at H
          have c31b0 : decide (x10_3 < t288) = false := decide_eq_false c31; clear c31; replace H := Option.bind_eq_some_iff.mp H; obtain ⟨⟨t303, t304, t305⟩, A430, H⟩ := H
          replace H : (signalboxref1_Decode.l2 k3 l0 t303 0 l0 t304 t305 a9 ab ([] : List (S56)) 0 0) = some (r1, r2, r3, r4, r5, r6, r7, r8, r9, r10) := H
          have A43 := aK A430; clear A430; have H' := aK H
          clear H; go_wp2_with (first | ((with_reducible refine gate_callee (f := 56) rfl ?_); refine goesL_ (some 83) rfl rfl Try.func56 (by kernel_rfl) rfl #[.pointer (some ⟨ae, 0, none⟩), .int .i64 2] rfl (by (try simp only [List.map_toArray, List.map_cons, List.map_nil]); first | done | rfl | (simp only [List.length_drop, List.length_take]; rfl)) ?_; (with_reducible refine (signalboxref1_Cursor_count.calls k3 ae l0 aG aH 2 t303 t304 t305 w _ ?side1 ?side2 A43.out).mono ?_); (case side1 => repeat (first | (with_reducible first | exact a1.out | apply iA | apply iN | apply iD | refine iF ?_ a8.out _ | refine iF ?_ a7.out _) | exact a1.out)); (case side2 => repeat (first | (with_reducible first | exact HB.out | apply pA | apply pN | apply pD | refine pS ?_ (iG a1.out) | refine pS ?_ ak.out | refine pS ?_ ap.out) | exact HB.out)); rintro e w44 ⟨rfl, hi, hb, hk⟩; refine ⟨_, rfl, ?_⟩; have hI : IsS101 w _ ae l0 aG aH := iS_of hk (by repeat (first | (with_reducible first | exact a1.out | apply iA | apply iN | apply iD | refine iF ?_ a8.out _ | refine iF ?_ a7.out _) | exact a1.out)); replace a4 := aK (kM (kK (iP hI (by (with_reducible repeat (first | apply kA | apply kN | apply kD)); exact a4.out) (by decide)) hk (fun _ h => h.2)) (fun _ h => h.1)); replace a6 := aK (kM (kK (iP hI (by (with_reducible repeat (first | apply kA | apply kN | apply kD)); exact a6.out) (by decide)) hk (fun _ h => h.2)) (fun _ h => h.1)); replace a3 := aK (kB hk (g' := a5) (o := .cells #[.slice none 0 0, .slice none 0 0, .slice none 0 0, .int .i64 0, .slice none 0 0, .slice none 0 0, .slice none 0 0, .slice none 0 0, .int .i64 0] 29 (0, 0)) (by (with_reducible repeat (first | refine bN ?_ _ | refine bD ?_ | refine bA ?_ _)); exact a3.out) ar.out (by simp)); replace a0 := aK (kB hk (g' := a2) (o := .cells #[af, ai, .slice none 0 0, .int .i64 0, .slice none 0 0, .slice none 0 0, .slice none 0 0, .slice none 0 0, .int .i64 0] 29 (0, 0)) (by (with_reducible repeat (first | refine bN ?_ _ | refine bD ?_ | refine bA ?_ _)); exact a0.out) aq.out (by simp)); replace HB := aK (hb); replace a1 := aK (hi); clear hb hk hi; clear hI))
          go_loopg [13] k3 (fun kq v13 w' => ∃ (x13_4 : Int) (aI : Int) (aJ : Bool) (ac : List (S56)) (al : Value), v13 = .int .i64 x13_4 ∧ Aside0 (signalboxref1_Decode.l2 kq l0 t303 x13_4 l0 aI aJ a9 ab ac 0 0 = some (r1, r2, r3, r4, r5, r6, r7, r8, r9, r10)) ∧ Aside0 (kq ≤ k3) ∧ Aside0 (Kd.R k44 44 w' w.heap.size (fun _ => True) af a9) ∧ Aside0 (Kd.R k46 46 w' w.heap.size (fun _ => True) ai ab) ∧ Aside0 (Kd.R k56 56 w' w.heap.size (fun _ => True) al ac) ∧ Aside0 (w'.heap[a5]? = some (.cells #[(.slice none 0 0), (.slice none 0 0), (.slice none 0 0), .int .i64 0, (.slice none 0 0), (.slice none 0 0), (.slice none 0 0), (.slice none 0 0), .int .i64 0] 29 (0, 0))) ∧ Aside0 (w'.heap[a2]? = some (.cells #[af, ai, al, .int .i64 0, (.slice none 0 0), (.slice none 0 0), (.slice none 0 0), (.slice none 0 0), .int .i64 0] 29 (0, 0))) ∧ Aside0 (IsS101 w w' ae l0 aI aJ) ∧ Aside0 (Below w.heap.size w w'))
          case atStart => exact ⟨(0), (t304), (t305), (([] : List (S56))), (.slice none 0 0), (by first | rfl | (simp; done) | (simp [*]; done)), H', ⟨Nat.le_refl _⟩, ⟨by (with_reducible repeat (first | apply kA | apply kN | apply kD)); exact a4.out⟩, ⟨by (with_reducible repeat (first | apply kA | apply kN | apply kD)); exact a6.out⟩, ⟨by first | exact Kd.R_nil _ _ _ _ _ | exact Kd.N_nil _ _ _ _ _ | exact Kd.V_nil _ _ _ _ _ | exact Kd.Q_nil _ _ _ _ _ | exact Kd.S_nil _ _ _ _ _⟩, ⟨by (with_reducible repeat (first | refine bN ?_ _ | refine bD ?_ | refine bA ?_ _)); exact a3.out⟩, ⟨by (with_reducible repeat (first | refine bN ?_ _ | refine bD ?_ | refine bA ?_ _)); exact a0.out⟩, ⟨by repeat (first | (with_reducible first | exact a1.out | apply iA | apply iN | apply iD | refine iF ?_ a8.out _ | refine iF ?_ a7.out _) | exact a1.out)⟩, ⟨by repeat (first | (with_reducible first | exact HB.out | apply pA | apply pN | apply pD | refine pS ?_ (iG a1.out) | refine pS ?_ ak.out | refine pS ?_ ap.out) | exact HB.out)⟩⟩
          case round =>
           clear H'
           try clear c1
           try clear c2
           try clear p2
           try clear q2
           try clear hx2
           try clear qi2
           try clear c3
           try clear c4
           try clear c4b0
           try clear c4b1
           try clear c5
           try clear c5b0
           try clear c5b1
           try clear c6
           try clear c6b0
           try clear c6b1
           try clear p6
           try clear c7
           try clear c7b0
           try clear c7b1
           try clear c8
           try clear c13
           try clear c14
           try clear c17
           try clear c17b0
           try clear c21
           try clear p26
           try clear q26
           try clear hx26
           try clear qi26
           try clear p27
           try clear q27
           try clear hx27
           try clear qi27
           try clear c31
           try clear c31b0
           try clear c35
           try clear aQ
           try clear aR
           try clear aT
           try clear aU
           try clear aV
           try clear aW
           try clear aX
           try clear aY
           try clear aZ
           try clear b9
           try clear ba
           try clear bb
           try clear bc
           try clear bd
           try clear be
           try clear bf
           try clear bg
           try clear bh
           try clear b0
           try clear b1
           try clear b2
           try clear b3
           try clear b4
           try clear b5
           try clear b6
           try clear b7
           try clear b8
           try clear bi
           try clear bj
           try clear bk
           try clear bl
           try clear bm
           try clear bn
           try clear bo
           try clear bp
           try clear bq
           try clear ax
           try clear aA
           try clear p2
           try clear p26
           try clear p269
           try clear p27
           try clear p270
           try clear p6
           try clear q2
           try clear q26
           try clear q269
           try clear q27
           try clear q270
           obtain ⟨x13_4, aI, aJ, ac, al, rfl, HA, HK4, a4, a6, aa, a3, a0, a1, HB⟩ := hrel
           cases gk with
           | zero => exact absurd HA.out (by simp [signalboxref1_Decode.l2])
           | succ k4 =>
            have H := HA.out; clear HA
            simp only [signalboxref1_Decode.l2] at H
            by_cases c45 : x13_4 < t303
            ·rw [if_pos c45] at H
             have c45b0 : decide (x13_4 < t303) = true := decide_eq_true c45; clear c45; replace H := Option.bind_eq_some_iff.mp H; obtain ⟨⟨t306, t307, t308⟩, A460, H⟩ := H
             replace H : ((signalboxref1_Cursor_num.f k4 l0 t307 t308 8).bind fun bt309 => (if ac.length < 8796093022208 then (signalboxref1_Decode.l2 k4 l0 t303 (wrap64 (x13_4 + 1)) l0 bt309.2.1 bt309.2.2 a9 ab (ac ++ [(⟨t306, bt309.1⟩ : S56)]) 0 0) else (none))) = some (r1, r2, r3, r4, r5, r6, r7, r8, r9, r10) := H
             have A46 := aK A460; clear A460; replace H := Option.bind_eq_some_iff.mp H; obtain ⟨⟨t309, t310, t311⟩, A470, H⟩ := H
             replace H : (if ac.length < 8796093022208 then (signalboxref1_Decode.l2 k4 l0 t303 (wrap64 (x13_4 + 1)) l0 t310 t311 a9 ab (ac ++ [(⟨t306, t309⟩ : S56)]) 0 0) else (none)) = some (r1, r2, r3, r4, r5, r6, r7, r8, r9, r10) := H
             have A47 := aK A470; clear A470
             by_cases c48 : ac.length < 8796093022208
             case neg =>
              rw [if_neg c48] at H
              exact absurd H (by simp)
             rw [if_pos c48] at H
             have LMc48 := aK c48; clear c48; obtain ⟨y312, hy312⟩ : ∃ y_ : List (S56), y_ = (ac ++ [(⟨t306, t309⟩ : S56)]) := ⟨_, rfl⟩
             replace H : (signalboxref1_Decode.l2 k4 l0 t303 (wrap64 (x13_4 + 1)) l0 t310 t311 a9 ab y312 0 0) = some (r1, r2, r3, r4, r5, r6, r7, r8, r9, r10) := by first | (rw [hy312]; with_reducible exact H) | (have H2_ := (Option.bind_some _ _).symm.trans H; rw [hy312]; with_reducible exact H2_) | (have H2_ := (Option.bind_some _ _).symm.trans H; with_reducible exact H2_) | with_reducible exact H | (rw [hy312]; exact H) | exact H
             have Ny312 := aK hy312; clear hy312; have H' := aK H
             clear H
             try go_wp2_with (first | ((with_reducible refine gate_callee (f := 57) rfl ?_); refine goesL_ (some 90) rfl rfl Try.func57 (by kernel_rfl) rfl #[.pointer (some ⟨ae, 0, none⟩), .int .i64 8] rfl (by (try simp only [List.map_toArray, List.map_cons, List.map_nil]); first | done | rfl | (simp only [List.length_drop, List.length_take]; rfl)) ?_; (with_reducible refine (signalboxref1_Cursor_num.calls k4 ae l0 aI aJ 8 t306 t307 t308 w _ ?side1 ?side2 A46.out).mono ?_); (case side1 => repeat (first | (with_reducible first | exact a1.out | apply iA | apply iN | apply iD | refine iF ?_ a8.out _ | refine iF ?_ a7.out _) | exact a1.out)); (case side2 => repeat (first | (with_reducible first | exact HB.out | apply pA | apply pN | apply pD | refine pS ?_ (iG a1.out) | refine pS ?_ ak.out | refine pS ?_ ap.out) | exact HB.out)); rintro e w49 ⟨rfl, hi, hb, hk⟩; refine ⟨_, rfl, ?_⟩; have hI : IsS101 w _ ae l0 aI aJ := iS_of hk (by repeat (first | (with_reducible first | exact a1.out | apply iA | apply iN | apply iD | refine iF ?_ a8.out _ | refine iF ?_ a7.out _) | exact a1.out)); replace a4 := aK (kM (kK (iP hI (by (with_reducible repeat (first | apply kA | apply kN | apply kD)); exact a4.out) (by decide)) hk (fun _ h => h.2)) (fun _ h => h.1)); replace a6 := aK (kM (kK (iP hI (by (with_reducible repeat (first | apply kA | apply kN | apply kD)); exact a6.out) (by decide)) hk (fun _ h => h.2)) (fun _ h => h.1)); replace aa := aK (kM (kK (iP hI (by (with_reducible repeat (first | apply kA | apply kN | apply kD)); exact aa.out) (by decide)) hk (fun _ h => h.2)) (fun _ h => h.1)); replace a3 := aK (kB hk (g' := a5) (o := .cells #[.slice none 0 0, .slice none 0 0, .slice none 0 0, .int .i64 0, .slice none 0 0, .slice none 0 0, .slice none 0 0, .slice none 0 0, .int .i64 0] 29 (0, 0)) (by (with_reducible repeat (first | refine bN ?_ _ | refine bD ?_ | refine bA ?_ _)); exact a3.out) ar.out (by simp)); replace a0 := aK (kB hk (g' := a2) (o := .cells #[af, ai, al, .int .i64 0, .slice none 0 0, .slice none 0 0, .slice none 0 0, .slice none 0 0, .int .i64 0] 29 (0, 0)) (by (with_reducible repeat (first | refine bN ?_ _ | refine bD ?_ | refine bA ?_ _)); exact a0.out) aq.out (by simp)); replace HB := aK (hb); replace a1 := aK (hi); clear hb hk hi; clear hI))
             replace a4 := aK (kD a4.out)
             replace a6 := aK (kD a6.out)
             replace aa := aK (kD aa.out)
             replace a3 := aK (bD a3.out)
             replace a0 := aK (bD a0.out)
             replace a1 := aK (iD a1.out)
             replace HB := aK (pD HB.out)
             refine start_ (n := 10) (S := fun w' => w'.cell? ⟨a2, 0, none⟩ = some (af) ∧ w'.cell? ⟨a2, 1, none⟩ = some (ai) ∧ w'.cell? ⟨a2, 2, none⟩ = some (al) ∧ w'.cell? ⟨a2, 3, none⟩ = some (.int .i64 0) ∧ w'.cell? ⟨a2, 4, none⟩ = some (.slice none 0 0) ∧ w'.cell? ⟨a2, 5, none⟩ = some (.slice none 0 0) ∧ w'.cell? ⟨a2, 6, none⟩ = some (.slice none 0 0) ∧ w'.cell? ⟨a2, 7, none⟩ = some (.slice none 0 0) ∧ w'.cell? ⟨a2, 8, none⟩ = some (.int .i64 0)) (ds := [9]) #[false, false, false, false, false, false, false, false, false, false] (by kernel_rfl) rfl rfl ⟨(bC a0.out 0).trans rfl, (bC a0.out 1).trans rfl, (bC a0.out 2).trans rfl, (bC a0.out 3).trans rfl, (bC a0.out 4).trans rfl, (bC a0.out 5).trans rfl, (bC a0.out 6).trans rfl, (bC a0.out 7).trans rfl, (bC a0.out 8).trans rfl⟩ (fun hHeld => ?_); refine with_tabW signalboxref1_Decode.tab24 signalboxref1_Decode.bits24 (fun HT_ HW_ => ?_)
             generalize w49.drew = w50 at a4 a6 aa a3 a0 a1 HB hHeld ⊢
             refine pure_ (i := 0) (N := some 91) (v := ?_) (a' := ?_) #[true, false, false, false, false, false, false, false, false, false] rfl rfl (any_of HT_.out (by kernel_rfl)) (fun _ _ _ h => h) (Or.inl ⟨by rfl, ?_⟩) ?_ ?_
             rotate_left
             ·intro w'
              go_simp
              with_reducible rfl
             rotate_left
             ·simp only [Act.put, List.setIfInBounds_toArray, List.set_cons_zero, List.set_cons_succ, i64_w, i32_w]
              rfl
             refine pure_ (i := 2) (N := some 93) (v := ?_) (a' := ?_) #[true, false, true, false, false, false, false, false, false, false] rfl rfl (any_of HT_.out (by kernel_rfl)) (fun _ _ _ h => h) (Or.inl ⟨by rfl, ?_⟩) ?_ ?_
             rotate_left
             ·intro w'
              go_simp
              with_reducible rfl
             rotate_left
             ·simp only [Act.put, List.setIfInBounds_toArray, List.set_cons_zero, List.set_cons_succ, i64_w, i32_w]
              rfl
             refine pure_ (i := 3) (N := some 94) (v := ?_) (a' := ?_) #[true, false, true, true, false, false, false, false, false, false] rfl rfl (any_of HT_.out (by kernel_rfl)) (fun _ _ _ h => h) (Or.inl ⟨by rfl, ?_⟩) ?_ ?_
             rotate_left
             ·intro w'
              go_simp
              with_reducible rfl
             rotate_left
             ·simp only [Act.put, List.setIfInBounds_toArray, List.set_cons_zero, List.set_cons_succ, i64_w, i32_w]
              rfl
             refine take_ (i := 1) (N := some 92) (v := ?_) (a' := ?_) #[true, true, true, true, false, false, false, false, false, false] rfl rfl (take_ofW HT_.out HW_.out (by kernel_rfl)) (fun _ _ _ h => h) (Or.inl ⟨by rfl, ?_⟩) hHeld ?_ ?_
             rotate_left
             ·rintro w' ⟨s0, s1, s2, s3, s4, s5, s6, s7, s8⟩
              go_simp
              with_reducible rfl
             rotate_left
             ·simp only [Act.put, List.setIfInBounds_toArray, List.set_cons_zero, List.set_cons_succ, i64_w, i32_w]
              rfl
             refine one_ (i := 4) (N := some 95) #[true, true, true, true, true, false, false, false, false, false] rfl rfl (one_of HT_.out (by kernel_rfl)) (by decide) (fun K hK => ?_)
             refine goes_ Try.func57 (by kernel_rfl) rfl #[.pointer (some ⟨ae, 0, none⟩), .int .i64 8] (by rfl) rfl rfl (by (try simp only [List.map_toArray, List.map_cons, List.map_nil]); first | done | rfl | (simp only [List.length_drop, List.length_take]; rfl)) ?_
             with_reducible refine (signalboxref1_Cursor_num.calls k4 ae l0 t307 t308 8 t309 t310 t311 w _ ?side1 ?side2 A47.out).mono ?_
             (case side1 => repeat (first | (with_reducible first | exact a1.out | apply iA | apply iN | apply iD | refine iF ?_ a8.out _ | refine iF ?_ a7.out _) | exact a1.out))
             (case side2 => repeat (first | (with_reducible first | exact HB.out | apply pA | apply pN | apply pD | refine pS ?_ (iG a1.out) | refine pS ?_ ak.out | refine pS ?_ ap.out) | exact HB.out))
             rintro e w51 ⟨rfl, hi, hb, hk⟩
             refine ⟨_, rfl, ?_⟩
             replace a4 := aK (kM (kK (iP (show IsS101 w _ ae l0 t307 t308 from by repeat (first | (with_reducible first | exact a1.out | apply iA | apply iN | apply iD | refine iF ?_ a8.out _ | refine iF ?_ a7.out _) | exact a1.out)) (by (with_reducible repeat (first | apply kA | apply kN | apply kD)); exact a4.out) (by decide)) hk (fun _ h => h.2)) (fun _ h => h.1))
             replace a6 := aK (kM (kK (iP (show IsS101 w _ ae l0 t307 t308 from by repeat (first | (with_reducible first | exact a1.out | apply iA | apply iN | apply iD | refine iF ?_ a8.out _ | refine iF ?_ a7.out _) | exact a1.out)) (by (with_reducible repeat (first | apply kA | apply kN | apply kD)); exact a6.out) (by decide)) hk (fun _ h => h.2)) (fun _ h => h.1))
             replace aa := aK (kM (kK (iP (show IsS101 w _ ae l0 t307 t308 from by repeat (first | (with_reducible first | exact a1.out | apply iA | apply iN | apply iD | refine iF ?_ a8.out _ | refine iF ?_ a7.out _) | exact a1.out)) (by (with_reducible repeat (first | apply kA | apply kN | apply kD)); exact aa.out) (by decide)) hk (fun _ h => h.2)) (fun _ h => h.1))
             replace a3 := aK (kB hk (g' := a5) (o := .cells #[.slice none 0 0, .slice none 0 0, .slice none 0 0, .int .i64 0, .slice none 0 0, .slice none 0 0, .slice none 0 0, .slice none 0 0, .int .i64 0] 29 (0, 0)) (by (with_reducible repeat (first | refine bN ?_ _ | refine bD ?_ | refine bA ?_ _)); exact a3.out) ar.out (by simp))
             replace a0 := aK (kB hk (g' := a2) (o := .cells #[af, ai, al, .int .i64 0, .slice none 0 0, .slice none 0 0, .slice none 0 0, .slice none 0 0, .int .i64 0] 29 (0, 0)) (by (with_reducible repeat (first | refine bN ?_ _ | refine bD ?_ | refine bA ?_ _)); exact a0.out) aq.out (by simp))
             replace HB := aK (hb)
             replace a1 := aK (hi)
             (try clear hb)
             (try clear hb2)
             (try clear hk)
             (try clear hi)
             refine hK.out _ _ ⟨(bC a0.out 0).trans rfl, (bC a0.out 1).trans rfl, (bC a0.out 2).trans rfl, (bC a0.out 3).trans rfl, (bC a0.out 4).trans rfl, (bC a0.out 5).trans rfl, (bC a0.out 6).trans rfl, (bC a0.out 7).trans rfl, (bC a0.out 8).trans rfl⟩ (fun hHeld => ?_)
             clear hK K
             refine norm_ (a' := ?_) ?_ ?_
             rotate_left
             ·show Act.put _ (some 95) _ = _
              simp only [Act.put, List.setIfInBounds_toArray, List.set_cons_zero, List.set_cons_succ, i64_w, i32_w]
              rfl
             refine pure_ (i := 5) (N := some 96) (v := ?_) (a' := ?_) #[true, true, true, true, true, true, false, false, false, false] rfl rfl (any_of HT_.out (by kernel_rfl)) (fun _ _ _ h => h) (Or.inl ⟨by rfl, ?_⟩) ?_ ?_
             rotate_left
             ·intro w'
              go_simp
              with_reducible rfl
             rotate_left
             ·simp only [Act.put, List.setIfInBounds_toArray, List.set_cons_zero, List.set_cons_succ, i64_w, i32_w]
              rfl
             refine one_ (i := 6) (N := some 97) #[true, true, true, true, true, true, true, false, false, false] rfl rfl (one_of HT_.out (by kernel_rfl)) (by decide) (fun K hK => ?_)
             refine value_ (w1 := ?_) (v := ?_) (by rfl) rfl ?_ ?_
             rotate_left 2
             ·go_simp
              constructor
              ·rfl
              ·rfl
             refine hK.out _ _ ⟨(bC (bA a0.out _) 0).trans rfl, (bC (bA a0.out _) 1).trans rfl, (bC (bA a0.out _) 2).trans rfl, (bC (bA a0.out _) 3).trans rfl, (bC (bA a0.out _) 4).trans rfl, (bC (bA a0.out _) 5).trans rfl, (bC (bA a0.out _) 6).trans rfl, (bC (bA a0.out _) 7).trans rfl, (bC (bA a0.out _) 8).trans rfl⟩ (fun hHeld => ?_)
             clear hK K
             refine norm_ (a' := ?_) ?_ ?_
             rotate_left
             ·show Act.put _ (some 97) _ = _
              simp only [Act.put, List.setIfInBounds_toArray, List.set_cons_zero, List.set_cons_succ, i64_w, i32_w]
              rfl
             refine one_ (i := 7) (N := some 98) #[true, true, true, true, true, true, true, true, false, false] rfl rfl (one_of HT_.out (by kernel_rfl)) (by decide) (fun K hK => ?_)
             refine Kd.R_append_step k56 (w0 := w) w.heap.size (by rfl) (.tmp 92) (.tmp 97) 24 56 (.agg #[(.int .i64 0), (.int .i64 0)]) 16 rfl Try.underlying24 infoD56 rfl (by decide) (by omega) al ac (⟨t306, t309⟩ : S56) [.int .i64 t306, .int .i64 t309] (fun _ => True) (fun _ => False) rfl rfl ?aP (fun _ hk => hk.elim) ?aF ?aO ?aB ?aS ?aL ?_
             (case aP => exact k56_mkM _ _ _ (⟨t306, t309⟩ : S56))
             (case aB => exact (by repeat (first | (with_reducible first | exact HB.out | apply pA | apply pN | apply pD | refine pS ?_ (iG a1.out) | refine pS ?_ ak.out | refine pS ?_ ap.out) | exact HB.out)))
             (case aF => exact (fun _ _ => trivial))
             (case aO => exact (by (with_reducible repeat (first | apply kA | apply kN | apply kD)); exact aa.out))
             (case aS => exact (below_size (by repeat (first | (with_reducible first | exact HB.out | apply pA | apply pN | apply pD | refine pS ?_ (iG a1.out) | refine pS ?_ ak.out | refine pS ?_ ap.out) | exact HB.out))))
             (case aL => have := LMc48.out; omega)
             intro v313 w52 ho hb hg hat
             rw [← Ny312.out] at ho
             replace a4 := aK (Kd.R_over' (by (with_reducible repeat (first | apply kA | apply kN | apply kD)); exact a4.out) (Kd.R_typed (by (with_reducible repeat (first | apply kA | apply kN | apply kD)); exact aa.out)) (by decide) hg)
             replace a6 := aK (Kd.R_over' (by (with_reducible repeat (first | apply kA | apply kN | apply kD)); exact a6.out) (Kd.R_typed (by (with_reducible repeat (first | apply kA | apply kN | apply kD)); exact aa.out)) (by decide) hg)
             replace a3 := aK (blk_grown (g := a5) (o := .cells #[.slice none 0 0, .slice none 0 0, .slice none 0 0, .int .i64 0, .slice none 0 0, .slice none 0 0, .slice none 0 0, .slice none 0 0, .int .i64 0] 29 (0, 0)) (by (with_reducible repeat (first | refine bN ?_ _ | refine bD ?_ | refine bA ?_ _)); exact a3.out) hg (Kd.R_ne aa.out a3.out (by decide)))
             replace a0 := aK (blk_grown (g := a2) (o := .cells #[af, ai, al, .int .i64 0, .slice none 0 0, .slice none 0 0, .slice none 0 0, .slice none 0 0, .int .i64 0] 29 (0, 0)) (by (with_reducible repeat (first | refine bN ?_ _ | refine bD ?_ | refine bA ?_ _)); exact a0.out) hg (Kd.R_ne aa.out a0.out (by decide)))
             replace a1 := aK (IsS101.grown (by repeat (first | (with_reducible first | exact a1.out | apply iA | apply iN | apply iD | refine iF ?_ a8.out _ | refine iF ?_ a7.out _) | exact a1.out)) hg (IsS101.own_ne a1.out aa.out (by decide)))
             replace HB := aK (hb)
             have HO314 := aK (ho)
             clear aa ho hb hg hat
             obtain ⟨Ao53, co53, eo53⟩ := Kd.R_slice HO314.out
             (first | subst eo53 | (injection eo53 with f1_ f2_ f3_; have f4_ := f1_.symm; have f5_ := f3_.symm; clear f1_ f2_ f3_; subst f4_; subst f5_))
             refine hK.out _ _ ⟨(bC a0.out 0).trans rfl, (bC a0.out 1).trans rfl, (bC a0.out 2).trans rfl, (bC a0.out 3).trans rfl, (bC a0.out 4).trans rfl, (bC a0.out 5).trans rfl, (bC a0.out 6).trans rfl, (bC a0.out 7).trans rfl, (bC a0.out 8).trans rfl⟩ (fun hHeld => ?_)
             clear hK K
             refine norm_ (a' := ?_) ?_ ?_
             rotate_left
             ·show Act.put _ (some 98) _ = _
              simp only [Act.put, List.setIfInBounds_toArray, List.set_cons_zero, List.set_cons_succ, i64_w, i32_w]
              rfl
             refine pure_ (i := 8) (N := some 99) (v := ?_) (a' := ?_) #[true, true, true, true, true, true, true, true, true, false] rfl rfl (any_of HT_.out (by kernel_rfl)) (fun _ _ _ h => h) (Or.inl ⟨by rfl, ?_⟩) ?_ ?_
             rotate_left
             ·intro w'
              go_simp
              with_reducible rfl
             rotate_left
             ·simp only [Act.put, List.setIfInBounds_toArray, List.set_cons_zero, List.set_cons_succ, i64_w, i32_w]
              rfl
             refine last_ (i := 9) (N := none) #[true, true, true, true, true, true, true, true, true, true] rfl rfl (one_of HT_.out (by kernel_rfl)) (by decide) (fun K hK => ?_)
             have hs54 : w52.cell? ⟨a2, 2, none⟩ = some (al) := (bC a0.out 2).trans rfl; have hfs54 := bF a0.out 2; have hns54_0 := ao.out; have hms54_0 := az.out
             refine skip_ (w1 := ?_) (by rfl) rfl ?_ ?_
             rotate_left
             ·go_simp
              rfl
             refine hK.out _ _ ?_
             clear hK K
             refine done_ (done_of HT_.out (by kernel_rfl)) ?_
             try go_wp2
             go_roundg k4
             case measure => have := HJ1.out; have := HK2.out; have := HK3.out; have := HK4.out; omega
             case rel => exact ⟨(wrap64 (x13_4 + 1)), (t310), (t311), (y312), (.slice Ao53 y312.length co53), (by first | rfl | (simp; done) | (simp [*]; done)), H', ⟨by have := HJ1.out; have := HK2.out; have := HK3.out; have := HK4.out; omega⟩, ⟨by (with_reducible repeat (first | apply kA | apply kN | apply kD)); exact kM (kF (p := ⟨a2, 2, none⟩) (kT a4.out a0.out (by decide)) (fun _ hk => hk.2) (.slice Ao53 y312.length co53)) (fun _ hk => trivial)⟩, ⟨by (with_reducible repeat (first | apply kA | apply kN | apply kD)); exact kM (kF (p := ⟨a2, 2, none⟩) (kT a6.out a0.out (by decide)) (fun _ hk => hk.2) (.slice Ao53 y312.length co53)) (fun _ hk => trivial)⟩, ⟨by (with_reducible repeat (first | apply kA | apply kN | apply kD)); exact kM (kF (p := ⟨a2, 2, none⟩) (kT HO314.out a0.out (by decide)) (fun _ hk => hk.2) (.slice Ao53 y312.length co53)) (fun _ hk => trivial)⟩, ⟨by (with_reducible repeat (first | refine bN ?_ _ | refine bD ?_ | refine bA ?_ _)); refine blk_far ?_ ao.out _; (with_reducible repeat (first | refine bN ?_ _ | refine bD ?_ | refine bA ?_ _)); exact a3.out⟩, ⟨by (with_reducible repeat (first | refine bN ?_ _ | refine bD ?_ | refine bA ?_ _)); refine blk_put (cs := #[af, ai, al, .int .i64 0, .slice none 0 0, .slice none 0 0, .slice none 0 0, .slice none 0 0, .int .i64 0]) ?_ 2 _ rfl; (with_reducible repeat (first | refine bN ?_ _ | refine bD ?_ | refine bA ?_ _)); exact a0.out⟩, ⟨by repeat (first | (with_reducible first | exact a1.out | apply iA | apply iN | apply iD | refine iF ?_ a8.out _ | refine iF ?_ a7.out _) | exact a1.out)⟩, ⟨by repeat (first | (with_reducible first | exact HB.out | apply pA | apply pN | apply pD | refine pS ?_ (iG a1.out) | refine pS ?_ ak.out | refine pS ?_ ap.out) | exact HB.out)⟩⟩
            ·rw [if_neg c45] at H
             have c45b0 : decide (x13_4 < t303) = false := decide_eq_false c45; clear c45; replace H := Option.bind_eq_some_iff.mp H; obtain ⟨⟨t315, t316, t317⟩, A550, H⟩ := H
             replace H : ((signalboxref1_Cursor_nums.f k4 l0 t316 t317).bind fun bt318 => ((signalboxref1_Cursor_nums.f k4 l0 bt318.2.1 bt318.2.2).bind fun bt323 => ((signalboxref1_Cursor_count.f k4 l0 bt323.2.1 bt323.2.2 (bt323.1.length : Int)).bind fun bt328 => (signalboxref1_Decode.l3 k4 l0 bt328.1 0 l0 bt328.2.1 bt328.2.2 a9 ab ac t315 bt318.1 bt323.1 ([] : List (List Int)) 0)))) = some (r1, r2, r3, r4, r5, r6, r7, r8, r9, r10) := H
             have A55 := aK A550; clear A550; replace H := Option.bind_eq_some_iff.mp H; obtain ⟨⟨t318, t321, t322⟩, A560, H⟩ := H
             replace H : ((signalboxref1_Cursor_nums.f k4 l0 t321 t322).bind fun bt323 => ((signalboxref1_Cursor_count.f k4 l0 bt323.2.1 bt323.2.2 (bt323.1.length : Int)).bind fun bt328 => (signalboxref1_Decode.l3 k4 l0 bt328.1 0 l0 bt328.2.1 bt328.2.2 a9 ab ac t315 t318 bt323.1 ([] : List (List Int)) 0))) = some (r1, r2, r3, r4, r5, r6, r7, r8, r9, r10) := H
             have A56 := aK A560; clear A560; replace H := Option.bind_eq_some_iff.mp H; obtain ⟨⟨t323, t326, t327⟩, A570, H⟩ := H
             replace H : ((signalboxref1_Cursor_count.f k4 l0 t326 t327 (t323.length : Int)).bind fun bt328 => (signalboxref1_Decode.l3 k4 l0 bt328.1 0 l0 bt328.2.1 bt328.2.2 a9 ab ac t315 t318 t323 ([] : List (List Int)) 0)) = some (r1, r2, r3, r4, r5, r6, r7, r8, r9, r10) := H
             have A57 := aK A570; clear A570; replace H := Option.bind_eq_some_iff.mp H; obtain ⟨⟨t328, t329, t330⟩, A580, H⟩ := H
             replace H : (signalboxref1_Decode.l3 k4 l0 t328 0 l0 t329 t330 a9 ab ac t315 t318 t323 ([] : List (List Int)) 0) = some (r1, r2, r3, r4, r5, r6, r7, r8, r9, r10) := H
             have A58 := aK A580; clear A580; have H' := aK H
             clear H; go_wp2_with (first | ((with_reducible refine gate_callee (f := 57) rfl ?_); refine goesL_ (some 101) rfl rfl Try.func57 (by kernel_rfl) rfl #[.pointer (some ⟨ae, 0, none⟩), .int .i64 8] rfl (by (try simp only [List.map_toArray, List.map_cons, List.map_nil]); first | done | rfl | (simp only [List.length_drop, List.length_take]; rfl)) ?_; (with_reducible refine (signalboxref1_Cursor_num.calls k4 ae l0 aI aJ 8 t315 t316 t317 w _ ?side1 ?side2 A55.out).mono ?_); (case side1 => repeat (first | (with_reducible first | exact a1.out | apply iA | apply iN | apply iD | refine iF ?_ a8.out _ | refine iF ?_ a7.out _) | exact a1.out)); (case side2 => repeat (first | (with_reducible first | exact HB.out | apply pA | apply pN | apply pD | refine pS ?_ (iG a1.out) | refine pS ?_ ak.out | refine pS ?_ ap.out) | exact HB.out)); rintro e w59 ⟨rfl, hi, hb, hk⟩; refine ⟨_, rfl, ?_⟩; have hI : IsS101 w _ ae l0 aI aJ := iS_of hk (by repeat (first | (with_reducible first | exact a1.out | apply iA | apply iN | apply iD | refine iF ?_ a8.out _ | refine iF ?_ a7.out _) | exact a1.out)); replace a4 := aK (kM (kK (iP hI (by (with_reducible repeat (first | apply kA | apply kN | apply kD)); exact a4.out) (by decide)) hk (fun _ h => h.2)) (fun _ h => h.1)); replace a6 := aK (kM (kK (iP hI (by (with_reducible repeat (first | apply kA | apply kN | apply kD)); exact a6.out) (by decide)) hk (fun _ h => h.2)) (fun _ h => h.1)); replace aa := aK (kM (kK (iP hI (by (with_reducible repeat (first | apply kA | apply kN | apply kD)); exact aa.out) (by decide)) hk (fun _ h => h.2)) (fun _ h => h.1)); replace a3 := aK (kB hk (g' := a5) (o := .cells #[.slice none 0 0, .slice none 0 0, .slice none 0 0, .int .i64 0, .slice none 0 0, .slice none 0 0, .slice none 0 0, .slice none 0 0, .int .i64 0] 29 (0, 0)) (by (with_reducible repeat (first | refine bN ?_ _ | refine bD ?_ | refine bA ?_ _)); exact a3.out) ar.out (by simp)); replace a0 := aK (kB hk (g' := a2) (o := .cells #[af, ai, al, .int .i64 0, .slice none 0 0, .slice none 0 0, .slice none 0 0, .slice none 0 0, .int .i64 0] 29 (0, 0)) (by (with_reducible repeat (first | refine bN ?_ _ | refine bD ?_ | refine bA ?_ _)); exact a0.out) aq.out (by simp)); replace HB := aK (hb); replace a1 := aK (hi); clear hb hk hi; have hnb60 := az.out; have hnc60 := ao.out; have hnb61 := aq.out; have hnc61 := a7.out; have br : w59.cell? ⟨a2, 0, none⟩ = some (af) := (bC a0.out 0).trans rfl; have bs : w59.cell? ⟨a2, 1, none⟩ = some (ai) := (bC a0.out 1).trans rfl; have bt : w59.cell? ⟨a2, 2, none⟩ = some (al) := (bC a0.out 2).trans rfl; have bu : w59.cell? ⟨a2, 3, none⟩ = some (.int .i64 0) := (bC a0.out 3).trans rfl; have bv : w59.cell? ⟨a2, 4, none⟩ = some (.slice none 0 0) := (bC a0.out 4).trans rfl; have bw : w59.cell? ⟨a2, 5, none⟩ = some (.slice none 0 0) := (bC a0.out 5).trans rfl; have bx : w59.cell? ⟨a2, 6, none⟩ = some (.slice none 0 0) := (bC a0.out 6).trans rfl; have bz : w59.cell? ⟨a2, 7, none⟩ = some (.slice none 0 0) := (bC a0.out 7).trans rfl; have bB : w59.cell? ⟨a2, 8, none⟩ = some (.int .i64 0) := (bC a0.out 8).trans rfl; have bE := bF a0.out 0; have bG := bF a0.out 1; have bH := bF a0.out 2; have bI := bF a0.out 3; have bJ := bF a0.out 4; have bK := bF a0.out 5; have bL := bF a0.out 6; have bM := bF a0.out 7; have bO := bF a0.out 8; clear hI) | ((with_reducible refine gate_callee (f := 58) rfl ?_); refine goesL_ (some 104) rfl rfl Try.func58 (by kernel_rfl) rfl #[.pointer (some ⟨ae, 0, none⟩)] rfl (by (try simp only [List.map_toArray, List.map_cons, List.map_nil]); first | done | rfl | (simp only [List.length_drop, List.length_take]; rfl)) ?_; (with_reducible refine (signalboxref1_Cursor_nums.calls k4 ae l0 t316 t317 t318 t321 t322 w _ ?side1 ?side2 A56.out).mono ?_); (case side1 => repeat (first | (with_reducible first | exact a1.out | apply iA | apply iN | apply iD | refine iF ?_ a8.out _ | refine iF ?_ a7.out _) | exact a1.out)); (case side2 => repeat (first | (with_reducible first | exact HB.out | apply pA | apply pN | apply pD | refine pS ?_ (iG a1.out) | refine pS ?_ ak.out | refine pS ?_ ap.out) | exact HB.out)); rintro e w63 ⟨v319, rfl, ho0, hi, hb, hk⟩; refine ⟨_, rfl, ?_⟩; have hI : IsS101 w _ ae l0 t316 t317 := iS_of hk (by repeat (first | (with_reducible first | exact a1.out | apply iA | apply iN | apply iD | refine iF ?_ a8.out _ | refine iF ?_ a7.out _) | exact a1.out)); replace a4 := aK (kM (kK (iP hI (by (with_reducible repeat (first | apply kA | apply kN | apply kD)); exact (kM (kF (p := ⟨a2, 3, none⟩) (kT a4.out a0.out (by decide)) (fun _ hk => hk.2) (.int .i64 t315)) (fun _ h_ => h_.1))) (by decide)) hk (fun _ h => h.2)) (fun _ h => h.1)); replace a6 := aK (kM (kK (iP hI (by (with_reducible repeat (first | apply kA | apply kN | apply kD)); exact (kM (kF (p := ⟨a2, 3, none⟩) (kT a6.out a0.out (by decide)) (fun _ hk => hk.2) (.int .i64 t315)) (fun _ h_ => h_.1))) (by decide)) hk (fun _ h => h.2)) (fun _ h => h.1)); replace aa := aK (kM (kK (iP hI (by (with_reducible repeat (first | apply kA | apply kN | apply kD)); exact (kM (kF (p := ⟨a2, 3, none⟩) (kT aa.out a0.out (by decide)) (fun _ hk => hk.2) (.int .i64 t315)) (fun _ h_ => h_.1))) (by decide)) hk (fun _ h => h.2)) (fun _ h => h.1)); replace a3 := aK (kB hk (g' := a5) (o := .cells #[.slice none 0 0, .slice none 0 0, .slice none 0 0, .int .i64 0, .slice none 0 0, .slice none 0 0, .slice none 0 0, .slice none 0 0, .int .i64 0] 29 (0, 0)) (by (with_reducible repeat (first | refine bN ?_ _ | refine bD ?_ | refine bA ?_ _)); refine blk_far ?_ ao.out _; (with_reducible repeat (first | refine bN ?_ _ | refine bD ?_ | refine bA ?_ _)); exact a3.out) ar.out (by simp)); replace a0 := aK (kB hk (g' := a2) (o := .cells #[af, ai, al, .int .i64 t315, .slice none 0 0, .slice none 0 0, .slice none 0 0, .slice none 0 0, .int .i64 0] 29 (0, 0)) (by (with_reducible repeat (first | refine bN ?_ _ | refine bD ?_ | refine bA ?_ _)); refine blk_put (cs := #[af, ai, al, .int .i64 0, .slice none 0 0, .slice none 0 0, .slice none 0 0, .slice none 0 0, .int .i64 0]) ?_ 3 _ rfl; (with_reducible repeat (first | refine bN ?_ _ | refine bD ?_ | refine bA ?_ _)); exact a0.out) aq.out (by simp)); have HO320 := aK (Kd.R_lower ho0 (below_size (by repeat (first | (with_reducible first | exact HB.out | apply pA | apply pN | apply pD | refine pS ?_ (iG a1.out) | refine pS ?_ ak.out | refine pS ?_ ap.out) | exact HB.out)))); replace HB := aK (hb); replace a1 := aK (hi); clear hb hk hi; (try clear ho0); obtain ⟨Ao64, co64, eo64⟩ := Kd.R_slice HO320.out; subst eo64; have bP : w63.cell? ⟨a2, 0, none⟩ = some (af) := (bC a0.out 0).trans rfl; have bQ : w63.cell? ⟨a2, 1, none⟩ = some (ai) := (bC a0.out 1).trans rfl; have bR : w63.cell? ⟨a2, 2, none⟩ = some (al) := (bC a0.out 2).trans rfl; have bS : w63.cell? ⟨a2, 3, none⟩ = some (.int .i64 t315) := (bC a0.out 3).trans rfl; have bT : w63.cell? ⟨a2, 4, none⟩ = some (.slice none 0 0) := (bC a0.out 4).trans rfl; have bU : w63.cell? ⟨a2, 5, none⟩ = some (.slice none 0 0) := (bC a0.out 5).trans rfl; have bV : w63.cell? ⟨a2, 6, none⟩ = some (.slice none 0 0) := (bC a0.out 6).trans rfl; have bW : w63.cell? ⟨a2, 7, none⟩ = some (.slice none 0 0) := (bC a0.out 7).trans rfl; have bX : w63.cell? ⟨a2, 8, none⟩ = some (.int .i64 0) := (bC a0.out 8).trans rfl; have bY := bF a0.out 0; have bZ := bF a0.out 1; have c9 := bF a0.out 2; have ca := bF a0.out 3; have cb := bF a0.out 4; have cc := bF a0.out 5; have cd := bF a0.out 6; have ce := bF a0.out 7; have cf := bF a0.out 8; clear hI) | ((with_reducible refine gate_callee (f := 58) rfl ?_); refine goesL_ (some 107) rfl rfl Try.func58 (by kernel_rfl) rfl #[.pointer (some ⟨ae, 0, none⟩)] rfl (by (try simp only [List.map_toArray, List.map_cons, List.map_nil]); first | done | rfl | (simp only [List.length_drop, List.length_take]; rfl)) ?_; (with_reducible refine (signalboxref1_Cursor_nums.calls k4 ae l0 t321 t322 t323 t326 t327 w _ ?side1 ?side2 A57.out).mono ?_); (case side1 => repeat (first | (with_reducible first | exact a1.out | apply iA | apply iN | apply iD | refine iF ?_ a8.out _ | refine iF ?_ a7.out _) | exact a1.out)); (case side2 => repeat (first | (with_reducible first | exact HB.out | apply pA | apply pN | apply pD | refine pS ?_ (iG a1.out) | refine pS ?_ ak.out | refine pS ?_ ap.out) | exact HB.out)); rintro e w66 ⟨v324, rfl, ho0, hi, hb, hk⟩; refine ⟨_, rfl, ?_⟩; have hI : IsS101 w _ ae l0 t321 t322 := iS_of hk (by repeat (first | (with_reducible first | exact a1.out | apply iA | apply iN | apply iD | refine iF ?_ a8.out _ | refine iF ?_ a7.out _) | exact a1.out)); replace a4 := aK (kM (kK (iP hI (by (with_reducible repeat (first | apply kA | apply kN | apply kD)); exact (kM (kF (p := ⟨a2, 4, none⟩) (kT a4.out a0.out (by decide)) (fun _ hk => hk.2) (.slice Ao64 t318.length co64)) (fun _ h_ => h_.1))) (by decide)) hk (fun _ h => h.2)) (fun _ h => h.1)); replace a6 := aK (kM (kK (iP hI (by (with_reducible repeat (first | apply kA | apply kN | apply kD)); exact (kM (kF (p := ⟨a2, 4, none⟩) (kT a6.out a0.out (by decide)) (fun _ hk => hk.2) (.slice Ao64 t318.length co64)) (fun _ h_ => h_.1))) (by decide)) hk (fun _ h => h.2)) (fun _ h => h.1)); replace aa := aK (kM (kK (iP hI (by (with_reducible repeat (first | apply kA | apply kN | apply kD)); exact (kM (kF (p := ⟨a2, 4, none⟩) (kT aa.out a0.out (by decide)) (fun _ hk => hk.2) (.slice Ao64 t318.length co64)) (fun _ h_ => h_.1))) (by decide)) hk (fun _ h => h.2)) (fun _ h => h.1)); replace a3 := aK (kB hk (g' := a5) (o := .cells #[.slice none 0 0, .slice none 0 0, .slice none 0 0, .int .i64 0, .slice none 0 0, .slice none 0 0, .slice none 0 0, .slice none 0 0, .int .i64 0] 29 (0, 0)) (by (with_reducible repeat (first | refine bN ?_ _ | refine bD ?_ | refine bA ?_ _)); refine blk_far ?_ ao.out _; (with_reducible repeat (first | refine bN ?_ _ | refine bD ?_ | refine bA ?_ _)); exact a3.out) ar.out (by simp)); have HO325 := aK (Kd.R_lower (Kd.R_new' ho0 (Kd.R_lt (by (with_reducible repeat (first | apply kA | apply kN | apply kD)); exact (kM (kF (p := ⟨a2, 4, none⟩) (kT HO320.out a0.out (by decide)) (fun _ hk => hk.2) (.slice Ao64 t318.length co64)) (fun _ h_ => h_.1))))) (below_size (by repeat (first | (with_reducible first | exact HB.out | apply pA | apply pN | apply pD | refine pS ?_ (iG a1.out) | refine pS ?_ ak.out | refine pS ?_ ap.out) | exact HB.out)))); replace HO320 := aK (kM (Kd.R_told (Kd.R_oldK (iP hI (by (with_reducible repeat (first | apply kA | apply kN | apply kD)); exact (kM (kF (p := ⟨a2, 4, none⟩) (kT HO320.out a0.out (by decide)) (fun _ hk => hk.2) (.slice Ao64 t318.length co64)) (fun _ h_ => h_.1))) (by decide)) hk) (Kd.R_base ho0)) (fun _ h_ => h_.1)); replace a0 := aK (kB hk (g' := a2) (o := .cells #[af, ai, al, .int .i64 t315, .slice Ao64 t318.length co64, .slice none 0 0, .slice none 0 0, .slice none 0 0, .int .i64 0] 29 (0, 0)) (by (with_reducible repeat (first | refine bN ?_ _ | refine bD ?_ | refine bA ?_ _)); refine blk_put (cs := #[af, ai, al, .int .i64 t315, .slice none 0 0, .slice none 0 0, .slice none 0 0, .slice none 0 0, .int .i64 0]) ?_ 4 _ rfl; (with_reducible repeat (first | refine bN ?_ _ | refine bD ?_ | refine bA ?_ _)); exact a0.out) aq.out (by simp)); replace HB := aK (hb); replace a1 := aK (hi); clear hb hk hi; (try clear ho0); obtain ⟨Ao67, co67, eo67⟩ := Kd.R_slice HO325.out; subst eo67; have cg : w66.cell? ⟨a2, 0, none⟩ = some (af) := (bC a0.out 0).trans rfl; have ch : w66.cell? ⟨a2, 1, none⟩ = some (ai) := (bC a0.out 1).trans rfl; have ci : w66.cell? ⟨a2, 2, none⟩ = some (al) := (bC a0.out 2).trans rfl; have cj : w66.cell? ⟨a2, 3, none⟩ = some (.int .i64 t315) := (bC a0.out 3).trans rfl; have ck : w66.cell? ⟨a2, 4, none⟩ = some (.slice Ao64 t318.length co64) := (bC a0.out 4).trans rfl; have cl : w66.cell? ⟨a2, 5, none⟩ = some (.slice none 0 0) := (bC a0.out 5).trans rfl; have cm : w66.cell? ⟨a2, 6, none⟩ = some (.slice none 0 0) := (bC a0.out 6).trans rfl; have cn : w66.cell? ⟨a2, 7, none⟩ = some (.slice none 0 0) := (bC a0.out 7).trans rfl; have co : w66.cell? ⟨a2, 8, none⟩ = some (.int .i64 0) := (bC a0.out 8).trans rfl; have cp := bF a0.out 0; have cq := bF a0.out 1; have cr := bF a0.out 2; have ct := bF a0.out 3; have cu := bF a0.out 4; have cv := bF a0.out 5; have cw := bF a0.out 6; have cx := bF a0.out 7; have cy := bF a0.out 8; clear hI) | ((with_reducible refine gate_callee (f := 56) rfl ?_); refine goesL_ (some 113) rfl rfl Try.func56 (by kernel_rfl) rfl #[.pointer (some ⟨ae, 0, none⟩), .int .i64 (t323.length : Int)] rfl (by (try simp only [List.map_toArray, List.map_cons, List.map_nil]); first | done | rfl | (simp only [List.length_drop, List.length_take]; rfl)) ?_; (with_reducible refine (signalboxref1_Cursor_count.calls k4 ae l0 t326 t327 (t323.length : Int) t328 t329 t330 w _ ?side1 ?side2 A58.out).mono ?_); (case side1 => repeat (first | (with_reducible first | exact a1.out | apply iA | apply iN | apply iD | refine iF ?_ a8.out _ | refine iF ?_ a7.out _) | exact a1.out)); (case side2 => repeat (first | (with_reducible first | exact HB.out | apply pA | apply pN | apply pD | refine pS ?_ (iG a1.out) | refine pS ?_ ak.out | refine pS ?_ ap.out) | exact HB.out)); rintro e w69 ⟨rfl, hi, hb, hk⟩; refine ⟨_, rfl, ?_⟩; have hI : IsS101 w _ ae l0 t326 t327 := iS_of hk (by repeat (first | (with_reducible first | exact a1.out | apply iA | apply iN | apply iD | refine iF ?_ a8.out _ | refine iF ?_ a7.out _) | exact a1.out)); replace a4 := aK (kM (kK (iP hI (by (with_reducible repeat (first | apply kA | apply kN | apply kD)); exact (kM (kF (p := ⟨a2, 5, none⟩) (kT a4.out a0.out (by decide)) (fun _ hk => hk.2) (.slice Ao67 t323.length co67)) (fun _ h_ => h_.1))) (by decide)) hk (fun _ h => h.2)) (fun _ h => h.1)); replace a6 := aK (kM (kK (iP hI (by (with_reducible repeat (first | apply kA | apply kN | apply kD)); exact (kM (kF (p := ⟨a2, 5, none⟩) (kT a6.out a0.out (by decide)) (fun _ hk => hk.2) (.slice Ao67 t323.length co67)) (fun _ h_ => h_.1))) (by decide)) hk (fun _ h => h.2)) (fun _ h => h.1)); replace aa := aK (kM (kK (iP hI (by (with_reducible repeat (first | apply kA | apply kN | apply kD)); exact (kM (kF (p := ⟨a2, 5, none⟩) (kT aa.out a0.out (by decide)) (fun _ hk => hk.2) (.slice Ao67 t323.length co67)) (fun _ h_ => h_.1))) (by decide)) hk (fun _ h => h.2)) (fun _ h => h.1)); replace a3 := aK (kB hk (g' := a5) (o := .cells #[.slice none 0 0, .slice none 0 0, .slice none 0 0, .int .i64 0, .slice none 0 0, .slice none 0 0, .slice none 0 0, .slice none 0 0, .int .i64 0] 29 (0, 0)) (by (with_reducible repeat (first | refine bN ?_ _ | refine bD ?_ | refine bA ?_ _)); refine blk_far ?_ ao.out _; (with_reducible repeat (first | refine bN ?_ _ | refine bD ?_ | refine bA ?_ _)); exact a3.out) ar.out (by simp)); replace HO320 := aK (kM (kK (iP hI (by (with_reducible repeat (first | apply kA | apply kN | apply kD)); exact (kM (kF (p := ⟨a2, 5, none⟩) (kT HO320.out a0.out (by decide)) (fun _ hk => hk.2) (.slice Ao67 t323.length co67)) (fun _ h_ => h_.1))) (by decide)) hk (fun _ h => h.2)) (fun _ h => h.1)); replace HO325 := aK (kM (kK (iP hI (by (with_reducible repeat (first | apply kA | apply kN | apply kD)); exact (kM (kF (p := ⟨a2, 5, none⟩) (kT HO325.out a0.out (by decide)) (fun _ hk => hk.2) (.slice Ao67 t323.length co67)) (fun _ h_ => h_.1))) (by decide)) hk (fun _ h => h.2)) (fun _ h => h.1)); replace a0 := aK (kB hk (g' := a2) (o := .cells #[af, ai, al, .int .i64 t315, .slice Ao64 t318.length co64, .slice Ao67 t323.length co67, .slice none 0 0, .slice none 0 0, .int .i64 0] 29 (0, 0)) (by (with_reducible repeat (first | refine bN ?_ _ | refine bD ?_ | refine bA ?_ _)); refine blk_put (cs := #[af, ai, al, .int .i64 t315, .slice Ao64 t318.length co64, .slice none 0 0, .slice none 0 0, .slice none 0 0, .int .i64 0]) ?_ 5 _ rfl; (with_reducible repeat (first | refine bN ?_ _ | refine bD ?_ | refine bA ?_ _)); exact a0.out) aq.out (by simp)); replace HB := aK (hb); replace a1 := aK (hi); clear hb hk hi; clear hI))
             go_loopg [15] k4 (fun kq v15 w' => ∃ (x15_5 : Int) (aM : Int) (aN : Bool) (aj : List (List Int)) (au : Value), v15 = .int .i64 x15_5 ∧ Aside0 (signalboxref1_Decode.l3 kq l0 t328 x15_5 l0 aM aN a9 ab ac t315 t318 t323 aj 0 = some (r1, r2, r3, r4, r5, r6, r7, r8, r9, r10)) ∧ Aside0 (kq ≤ k4) ∧ Aside0 (Kd.R k44 44 w' w.heap.size (fun _ => True) af a9) ∧ Aside0 (Kd.R k46 46 w' w.heap.size (fun _ => True) ai ab) ∧ Aside0 (Kd.R k56 56 w' w.heap.size (fun _ => True) al ac) ∧ Aside0 (Kd.R (Kd.int .i64) 3 w' w.heap.size (fun k_ => some k_ ≠ ((.slice Ao67 t323.length co67) : Value).ownBlock) (.slice Ao64 t318.length co64) t318) ∧ Aside0 (Kd.R (Kd.int .i64) 3 w' w.heap.size (fun k_ => some k_ ≠ ((.slice Ao64 t318.length co64) : Value).ownBlock) (.slice Ao67 t323.length co67) t323) ∧ Aside0 (Kd.S (Kd.slice 3 (Kd.int .i64)) 25 w' w.heap.size (fun k_ => some k_ ≠ ((.slice Ao64 t318.length co64) : Value).ownBlock ∧ some k_ ≠ ((.slice Ao67 t323.length co67) : Value).ownBlock) au aj) ∧ Aside0 (w'.heap[a5]? = some (.cells #[(.slice none 0 0), (.slice none 0 0), (.slice none 0 0), .int .i64 0, (.slice none 0 0), (.slice none 0 0), (.slice none 0 0), (.slice none 0 0), .int .i64 0] 29 (0, 0))) ∧ Aside0 (w'.heap[a2]? = some (.cells #[af, ai, al, .int .i64 t315, (.slice Ao64 t318.length co64), (.slice Ao67 t323.length co67), au, (.slice none 0 0), .int .i64 0] 29 (0, 0))) ∧ Aside0 (IsS101 w w' ae l0 aM aN) ∧ Aside0 (Below w.heap.size w w'))
             case atStart => exact ⟨(0), (t329), (t330), (([] : List (List Int))), (.slice none 0 0), (by first | rfl | (simp; done) | (simp [*]; done)), H', ⟨Nat.le_refl _⟩, ⟨by (with_reducible repeat (first | apply kA | apply kN | apply kD)); exact a4.out⟩, ⟨by (with_reducible repeat (first | apply kA | apply kN | apply kD)); exact a6.out⟩, ⟨by (with_reducible repeat (first | apply kA | apply kN | apply kD)); exact aa.out⟩, ⟨by (with_reducible repeat (first | apply kA | apply kN | apply kD)); exact kM HO320.out (fun _ hk => hk.2)⟩, ⟨by (with_reducible repeat (first | apply kA | apply kN | apply kD)); exact kM HO325.out (fun _ hk => hk.2)⟩, ⟨by first | exact Kd.S_nil _ _ _ _ _ | exact Kd.N_nil _ _ _ _ _ | exact Kd.V_nil _ _ _ _ _ | exact Kd.Q_nil _ _ _ _ _ | exact Kd.R_nil _ _ _ _ _⟩, ⟨by (with_reducible repeat (first | refine bN ?_ _ | refine bD ?_ | refine bA ?_ _)); exact a3.out⟩, ⟨by (with_reducible repeat (first | refine bN ?_ _ | refine bD ?_ | refine bA ?_ _)); exact a0.out⟩, ⟨by repeat (first | (with_reducible first | exact a1.out | apply iA | apply iN | apply iD | refine iF ?_ a8.out _ | refine iF ?_ a7.out _) | exact a1.out)⟩, ⟨by repeat (first | (with_reducible first | exact HB.out | apply pA | apply pN | apply pD | refine pS ?_ (iG a1.out) | refine pS ?_ ak.out | refine pS ?_ ap.out) | exact HB.out)⟩⟩
             case round =>
              clear H'
              try clear c1
              try clear c2
              try clear p2
              try clear q2
              try clear hx2
              try clear qi2
              try clear c3
              try clear c4
              try clear c4b0
              try clear c4b1
              try clear c5
              try clear c5b0
              try clear c5b1
              try clear c6
              try clear c6b0
              try clear c6b1
              try clear p6
              try clear c7
              try clear c7b0
              try clear c7b1
              try clear c8
              try clear c13
              try clear c14
              try clear c17
              try clear c17b0
              try clear c21
              try clear p26
              try clear q26
              try clear hx26
              try clear qi26
              try clear p27
              try clear q27
              try clear hx27
              try clear qi27
              try clear c31
              try clear c31b0
              try clear c35
              try clear c45
              try clear c45b0
              try clear c48
              try clear c56
              try clear c57
              try clear c58
              try clear c60
              try clear c61
              try clear p64
              try clear aQ
              try clear aR
              try clear aT
              try clear aU
              try clear aV
              try clear aW
              try clear aX
              try clear aY
              try clear aZ
              try clear br
              try clear bs
              try clear bt
              try clear bu
              try clear bv
              try clear bw
              try clear bx
              try clear bz
              try clear bB
              try clear bP
              try clear bQ
              try clear bR
              try clear bS
              try clear bT
              try clear bU
              try clear bV
              try clear bW
              try clear bX
              try clear cg
              try clear ch
              try clear ci
              try clear cj
              try clear ck
              try clear cl
              try clear cm
              try clear cn
              try clear co
              try clear b9
              try clear ba
              try clear bb
              try clear bc
              try clear bd
              try clear be
              try clear bf
              try clear bg
              try clear bh
              try clear b0
              try clear b1
              try clear b2
              try clear b3
              try clear b4
              try clear b5
              try clear b6
              try clear b7
              try clear b8
              try clear bE
              try clear bG
              try clear bH
              try clear bI
              try clear bJ
              try clear bK
              try clear bL
              try clear bM
              try clear bO
              try clear bY
              try clear bZ
              try clear c9
              try clear ca
              try clear cb
              try clear cc
              try clear cd
              try clear ce
              try clear cf
              try clear cp
              try clear cq
              try clear cr
              try clear ct
              try clear cu
              try clear cv
              try clear cw
              try clear cx
              try clear cy
              try clear bi
              try clear bj
              try clear bk
              try clear bl
              try clear bm
              try clear bn
              try clear bo
              try clear bp
              try clear bq
              try clear ax
              try clear aA
              try clear p2
              try clear p26
              try clear p269
              try clear p27
              try clear p270
              try clear p6
              try clear q2
              try clear q26
              try clear q269
              try clear q27
              try clear q270
              obtain ⟨x15_5, aM, aN, aj, au, rfl, HA, HK5, a4, a6, aa, ag, ah, ad, a3, a0, a1, HB⟩ := hrel
              cases gk with
              | zero => exact absurd HA.out (by simp [signalboxref1_Decode.l3])
              | succ k5 =>
               have H := HA.out; clear HA
               simp only [signalboxref1_Decode.l3] at H
               by_cases c70 : x15_5 < t328
               ·rw [if_pos c70] at H
                have c70b0 : decide (x15_5 < t328) = true := decide_eq_true c70; clear c70; obtain ⟨y331, hy331⟩ : ∃ y_ : List Int, y_ = (([] : List Int)) := ⟨_, rfl⟩
                replace H : (signalboxref1_Decode.l4 k5 l0 t328 x15_5 y331 0 l0 aM aN a9 ab ac t315 t318 t323 aj 0) = some (r1, r2, r3, r4, r5, r6, r7, r8, r9, r10) := by first | (rw [hy331]; with_reducible exact H) | (have H2_ := (Option.bind_some _ _).symm.trans H; rw [hy331]; with_reducible exact H2_) | (have H2_ := (Option.bind_some _ _).symm.trans H; with_reducible exact H2_) | with_reducible exact H | (rw [hy331]; exact H) | exact H
                have Ny331 := aK hy331; clear hy331; have H' := aK H
                clear H; go_wp2_with (first | ((with_reducible refine gate_dst (N := 119) rfl ?_); (try (refine gate_guard (by rfl) ?_; dsimp only)); refine Kd.R_lit (Kd.int .i64) _ 3 ?hg (N := 119) ?hd (xs := ([] : List Int)) (inner := []) (ok := fun _ => True) (okp := fun _ => True) ?hr ?hp (fun _ hk => hk) trivial (Below.refl _ _) (Nat.le_refl _) (by simp) ?_; (case hd => rfl); (case hg => rfl); (case hr => first | (go_simp; done) | (go_simp; rfl)); (case hp => exact (Reps.none _ _)); intro v332 w71 ho72 hb hg_ hnew_; clear hg_ hnew_; (first | rw [← Ny331.out] at ho72 | (simp only [Int.reduceToNat] at ho72; rw [← Ny331.out] at ho72)); replace a4 := aK (Kd.R_below (by (with_reducible repeat (first | apply kA | apply kN | apply kD)); exact a4.out) hb); replace a6 := aK (Kd.R_below (by (with_reducible repeat (first | apply kA | apply kN | apply kD)); exact a6.out) hb); replace aa := aK (Kd.R_below (by (with_reducible repeat (first | apply kA | apply kN | apply kD)); exact aa.out) hb); replace ad := aK (Kd.S_elder' (by (with_reducible repeat (first | apply Kd.S_alloc | apply Kd.S_drewN | apply Kd.S_drew)); exact ad.out) (Kd.R_base ho72) hb); have HO333 := aK (Kd.R_lower (Kd.R_new' (Kd.R_new' ho72 (Kd.R_lt (by (with_reducible repeat (first | apply kA | apply kN | apply kD)); exact ag.out))) (Kd.R_lt (by (with_reducible repeat (first | apply kA | apply kN | apply kD)); exact ah.out))) (below_size (by repeat (first | (with_reducible first | exact HB.out | apply pA | apply pN | apply pD | refine pS ?_ (iG a1.out) | refine pS ?_ ak.out | refine pS ?_ ap.out) | exact HB.out)))); replace ag := aK (Kd.R_elder' (by (with_reducible repeat (first | apply kA | apply kN | apply kD)); exact ag.out) (Kd.R_base ho72) hb); replace ah := aK (Kd.R_elder' (by (with_reducible repeat (first | apply kA | apply kN | apply kD)); exact ah.out) (Kd.R_base ho72) hb); replace a3 := aK (blk_below (g := a5) (o := .cells #[.slice none 0 0, .slice none 0 0, .slice none 0 0, .int .i64 0, .slice none 0 0, .slice none 0 0, .slice none 0 0, .slice none 0 0, .int .i64 0] 29 (0, 0)) (by (with_reducible repeat (first | refine bN ?_ _ | refine bD ?_ | refine bA ?_ _)); exact a3.out) hb); replace a0 := aK (blk_below (g := a2) (o := .cells #[af, ai, al, .int .i64 t315, .slice Ao64 t318.length co64, .slice Ao67 t323.length co67, au, .slice none 0 0, .int .i64 0] 29 (0, 0)) (by (with_reducible repeat (first | refine bN ?_ _ | refine bD ?_ | refine bA ?_ _)); exact a0.out) hb); replace HB := aK (below_step (by repeat (first | (with_reducible first | exact HB.out | apply pA | apply pN | apply pD | refine pS ?_ (iG a1.out) | refine pS ?_ ak.out | refine pS ?_ ap.out) | exact HB.out)) hb); replace a1 := aK (IsS101.below (by repeat (first | (with_reducible first | exact a1.out | apply iA | apply iN | apply iD | refine iF ?_ a8.out _ | refine iF ?_ a7.out _) | exact a1.out)) hb); clear hb ho72))
                go_loopg [16, 17] k5 (fun kq v16 v17 w' => ∃ (x16_6 : List Int) (x17_6 : Int) (av : Int) (aw : Bool), v17 = .int .i64 x17_6 ∧ Aside0 (signalboxref1_Decode.l4 kq l0 t328 x15_5 x16_6 x17_6 l0 av aw a9 ab ac t315 t318 t323 aj 0 = some (r1, r2, r3, r4, r5, r6, r7, r8, r9, r10)) ∧ Aside0 (kq ≤ k5) ∧ Aside0 (Kd.R (Kd.int .i64) 3 w' w.heap.size (fun k_ => some k_ ≠ ((.slice Ao64 t318.length co64) : Value).ownBlock ∧ some k_ ≠ ((.slice Ao67 t323.length co67) : Value).ownBlock) v16 x16_6) ∧ Aside0 (Kd.R k44 44 w' w.heap.size (fun _ => True) af a9) ∧ Aside0 (Kd.R k46 46 w' w.heap.size (fun _ => True) ai ab) ∧ Aside0 (Kd.R k56 56 w' w.heap.size (fun _ => True) al ac) ∧ Aside0 (Kd.R (Kd.int .i64) 3 w' w.heap.size (fun k_ => some k_ ≠ (v16 : Value).ownBlock ∧ some k_ ≠ ((.slice Ao67 t323.length co67) : Value).ownBlock) (.slice Ao64 t318.length co64) t318) ∧ Aside0 (Kd.R (Kd.int .i64) 3 w' w.heap.size (fun k_ => some k_ ≠ (v16 : Value).ownBlock ∧ some k_ ≠ ((.slice Ao64 t318.length co64) : Value).ownBlock) (.slice Ao67 t323.length co67) t323) ∧ Aside0 (Kd.S (Kd.slice 3 (Kd.int .i64)) 25 w' w.heap.size (fun k_ => some k_ ≠ (v16 : Value).ownBlock ∧ some k_ ≠ ((.slice Ao64 t318.length co64) : Value).ownBlock ∧ some k_ ≠ ((.slice Ao67 t323.length co67) : Value).ownBlock) au aj) ∧ Aside0 (w'.heap[a5]? = some (.cells #[(.slice none 0 0), (.slice none 0 0), (.slice none 0 0), .int .i64 0, (.slice none 0 0), (.slice none 0 0), (.slice none 0 0), (.slice none 0 0), .int .i64 0] 29 (0, 0))) ∧ Aside0 (w'.heap[a2]? = some (.cells #[af, ai, al, .int .i64 t315, (.slice Ao64 t318.length co64), (.slice Ao67 t323.length co67), au, (.slice none 0 0), .int .i64 0] 29 (0, 0))) ∧ Aside0 (IsS101 w w' ae l0 av aw) ∧ Aside0 (Below w.heap.size w w'))
                case atStart => exact ⟨(y331), (0), (aM), (aN), (by first | rfl | (simp; done) | (simp [*]; done)), H', ⟨Nat.le_refl _⟩, ⟨by (with_reducible repeat (first | apply kA | apply kN | apply kD)); exact kM HO333.out (fun _ hk => ⟨hk.1.2, hk.2⟩)⟩, ⟨by (with_reducible repeat (first | apply kA | apply kN | apply kD)); exact a4.out⟩, ⟨by (with_reducible repeat (first | apply kA | apply kN | apply kD)); exact a6.out⟩, ⟨by (with_reducible repeat (first | apply kA | apply kN | apply kD)); exact aa.out⟩, ⟨by (with_reducible repeat (first | apply kA | apply kN | apply kD)); exact kM ag.out (fun _ hk => ⟨hk.2, hk.1⟩)⟩, ⟨by (with_reducible repeat (first | apply kA | apply kN | apply kD)); exact kM ah.out (fun _ hk => ⟨hk.2, hk.1⟩)⟩, ⟨by (with_reducible repeat (first | apply Kd.S_alloc | apply Kd.S_drewN | apply Kd.S_drew)); exact Kd.S_mono ad.out (fun _ hk => ⟨hk.2, ⟨hk.1.1, hk.1.2⟩⟩)⟩, ⟨by (with_reducible repeat (first | refine bN ?_ _ | refine bD ?_ | refine bA ?_ _)); exact a3.out⟩, ⟨by (with_reducible repeat (first | refine bN ?_ _ | refine bD ?_ | refine bA ?_ _)); exact a0.out⟩, ⟨by repeat (first | (with_reducible first | exact a1.out | apply iA | apply iN | apply iD | refine iF ?_ a8.out _ | refine iF ?_ a7.out _) | exact a1.out)⟩, ⟨by repeat (first | (with_reducible first | exact HB.out | apply pA | apply pN | apply pD | refine pS ?_ (iG a1.out) | refine pS ?_ ak.out | refine pS ?_ ap.out) | exact HB.out)⟩⟩
                case round =>
                 clear H'
                 try clear c1
                 try clear c2
                 try clear p2
                 try clear q2
                 try clear hx2
                 try clear qi2
                 try clear c3
                 try clear c4
                 try clear c4b0
                 try clear c4b1
                 try clear c5
                 try clear c5b0
                 try clear c5b1
                 try clear c6
                 try clear c6b0
                 try clear c6b1
                 try clear p6
                 try clear c7
                 try clear c7b0
                 try clear c7b1
                 try clear c8
                 try clear c13
                 try clear c14
                 try clear c17
                 try clear c17b0
                 try clear c21
                 try clear p26
                 try clear q26
                 try clear hx26
                 try clear qi26
                 try clear p27
                 try clear q27
                 try clear hx27
                 try clear qi27
                 try clear c31
                 try clear c31b0
                 try clear c35
                 try clear c45
                 try clear c45b0
                 try clear c48
                 try clear c56
                 try clear c57
                 try clear c58
                 try clear c60
                 try clear c61
                 try clear p64
                 try clear c70
                 try clear c70b0
                 try clear aQ
                 try clear aR
                 try clear aT
                 try clear aU
                 try clear aV
                 try clear aW
                 try clear aX
                 try clear aY
                 try clear aZ
                 try clear br
                 try clear bs
                 try clear bt
                 try clear bu
                 try clear bv
                 try clear bw
                 try clear bx
                 try clear bz
                 try clear bB
                 try clear bP
                 try clear bQ
                 try clear bR
                 try clear bS
                 try clear bT
                 try clear bU
                 try clear bV
                 try clear bW
                 try clear bX
                 try clear cg
                 try clear ch
                 try clear ci
                 try clear cj
                 try clear ck
                 try clear cl
                 try clear cm
                 try clear cn
                 try clear co
                 try clear b9
                 try clear ba
                 try clear bb
                 try clear bc
                 try clear bd
                 try clear be
                 try clear bf
                 try clear bg
                 try clear bh
                 try clear b0
                 try clear b1
                 try clear b2
                 try clear b3
                 try clear b4
                 try clear b5
                 try clear b6
                 try clear b7
                 try clear b8
                 try clear bE
                 try clear bG
                 try clear bH
                 try clear bI
                 try clear bJ
                 try clear bK
                 try clear bL
                 try clear bM
                 try clear bO
                 try clear bY
                 try clear bZ
                 try clear c9
                 try clear ca
                 try clear cb
                 try clear cc
                 try clear cd
                 try clear ce
                 try clear cf
                 try clear cp
                 try clear cq
                 try clear cr
                 try clear ct
                 try clear cu
                 try clear cv
                 try clear cw
                 try clear cx
                 try clear cy
                 try clear bi
                 try clear bj
                 try clear bk
                 try clear bl
                 try clear bm
                 try clear bn
                 try clear bo
                 try clear bp
                 try clear bq
                 try clear ax
                 try clear aA
                 try clear p2
                 try clear p26
                 try clear p269
                 try clear p27
                 try clear p270
                 try clear p6
                 try clear p64
                 try clear q2
                 try clear q26
                 try clear q269
                 try clear q27
                 try clear q270
                 obtain ⟨x16_6, x17_6, av, aw, rfl, HA, HK6, aC, a4, a6, aa, ag, ah, ad, a3, a0, a1, HB⟩ := hrel
                 cases gk with
                 | zero => exact absurd HA.out (by simp [signalboxref1_Decode.l4])
                 | succ k6 =>
                  have H := HA.out; clear HA
                  simp only [signalboxref1_Decode.l4] at H
                  by_cases c73 : x17_6 < (t323.length : Int)
                  ·rw [if_pos c73] at H
                   have c73b0 : decide (x17_6 < (t323.length : Int)) = true := decide_eq_true c73; clear c73; replace H := Option.bind_eq_some_iff.mp H; obtain ⟨⟨t334, t335, t336⟩, A740, H⟩ := H
                   replace H : (if x16_6.length < 17592186044416 then (signalboxref1_Decode.l4 k6 l0 t328 x15_5 (x16_6 ++ [t334]) (wrap64 (x17_6 + 1)) l0 t335 t336 a9 ab ac t315 t318 t323 aj 0) else (none)) = some (r1, r2, r3, r4, r5, r6, r7, r8, r9, r10) := H
                   have A74 := aK A740; clear A740
                   by_cases c75 : x16_6.length < 17592186044416
                   case neg =>
                    rw [if_neg c75] at H
                    exact absurd H (by simp)
                   rw [if_pos c75] at H
                   have LMc75 := aK c75; clear c75; obtain ⟨y337, hy337⟩ : ∃ y_ : List Int, y_ = (x16_6 ++ [t334]) := ⟨_, rfl⟩
                   replace H : (signalboxref1_Decode.l4 k6 l0 t328 x15_5 y337 (wrap64 (x17_6 + 1)) l0 t335 t336 a9 ab ac t315 t318 t323 aj 0) = some (r1, r2, r3, r4, r5, r6, r7, r8, r9, r10) := by first | (rw [hy337]; with_reducible exact H) | (have H2_ := (Option.bind_some _ _).symm.trans H; rw [hy337]; with_reducible exact H2_) | (have H2_ := (Option.bind_some _ _).symm.trans H; with_reducible exact H2_) | with_reducible exact H | (rw [hy337]; exact H) | exact H
                   have Ny337 := aK hy337; clear hy337; have H' := aK H
                   clear H; have hnb76 := az.out; have hnc76 := ao.out; have hnb77 := aq.out; have hnc77 := a7.out; have cz : wr.cell? ⟨a2, 0, none⟩ = some (af) := (bC a0.out 0).trans rfl; have cA : wr.cell? ⟨a2, 1, none⟩ = some (ai) := (bC a0.out 1).trans rfl; have cB : wr.cell? ⟨a2, 2, none⟩ = some (al) := (bC a0.out 2).trans rfl; have cC : wr.cell? ⟨a2, 3, none⟩ = some (.int .i64 t315) := (bC a0.out 3).trans rfl; have cD : wr.cell? ⟨a2, 4, none⟩ = some (.slice Ao64 t318.length co64) := (bC a0.out 4).trans rfl; have cE : wr.cell? ⟨a2, 5, none⟩ = some (.slice Ao67 t323.length co67) := (bC a0.out 5).trans rfl; have cF : wr.cell? ⟨a2, 6, none⟩ = some (au) := (bC a0.out 6).trans rfl; have cG : wr.cell? ⟨a2, 7, none⟩ = some (.slice none 0 0) := (bC a0.out 7).trans rfl; have cH : wr.cell? ⟨a2, 8, none⟩ = some (.int .i64 0) := (bC a0.out 8).trans rfl; have cI := bF a0.out 0; have cJ := bF a0.out 1; have cK := bF a0.out 2; have cL := bF a0.out 3; have cM := bF a0.out 4; have cN := bF a0.out 5; have cO := bF a0.out 6; have cP := bF a0.out 7; have cQ := bF a0.out 8; go_wp2_with (first | ((with_reducible refine gate_callee (f := 57) rfl ?_); refine goesL_ (some 129) rfl rfl Try.func57 (by kernel_rfl) rfl #[.pointer (some ⟨ae, 0, none⟩), .int .i64 8] rfl (by (try simp only [List.map_toArray, List.map_cons, List.map_nil]); first | done | rfl | (simp only [List.length_drop, List.length_take]; rfl)) ?_; (with_reducible refine (signalboxref1_Cursor_num.calls k6 ae l0 av aw 8 t334 t335 t336 w _ ?side1 ?side2 A74.out).mono ?_); (case side1 => repeat (first | (with_reducible first | exact a1.out | apply iA | apply iN | apply iD | refine iF ?_ a8.out _ | refine iF ?_ a7.out _) | exact a1.out)); (case side2 => repeat (first | (with_reducible first | exact HB.out | apply pA | apply pN | apply pD | refine pS ?_ (iG a1.out) | refine pS ?_ ak.out | refine pS ?_ ap.out) | exact HB.out)); rintro e w79 ⟨rfl, hi, hb, hk⟩; refine ⟨_, rfl, ?_⟩; have hI : IsS101 w _ ae l0 av aw := iS_of hk (by repeat (first | (with_reducible first | exact a1.out | apply iA | apply iN | apply iD | refine iF ?_ a8.out _ | refine iF ?_ a7.out _) | exact a1.out)); replace aC := aK (kM (kK (iP hI (by (with_reducible repeat (first | apply kA | apply kN | apply kD)); exact aC.out) (by decide)) hk (fun _ h => h.2)) (fun _ h => h.1)); replace a4 := aK (kM (kK (iP hI (by (with_reducible repeat (first | apply kA | apply kN | apply kD)); exact a4.out) (by decide)) hk (fun _ h => h.2)) (fun _ h => h.1)); replace a6 := aK (kM (kK (iP hI (by (with_reducible repeat (first | apply kA | apply kN | apply kD)); exact a6.out) (by decide)) hk (fun _ h => h.2)) (fun _ h => h.1)); replace aa := aK (kM (kK (iP hI (by (with_reducible repeat (first | apply kA | apply kN | apply kD)); exact aa.out) (by decide)) hk (fun _ h => h.2)) (fun _ h => h.1)); replace ag := aK (kM (kK (iP hI (by (with_reducible repeat (first | apply kA | apply kN | apply kD)); exact ag.out) (by decide)) hk (fun _ h => h.2)) (fun _ h => h.1)); replace ah := aK (kM (kK (iP hI (by (with_reducible repeat (first | apply kA | apply kN | apply kD)); exact ah.out) (by decide)) hk (fun _ h => h.2)) (fun _ h => h.1)); replace ad := aK (Kd.S_mono (Kd.S_keep (IsS101.apartS hI (by (with_reducible repeat (first | apply Kd.S_alloc | apply Kd.S_drewN | apply Kd.S_drew)); exact ad.out) (by decide)) hk (fun _ h => h.2)) (fun _ h => h.1)); replace a3 := aK (kB hk (g' := a5) (o := .cells #[.slice none 0 0, .slice none 0 0, .slice none 0 0, .int .i64 0, .slice none 0 0, .slice none 0 0, .slice none 0 0, .slice none 0 0, .int .i64 0] 29 (0, 0)) (by (with_reducible repeat (first | refine bN ?_ _ | refine bD ?_ | refine bA ?_ _)); exact a3.out) ar.out (by simp)); replace a0 := aK (kB hk (g' := a2) (o := .cells #[af, ai, al, .int .i64 t315, .slice Ao64 t318.length co64, .slice Ao67 t323.length co67, au, .slice none 0 0, .int .i64 0] 29 (0, 0)) (by (with_reducible repeat (first | refine bN ?_ _ | refine bD ?_ | refine bA ?_ _)); exact a0.out) aq.out (by simp)); replace HB := aK (hb); replace a1 := aK (hi); clear hb hk hi; clear hI) | ((with_reducible refine gate_builtin (b := .append) (xs := #[.tmp 127, .tmp 130]) rfl ?_); (try (refine gate_guard (by rfl) ?_; dsimp only)); at_builtin; refine Kd.R_append (Kd.int .i64) (w0 := w) w.heap.size rfl (.tmp 127) (.tmp 130) 25 3 (.int .i64 0) 8 rfl Try.underlying25 info3 rfl (by decide) (by omega) u16 x16_6 t334 [.int .i64 t334] (fun k_ => some k_ ≠ (.slice Ao64 t318.length co64 : Value).ownBlock ∧ some k_ ≠ (.slice Ao67 t323.length co67 : Value).ownBlock) (fun _ => False) rfl rfl ?aP (fun _ hk => hk.elim) ?aF ?aO ?aB ?aS ?aL ?_; (case aP => exact rfl); (case aB => exact (by repeat (first | (with_reducible first | exact HB.out | apply pA | apply pN | apply pD | refine pS ?_ (iG a1.out) | refine pS ?_ ak.out | refine pS ?_ ap.out) | exact HB.out))); (case aF => exact (fun k_ hk => ⟨Kd.fresh' (Kd.R_lt (by (with_reducible repeat (first | apply kA | apply kN | apply kD)); exact ag.out)) k_ hk, Kd.fresh' (Kd.R_lt (by (with_reducible repeat (first | apply kA | apply kN | apply kD)); exact ah.out)) k_ hk⟩)); (case aO => exact (by (with_reducible repeat (first | apply kA | apply kN | apply kD)); exact aC.out)); (case aS => exact (below_size (by repeat (first | (with_reducible first | exact HB.out | apply pA | apply pN | apply pD | refine pS ?_ (iG a1.out) | refine pS ?_ ak.out | refine pS ?_ ap.out) | exact HB.out)))); (case aL => have := LMc75.out; omega); intro v338 w80 ho hb hg hat; rw [← Ny337.out] at ho; replace a4 := aK (Kd.R_over' (by (with_reducible repeat (first | apply kA | apply kN | apply kD)); exact a4.out) (Kd.R_typed (by (with_reducible repeat (first | apply kA | apply kN | apply kD)); exact aC.out)) (by decide) hg); replace a6 := aK (Kd.R_over' (by (with_reducible repeat (first | apply kA | apply kN | apply kD)); exact a6.out) (Kd.R_typed (by (with_reducible repeat (first | apply kA | apply kN | apply kD)); exact aC.out)) (by decide) hg); replace aa := aK (Kd.R_over' (by (with_reducible repeat (first | apply kA | apply kN | apply kD)); exact aa.out) (Kd.R_typed (by (with_reducible repeat (first | apply kA | apply kN | apply kD)); exact aC.out)) (by decide) hg); replace ag := aK (Kd.R_after (ok := (fun k_ => some k_ ≠ (.slice Ao67 t323.length co67 : Value).ownBlock)) (by (with_reducible repeat (first | apply kA | apply kN | apply kD)); exact kM ag.out (fun _ hk => ⟨hk.2, hk.1⟩)) hg hat); replace ah := aK (Kd.R_after (ok := (fun k_ => some k_ ≠ (.slice Ao64 t318.length co64 : Value).ownBlock)) (by (with_reducible repeat (first | apply kA | apply kN | apply kD)); exact kM ah.out (fun _ hk => ⟨hk.2, hk.1⟩)) hg hat); replace ad := aK (Kd.S_after (ok := (fun k_ => some k_ ≠ (.slice Ao64 t318.length co64 : Value).ownBlock ∧ some k_ ≠ (.slice Ao67 t323.length co67 : Value).ownBlock)) (by (with_reducible repeat (first | apply Kd.S_alloc | apply Kd.S_drewN | apply Kd.S_drew)); exact Kd.S_mono ad.out (fun _ hk => ⟨⟨hk.2.1, hk.2.2⟩, hk.1⟩)) hg hat); replace a3 := aK (blk_grown (g := a5) (o := .cells #[.slice none 0 0, .slice none 0 0, .slice none 0 0, .int .i64 0, .slice none 0 0, .slice none 0 0, .slice none 0 0, .slice none 0 0, .int .i64 0] 29 (0, 0)) (by (with_reducible repeat (first | refine bN ?_ _ | refine bD ?_ | refine bA ?_ _)); exact a3.out) hg (Kd.R_ne aC.out a3.out (by decide))); replace a0 := aK (blk_grown (g := a2) (o := .cells #[af, ai, al, .int .i64 t315, .slice Ao64 t318.length co64, .slice Ao67 t323.length co67, au, .slice none 0 0, .int .i64 0] 29 (0, 0)) (by (with_reducible repeat (first | refine bN ?_ _ | refine bD ?_ | refine bA ?_ _)); exact a0.out) hg (Kd.R_ne aC.out a0.out (by decide))); replace a1 := aK (IsS101.grown (by repeat (first | (with_reducible first | exact a1.out | apply iA | apply iN | apply iD | refine iF ?_ a8.out _ | refine iF ?_ a7.out _) | exact a1.out)) hg (IsS101.own_ne a1.out aC.out (by decide))); replace HB := aK (hb); have HO339 := aK (ho); clear aC ho hb hg hat))
                   go_roundg k6
                   case measure => have := HJ1.out; have := HK2.out; have := HK3.out; have := HK4.out; have := HK5.out; have := HK6.out; omega
                   case rel => exact ⟨(y337), (wrap64 (x17_6 + 1)), (t335), (t336), (by first | rfl | (simp; done) | (simp [*]; done)), H', ⟨by have := HJ1.out; have := HK2.out; have := HK3.out; have := HK4.out; have := HK5.out; have := HK6.out; omega⟩, ⟨by (with_reducible repeat (first | apply kA | apply kN | apply kD)); exact HO339.out⟩, ⟨by (with_reducible repeat (first | apply kA | apply kN | apply kD)); exact a4.out⟩, ⟨by (with_reducible repeat (first | apply kA | apply kN | apply kD)); exact a6.out⟩, ⟨by (with_reducible repeat (first | apply kA | apply kN | apply kD)); exact aa.out⟩, ⟨by (with_reducible repeat (first | apply kA | apply kN | apply kD)); exact kM ag.out (fun _ hk => ⟨hk.2, hk.1⟩)⟩, ⟨by (with_reducible repeat (first | apply kA | apply kN | apply kD)); exact kM ah.out (fun _ hk => ⟨hk.2, hk.1⟩)⟩, ⟨by (with_reducible repeat (first | apply Kd.S_alloc | apply Kd.S_drewN | apply Kd.S_drew)); exact Kd.S_mono ad.out (fun _ hk => ⟨hk.2, ⟨hk.1.1, hk.1.2⟩⟩)⟩, ⟨by (with_reducible repeat (first | refine bN ?_ _ | refine bD ?_ | refine bA ?_ _)); exact a3.out⟩, ⟨by (with_reducible repeat (first | refine bN ?_ _ | refine bD ?_ | refine bA ?_ _)); exact a0.out⟩, ⟨by repeat (first | (with_reducible first | exact a1.out | apply iA | apply iN | apply iD | refine iF ?_ a8.out _ | refine iF ?_ a7.out _) | exact a1.out)⟩, ⟨by repeat (first | (with_reducible first | exact HB.out | apply pA | apply pN | apply pD | refine pS ?_ (iG a1.out) | refine pS ?_ ak.out | refine pS ?_ ap.out) | exact HB.out)⟩⟩
                  ·rw [if_neg c73] at H
                   have c73b0 : decide (x17_6 < (t323.length : Int)) = false := decide_eq_false c73; clear c73
                   by_cases c81 : aj.length < 5864062014805
                   case neg =>
                    rw [if_neg c81] at H
                    exact absurd H (by simp)
                   rw [if_pos c81] at H
                   have LMc81 := aK c81; clear c81; obtain ⟨y340, hy340⟩ : ∃ y_ : List (List Int), y_ = (aj ++ [x16_6]) := ⟨_, rfl⟩
                   replace H : (signalboxref1_Decode.l3 k6 l0 t328 (wrap64 (x15_5 + 1)) l0 av aw a9 ab ac t315 t318 t323 y340 0) = some (r1, r2, r3, r4, r5, r6, r7, r8, r9, r10) := by first | (rw [hy340]; with_reducible exact H) | (have H2_ := (Option.bind_some _ _).symm.trans H; rw [hy340]; with_reducible exact H2_) | (have H2_ := (Option.bind_some _ _).symm.trans H; with_reducible exact H2_) | with_reducible exact H | (rw [hy340]; exact H) | exact H
                   have Ny340 := aK hy340; clear hy340; have H' := aK H
                   clear H; have hnb82 := az.out; have hnc82 := ao.out; have hnb83 := aq.out; have hnc83 := a7.out; have cR : wr.cell? ⟨a2, 0, none⟩ = some (af) := (bC a0.out 0).trans rfl; have cS : wr.cell? ⟨a2, 1, none⟩ = some (ai) := (bC a0.out 1).trans rfl; have cT : wr.cell? ⟨a2, 2, none⟩ = some (al) := (bC a0.out 2).trans rfl; have cU : wr.cell? ⟨a2, 3, none⟩ = some (.int .i64 t315) := (bC a0.out 3).trans rfl; have cV : wr.cell? ⟨a2, 4, none⟩ = some (.slice Ao64 t318.length co64) := (bC a0.out 4).trans rfl; have cW : wr.cell? ⟨a2, 5, none⟩ = some (.slice Ao67 t323.length co67) := (bC a0.out 5).trans rfl; have cX : wr.cell? ⟨a2, 6, none⟩ = some (au) := (bC a0.out 6).trans rfl; have cY : wr.cell? ⟨a2, 7, none⟩ = some (.slice none 0 0) := (bC a0.out 7).trans rfl; have cZ : wr.cell? ⟨a2, 8, none⟩ = some (.int .i64 0) := (bC a0.out 8).trans rfl; have d0 := bF a0.out 0; have d1 := bF a0.out 1; have d2 := bF a0.out 2; have d3 := bF a0.out 3; have d4 := bF a0.out 4; have d5 := bF a0.out 5; have d6 := bF a0.out 6; have d7 := bF a0.out 7; have d8 := bF a0.out 8; obtain ⟨Ao86, co86, eo86⟩ := Kd.R_slice aC.out
                   subst eo86; go_wp2_with (first | ((with_reducible refine gate_builtin (b := .append) (xs := #[.tmp 133, .tmp 135]) rfl ?_); (try (refine gate_guard (by rfl) ?_; dsimp only)); at_builtin; refine Kd.S_append (Kd.slice 3 (Kd.int .i64)) (w0 := w) w.heap.size rfl (.tmp 133) (.tmp 135) 26 25 (.slice none 0 0) 24 rfl Try.underlying26 infoD25 rfl (by decide) (by omega) au aj x16_6 [.slice Ao86 x16_6.length co86] (fun k_ => some k_ ≠ (.slice Ao64 t318.length co64 : Value).ownBlock ∧ some k_ ≠ (.slice Ao67 t323.length co67 : Value).ownBlock) (fun k_ => some k_ = (.slice Ao86 x16_6.length co86 : Value).ownBlock) rfl rfl ?aP (fun k_ hk_ => ((kM (ok' := fun k_ => ((fun k_ => some k_ ≠ (.slice Ao64 t318.length co64 : Value).ownBlock ∧ some k_ ≠ (.slice Ao67 t323.length co67 : Value).ownBlock)) k_ ∧ some k_ ≠ (au : Value).ownBlock) (Kd.R_apart' (aC.out) (Kd.S_typed ad.out) (by decide)) (fun k_ hk => ⟨⟨hk.1.1, hk.1.2⟩, hk.2⟩))).1 k_ hk_.symm) ?aF ?aO ?aB ?aS ?aL ?_; (case aP => exact Kd.M_row (kM (Kd.R_tight rfl (kM (ok' := fun k_ => ((fun k_ => some k_ ≠ (.slice Ao64 t318.length co64 : Value).ownBlock ∧ some k_ ≠ (.slice Ao67 t323.length co67 : Value).ownBlock)) k_ ∧ some k_ ≠ (au : Value).ownBlock) (Kd.R_apart' (aC.out) (Kd.S_typed ad.out) (by decide)) (fun k_ hk => ⟨⟨hk.1.1, hk.1.2⟩, hk.2⟩))) (fun _ h_ => h_))); (case aB => exact (by repeat (first | (with_reducible first | exact HB.out | apply pA | apply pN | apply pD | refine pS ?_ (iG a1.out) | refine pS ?_ ak.out | refine pS ?_ ap.out) | exact HB.out))); (case aF => exact (fun k_ hk => ⟨Kd.fresh' (Kd.R_lt (by (with_reducible repeat (first | apply kA | apply kN | apply kD)); exact ag.out)) k_ hk, Kd.fresh' (Kd.R_lt (by (with_reducible repeat (first | apply kA | apply kN | apply kD)); exact ah.out)) k_ hk⟩)); (case aO => exact (by (with_reducible repeat (first | apply Kd.S_alloc | apply Kd.S_drewN | apply Kd.S_drew)); exact Kd.S_mono ad.out (fun k_ hk => ⟨⟨hk.2.1, hk.2.2⟩, fun e_ => hk.1 e_⟩))); (case aS => exact (below_size (by repeat (first | (with_reducible first | exact HB.out | apply pA | apply pN | apply pD | refine pS ?_ (iG a1.out) | refine pS ?_ ak.out | refine pS ?_ ap.out) | exact HB.out)))); (case aL => have := LMc81.out; omega); intro v341 w85 ho hb hg hat; rw [← Ny340.out] at ho; replace a4 := aK (Kd.R_over' (by (with_reducible repeat (first | apply kA | apply kN | apply kD)); exact a4.out) (Kd.S_typed (by (with_reducible repeat (first | apply Kd.S_alloc | apply Kd.S_drewN | apply Kd.S_drew)); exact ad.out)) (by decide) hg); replace a6 := aK (Kd.R_over' (by (with_reducible repeat (first | apply kA | apply kN | apply kD)); exact a6.out) (Kd.S_typed (by (with_reducible repeat (first | apply Kd.S_alloc | apply Kd.S_drewN | apply Kd.S_drew)); exact ad.out)) (by decide) hg); replace aa := aK (Kd.R_over' (by (with_reducible repeat (first | apply kA | apply kN | apply kD)); exact aa.out) (Kd.S_typed (by (with_reducible repeat (first | apply Kd.S_alloc | apply Kd.S_drewN | apply Kd.S_drew)); exact ad.out)) (by decide) hg); replace ag := aK (Kd.R_over' (by (with_reducible repeat (first | apply kA | apply kN | apply kD)); exact ag.out) (Kd.S_typed (by (with_reducible repeat (first | apply Kd.S_alloc | apply Kd.S_drewN | apply Kd.S_drew)); exact ad.out)) (by decide) hg); replace ah := aK (Kd.R_over' (by (with_reducible repeat (first | apply kA | apply kN | apply kD)); exact ah.out) (Kd.S_typed (by (with_reducible repeat (first | apply Kd.S_alloc | apply Kd.S_drewN | apply Kd.S_drew)); exact ad.out)) (by decide) hg); replace a3 := aK (blk_grown (g := a5) (o := .cells #[.slice none 0 0, .slice none 0 0, .slice none 0 0, .int .i64 0, .slice none 0 0, .slice none 0 0, .slice none 0 0, .slice none 0 0, .int .i64 0] 29 (0, 0)) (by (with_reducible repeat (first | refine bN ?_ _ | refine bD ?_ | refine bA ?_ _)); exact a3.out) hg (Kd.S_ne ad.out a3.out (by decide))); replace a0 := aK (blk_grown (g := a2) (o := .cells #[af, ai, al, .int .i64 t315, .slice Ao64 t318.length co64, .slice Ao67 t323.length co67, au, .slice none 0 0, .int .i64 0] 29 (0, 0)) (by (with_reducible repeat (first | refine bN ?_ _ | refine bD ?_ | refine bA ?_ _)); exact a0.out) hg (Kd.S_ne ad.out a0.out (by decide))); replace a1 := aK (IsS101.grown (by repeat (first | (with_reducible first | exact a1.out | apply iA | apply iN | apply iD | refine iF ?_ a8.out _ | refine iF ?_ a7.out _) | exact a1.out)) hg (IsS101.own_neS a1.out ad.out (by decide))); replace HB := aK (hb); have HO342 := aK (ho); clear ad aC ho hb hg hat; obtain ⟨Ao87, co87, eo87⟩ := Kd.S_slice HO342.out; subst eo87; have d9 : w85.cell? ⟨a2, 0, none⟩ = some (af) := (bC a0.out 0).trans rfl; have da : w85.cell? ⟨a2, 1, none⟩ = some (ai) := (bC a0.out 1).trans rfl; have db : w85.cell? ⟨a2, 2, none⟩ = some (al) := (bC a0.out 2).trans rfl; have dc : w85.cell? ⟨a2, 3, none⟩ = some (.int .i64 t315) := (bC a0.out 3).trans rfl; have dd : w85.cell? ⟨a2, 4, none⟩ = some (.slice Ao64 t318.length co64) := (bC a0.out 4).trans rfl; have de : w85.cell? ⟨a2, 5, none⟩ = some (.slice Ao67 t323.length co67) := (bC a0.out 5).trans rfl; have df : w85.cell? ⟨a2, 6, none⟩ = some (au) := (bC a0.out 6).trans rfl; have dg : w85.cell? ⟨a2, 7, none⟩ = some (.slice none 0 0) := (bC a0.out 7).trans rfl; have dh : w85.cell? ⟨a2, 8, none⟩ = some (.int .i64 0) := (bC a0.out 8).trans rfl; have di := bF a0.out 0; have dj := bF a0.out 1; have dk := bF a0.out 2; have dl := bF a0.out 3; have dm := bF a0.out 4; have dn := bF a0.out 5; have dp := bF a0.out 6; have dq := bF a0.out 7; have dr := bF a0.out 8))
                   go_roundg k6
                   case measure => have := HJ1.out; have := HK2.out; have := HK3.out; have := HK4.out; have := HK5.out; have := HK6.out; omega
                   case rel => exact ⟨(wrap64 (x15_5 + 1)), (av), (aw), (y340), (.slice Ao87 y340.length co87), (by first | rfl | (simp; done) | (simp [*]; done)), H', ⟨by have := HJ1.out; have := HK2.out; have := HK3.out; have := HK4.out; have := HK5.out; have := HK6.out; omega⟩, ⟨by (with_reducible repeat (first | apply kA | apply kN | apply kD)); exact kM (kF (p := ⟨a2, 6, none⟩) (kT a4.out a0.out (by decide)) (fun _ hk => hk.2) (.slice Ao87 y340.length co87)) (fun _ hk => trivial)⟩, ⟨by (with_reducible repeat (first | apply kA | apply kN | apply kD)); exact kM (kF (p := ⟨a2, 6, none⟩) (kT a6.out a0.out (by decide)) (fun _ hk => hk.2) (.slice Ao87 y340.length co87)) (fun _ hk => trivial)⟩, ⟨by (with_reducible repeat (first | apply kA | apply kN | apply kD)); exact kM (kF (p := ⟨a2, 6, none⟩) (kT aa.out a0.out (by decide)) (fun _ hk => hk.2) (.slice Ao87 y340.length co87)) (fun _ hk => trivial)⟩, ⟨by (with_reducible repeat (first | apply kA | apply kN | apply kD)); exact kM (kF (p := ⟨a2, 6, none⟩) (kT ag.out a0.out (by decide)) (fun _ hk => hk.2) (.slice Ao87 y340.length co87)) (fun _ hk => hk.1.2)⟩, ⟨by (with_reducible repeat (first | apply kA | apply kN | apply kD)); exact kM (kF (p := ⟨a2, 6, none⟩) (kT ah.out a0.out (by decide)) (fun _ hk => hk.2) (.slice Ao87 y340.length co87)) (fun _ hk => hk.1.2)⟩, ⟨by (with_reducible repeat (first | apply Kd.S_alloc | apply Kd.S_drewN | apply Kd.S_drew)); exact Kd.S_mono (Kd.S_far (p := ⟨a2, 6, none⟩) (Kd.S_types HO342.out a0.out (by decide)) (fun _ hk => hk.2) (.slice Ao87 y340.length co87)) (fun _ hk => ⟨hk.1.1, hk.1.2⟩)⟩, ⟨by (with_reducible repeat (first | refine bN ?_ _ | refine bD ?_ | refine bA ?_ _)); refine blk_far ?_ ao.out _; (with_reducible repeat (first | refine bN ?_ _ | refine bD ?_ | refine bA ?_ _)); exact a3.out⟩, ⟨by (with_reducible repeat (first | refine bN ?_ _ | refine bD ?_ | refine bA ?_ _)); refine blk_put (cs := #[af, ai, al, .int .i64 t315, .slice Ao64 t318.length co64, .slice Ao67 t323.length co67, au, .slice none 0 0, .int .i64 0]) ?_ 6 _ rfl; (with_reducible repeat (first | refine bN ?_ _ | refine bD ?_ | refine bA ?_ _)); exact a0.out⟩, ⟨by repeat (first | (with_reducible first | exact a1.out | apply iA | apply iN | apply iD | refine iF ?_ a8.out _ | refine iF ?_ a7.out _) | exact a1.out)⟩, ⟨by repeat (first | (with_reducible first | exact HB.out | apply pA | apply pN | apply pD | refine pS ?_ (iG a1.out) | refine pS ?_ ak.out | refine pS ?_ ap.out) | exact HB.out)⟩⟩
               ·rw [if_neg c70] at H
                have c70b0 : decide (x15_5 < t328) = false := decide_eq_false c70; clear c70; replace H := Option.bind_eq_some_iff.mp H; obtain ⟨⟨t343, t344, t345⟩, A890, H⟩ := H
                replace H : (signalboxref1_Decode.l5 k5 l0 t343 0 l0 t344 t345 a9 ab ac t315 t318 t323 aj ([] : List (S65)) 0) = some (r1, r2, r3, r4, r5, r6, r7, r8, r9, r10) := H
                have A89 := aK A890; clear A890; have H' := aK H
                clear H; go_wp2_with (first | ((with_reducible refine gate_callee (f := 56) rfl ?_); refine goesL_ (some 139) rfl rfl Try.func56 (by kernel_rfl) rfl #[.pointer (some ⟨ae, 0, none⟩), .int .i64 2] rfl (by (try simp only [List.map_toArray, List.map_cons, List.map_nil]); first | done | rfl | (simp only [List.length_drop, List.length_take]; rfl)) ?_; (with_reducible refine (signalboxref1_Cursor_count.calls k5 ae l0 aM aN 2 t343 t344 t345 w _ ?side1 ?side2 A89.out).mono ?_); (case side1 => repeat (first | (with_reducible first | exact a1.out | apply iA | apply iN | apply iD | refine iF ?_ a8.out _ | refine iF ?_ a7.out _) | exact a1.out)); (case side2 => repeat (first | (with_reducible first | exact HB.out | apply pA | apply pN | apply pD | refine pS ?_ (iG a1.out) | refine pS ?_ ak.out | refine pS ?_ ap.out) | exact HB.out)); rintro e w90 ⟨rfl, hi, hb, hk⟩; refine ⟨_, rfl, ?_⟩; have hI : IsS101 w _ ae l0 aM aN := iS_of hk (by repeat (first | (with_reducible first | exact a1.out | apply iA | apply iN | apply iD | refine iF ?_ a8.out _ | refine iF ?_ a7.out _) | exact a1.out)); replace a4 := aK (kM (kK (iP hI (by (with_reducible repeat (first | apply kA | apply kN | apply kD)); exact a4.out) (by decide)) hk (fun _ h => h.2)) (fun _ h => h.1)); replace a6 := aK (kM (kK (iP hI (by (with_reducible repeat (first | apply kA | apply kN | apply kD)); exact a6.out) (by decide)) hk (fun _ h => h.2)) (fun _ h => h.1)); replace aa := aK (kM (kK (iP hI (by (with_reducible repeat (first | apply kA | apply kN | apply kD)); exact aa.out) (by decide)) hk (fun _ h => h.2)) (fun _ h => h.1)); replace ag := aK (kM (kK (iP hI (by (with_reducible repeat (first | apply kA | apply kN | apply kD)); exact ag.out) (by decide)) hk (fun _ h => h.2)) (fun _ h => h.1)); replace ah := aK (kM (kK (iP hI (by (with_reducible repeat (first | apply kA | apply kN | apply kD)); exact ah.out) (by decide)) hk (fun _ h => h.2)) (fun _ h => h.1)); replace ad := aK (Kd.S_mono (Kd.S_keep (IsS101.apartS hI (by (with_reducible repeat (first | apply Kd.S_alloc | apply Kd.S_drewN | apply Kd.S_drew)); exact ad.out) (by decide)) hk (fun _ h => h.2)) (fun _ h => h.1)); replace a3 := aK (kB hk (g' := a5) (o := .cells #[.slice none 0 0, .slice none 0 0, .slice none 0 0, .int .i64 0, .slice none 0 0, .slice none 0 0, .slice none 0 0, .slice none 0 0, .int .i64 0] 29 (0, 0)) (by (with_reducible repeat (first | refine bN ?_ _ | refine bD ?_ | refine bA ?_ _)); exact a3.out) ar.out (by simp)); replace a0 := aK (kB hk (g' := a2) (o := .cells #[af, ai, al, .int .i64 t315, .slice Ao64 t318.length co64, .slice Ao67 t323.length co67, au, .slice none 0 0, .int .i64 0] 29 (0, 0)) (by (with_reducible repeat (first | refine bN ?_ _ | refine bD ?_ | refine bA ?_ _)); exact a0.out) aq.out (by simp)); replace HB := aK (hb); replace a1 := aK (hi); clear hb hk hi; clear hI))
                go_loopg [18] k5 (fun kq v18 w' => ∃ (x18_6 : Int) (av : Int) (aw : Bool) (an : List (S65)) (ay : Value), v18 = .int .i64 x18_6 ∧ Aside0 (signalboxref1_Decode.l5 kq l0 t343 x18_6 l0 av aw a9 ab ac t315 t318 t323 aj an 0 = some (r1, r2, r3, r4, r5, r6, r7, r8, r9, r10)) ∧ Aside0 (kq ≤ k5) ∧ Aside0 (Kd.R k44 44 w' w.heap.size (fun _ => True) af a9) ∧ Aside0 (Kd.R k46 46 w' w.heap.size (fun _ => True) ai ab) ∧ Aside0 (Kd.R k56 56 w' w.heap.size (fun _ => True) al ac) ∧ Aside0 (Kd.R (Kd.int .i64) 3 w' w.heap.size (fun k_ => some k_ ≠ ((.slice Ao67 t323.length co67) : Value).ownBlock) (.slice Ao64 t318.length co64) t318) ∧ Aside0 (Kd.R (Kd.int .i64) 3 w' w.heap.size (fun k_ => some k_ ≠ ((.slice Ao64 t318.length co64) : Value).ownBlock) (.slice Ao67 t323.length co67) t323) ∧ Aside0 (Kd.S (Kd.slice 3 (Kd.int .i64)) 25 w' w.heap.size (fun k_ => some k_ ≠ ((.slice Ao64 t318.length co64) : Value).ownBlock ∧ some k_ ≠ ((.slice Ao67 t323.length co67) : Value).ownBlock) au aj) ∧ Aside0 (Kd.R k65 65 w' w.heap.size (fun _ => True) ay an) ∧ Aside0 (w'.heap[a5]? = some (.cells #[(.slice none 0 0), (.slice none 0 0), (.slice none 0 0), .int .i64 0, (.slice none 0 0), (.slice none 0 0), (.slice none 0 0), (.slice none 0 0), .int .i64 0] 29 (0, 0))) ∧ Aside0 (w'.heap[a2]? = some (.cells #[af, ai, al, .int .i64 t315, (.slice Ao64 t318.length co64), (.slice Ao67 t323.length co67), au, ay, .int .i64 0] 29 (0, 0))) ∧ Aside0 (IsS101 w w' ae l0 av aw) ∧ Aside0 (Below w.heap.size w w'))
                case atStart => exact ⟨(0), (t344), (t345), (([] : List (S65))), (.slice none 0 0), (by first | rfl | (simp; done) | (simp [*]; done)), H', ⟨Nat.le_refl _⟩, ⟨by (with_reducible repeat (first | apply kA | apply kN | apply kD)); exact a4.out⟩, ⟨by (with_reducible repeat (first | apply kA | apply kN | apply kD)); exact a6.out⟩, ⟨by (with_reducible repeat (first | apply kA | apply kN | apply kD)); exact aa.out⟩, ⟨by (with_reducible repeat (first | apply kA | apply kN | apply kD)); exact ag.out⟩, ⟨by (with_reducible repeat (first | apply kA | apply kN | apply kD)); exact ah.out⟩, ⟨by (with_reducible repeat (first | apply Kd.S_alloc | apply Kd.S_drewN | apply Kd.S_drew)); exact ad.out⟩, ⟨by first | exact Kd.R_nil _ _ _ _ _ | exact Kd.N_nil _ _ _ _ _ | exact Kd.V_nil _ _ _ _ _ | exact Kd.Q_nil _ _ _ _ _ | exact Kd.S_nil _ _ _ _ _⟩, ⟨by (with_reducible repeat (first | refine bN ?_ _ | refine bD ?_ | refine bA ?_ _)); exact a3.out⟩, ⟨by (with_reducible repeat (first | refine bN ?_ _ | refine bD ?_ | refine bA ?_ _)); exact a0.out⟩, ⟨by repeat (first | (with_reducible first | exact a1.out | apply iA | apply iN | apply iD | refine iF ?_ a8.out _ | refine iF ?_ a7.out _) | exact a1.out)⟩, ⟨by repeat (first | (with_reducible first | exact HB.out | apply pA | apply pN | apply pD | refine pS ?_ (iG a1.out) | refine pS ?_ ak.out | refine pS ?_ ap.out) | exact HB.out)⟩⟩
                case round =>
                 clear H'
                 try clear c1
                 try clear c2
                 try clear p2
                 try clear q2
                 try clear hx2
                 try clear qi2
                 try clear c3
                 try clear c4
                 try clear c4b0
                 try clear c4b1
                 try clear c5
                 try clear c5b0
                 try clear c5b1
                 try clear c6
                 try clear c6b0
                 try clear c6b1
                 try clear p6
                 try clear c7
                 try clear c7b0
                 try clear c7b1
                 try clear c8
                 try clear c13
                 try clear c14
                 try clear c17
                 try clear c17b0
                 try clear c21
                 try clear p26
                 try clear q26
                 try clear hx26
                 try clear qi26
                 try clear p27
                 try clear q27
                 try clear hx27
                 try clear qi27
                 try clear c31
                 try clear c31b0
                 try clear c35
                 try clear c45
                 try clear c45b0
                 try clear c48
                 try clear c56
                 try clear c57
                 try clear c58
                 try clear c60
                 try clear c61
                 try clear p64
                 try clear c70
                 try clear c70b0
                 try clear c73
                 try clear c73b0
                 try clear c75
                 try clear c76
                 try clear c77
                 try clear c81
                 try clear c82
                 try clear c83
                 try clear aQ
                 try clear aR
                 try clear aT
                 try clear aU
                 try clear aV
                 try clear aW
                 try clear aX
                 try clear aY
                 try clear aZ
                 try clear br
                 try clear bs
                 try clear bt
                 try clear bu
                 try clear bv
                 try clear bw
                 try clear bx
                 try clear bz
                 try clear bB
                 try clear bP
                 try clear bQ
                 try clear bR
                 try clear bS
                 try clear bT
                 try clear bU
                 try clear bV
                 try clear bW
                 try clear bX
                 try clear cg
                 try clear ch
                 try clear ci
                 try clear cj
                 try clear ck
                 try clear cl
                 try clear cm
                 try clear cn
                 try clear co
                 try clear cz
                 try clear cA
                 try clear cB
                 try clear cC
                 try clear cD
                 try clear cE
                 try clear cF
                 try clear cG
                 try clear cH
                 try clear cR
                 try clear cS
                 try clear cT
                 try clear cU
                 try clear cV
                 try clear cW
                 try clear cX
                 try clear cY
                 try clear cZ
                 try clear d9
                 try clear da
                 try clear db
                 try clear dc
                 try clear dd
                 try clear de
                 try clear df
                 try clear dg
                 try clear dh
                 try clear b9
                 try clear ba
                 try clear bb
                 try clear bc
                 try clear bd
                 try clear be
                 try clear bf
                 try clear bg
                 try clear bh
                 try clear b0
                 try clear b1
                 try clear b2
                 try clear b3
                 try clear b4
                 try clear b5
                 try clear b6
                 try clear b7
                 try clear b8
                 try clear bE
                 try clear bG
                 try clear bH
                 try clear bI
                 try clear bJ
                 try clear bK
                 try clear bL
                 try clear bM
                 try clear bO
                 try clear bY
                 try clear bZ
                 try clear c9
                 try clear ca
                 try clear cb
                 try clear cc
                 try clear cd
                 try clear ce
                 try clear cf
                 try clear cp
                 try clear cq
                 try clear cr
                 try clear ct
                 try clear cu
                 try clear cv
                 try clear cw
                 try clear cx
                 try clear cy
                 try clear cI
                 try clear cJ
                 try clear cK
                 try clear cL
                 try clear cM
                 try clear cN
                 try clear cO
                 try clear cP
                 try clear cQ
                 try clear d0
                 try clear d1
                 try clear d2
                 try clear d3
                 try clear d4
                 try clear d5
                 try clear d6
                 try clear d7
                 try clear d8
                 try clear di
                 try clear dj
                 try clear dk
                 try clear dl
                 try clear dm
                 try clear dn
                 try clear dp
                 try clear dq
                 try clear dr
                 try clear bi
                 try clear bj
                 try clear bk
                 try clear bl
                 try clear bm
                 try clear bn
                 try clear bo
                 try clear bp
                 try clear bq
                 try clear ax
                 try clear aA
                 try clear p2
                 try clear p26
                 try clear p269
                 try clear p27
                 try clear p270
                 try clear p6
                 try clear p64
                 try clear q2
                 try clear q26
                 try clear q269
                 try clear q27
                 try clear q270
                 obtain ⟨x18_6, av, aw, an, ay, rfl, HA, HK6, a4, a6, aa, ag, ah, ad, am, a3, a0, a1, HB⟩ := hrel
                 cases gk with
                 | zero => exact absurd HA.out (by simp [signalboxref1_Decode.l5])
                 | succ k6 =>
                  have H := HA.out; clear HA
                  simp only [signalboxref1_Decode.l5] at H
                  by_cases c91 : x18_6 < t343
                  ·rw [if_pos c91] at H
                   have c91b0 : decide (x18_6 < t343) = true := decide_eq_true c91; clear c91; replace H := Option.bind_eq_some_iff.mp H; obtain ⟨⟨t346, t347, t348⟩, A920, H⟩ := H
                   replace H : ((signalboxref1_Cursor_num.f k6 l0 t347 t348 8).bind fun bt349 => (if an.length < 8796093022208 then (signalboxref1_Decode.l5 k6 l0 t343 (wrap64 (x18_6 + 1)) l0 bt349.2.1 bt349.2.2 a9 ab ac t315 t318 t323 aj (an ++ [(⟨t346, bt349.1⟩ : S65)]) 0) else (none))) = some (r1, r2, r3, r4, r5, r6, r7, r8, r9, r10) := H
                   have A92 := aK A920; clear A920; replace H := Option.bind_eq_some_iff.mp H; obtain ⟨⟨t349, t350, t351⟩, A930, H⟩ := H
                   replace H : (if an.length < 8796093022208 then (signalboxref1_Decode.l5 k6 l0 t343 (wrap64 (x18_6 + 1)) l0 t350 t351 a9 ab ac t315 t318 t323 aj (an ++ [(⟨t346, t349⟩ : S65)]) 0) else (none)) = some (r1, r2, r3, r4, r5, r6, r7, r8, r9, r10) := H
                   have A93 := aK A930; clear A930
                   by_cases c94 : an.length < 8796093022208
                   case neg =>
                    rw [if_neg c94] at H
                    exact absurd H (by simp)
                   rw [if_pos c94] at H
                   have LMc94 := aK c94; clear c94; obtain ⟨y352, hy352⟩ : ∃ y_ : List (S65), y_ = (an ++ [(⟨t346, t349⟩ : S65)]) := ⟨_, rfl⟩
                   replace H : (signalboxref1_Decode.l5 k6 l0 t343 (wrap64 (x18_6 + 1)) l0 t350 t351 a9 ab ac t315 t318 t323 aj y352 0) = some (r1, r2, r3, r4, r5, r6, r7, r8, r9, r10) := by first | (rw [hy352]; with_reducible exact H) | (have H2_ := (Option.bind_some _ _).symm.trans H; rw [hy352]; with_reducible exact H2_) | (have H2_ := (Option.bind_some _ _).symm.trans H; with_reducible exact H2_) | with_reducible exact H | (rw [hy352]; exact H) | exact H
                   have Ny352 := aK hy352; clear hy352; have H' := aK H
                   clear H
                   try go_wp2_with (first | ((with_reducible refine gate_callee (f := 57) rfl ?_); refine goesL_ (some 146) rfl rfl Try.func57 (by kernel_rfl) rfl #[.pointer (some ⟨ae, 0, none⟩), .int .i64 8] rfl (by (try simp only [List.map_toArray, List.map_cons, List.map_nil]); first | done | rfl | (simp only [List.length_drop, List.length_take]; rfl)) ?_; (with_reducible refine (signalboxref1_Cursor_num.calls k6 ae l0 av aw 8 t346 t347 t348 w _ ?side1 ?side2 A92.out).mono ?_); (case side1 => repeat (first | (with_reducible first | exact a1.out | apply iA | apply iN | apply iD | refine iF ?_ a8.out _ | refine iF ?_ a7.out _) | exact a1.out)); (case side2 => repeat (first | (with_reducible first | exact HB.out | apply pA | apply pN | apply pD | refine pS ?_ (iG a1.out) | refine pS ?_ ak.out | refine pS ?_ ap.out) | exact HB.out)); rintro e w95 ⟨rfl, hi, hb, hk⟩; refine ⟨_, rfl, ?_⟩; have hI : IsS101 w _ ae l0 av aw := iS_of hk (by repeat (first | (with_reducible first | exact a1.out | apply iA | apply iN | apply iD | refine iF ?_ a8.out _ | refine iF ?_ a7.out _) | exact a1.out)); replace a4 := aK (kM (kK (iP hI (by (with_reducible repeat (first | apply kA | apply kN | apply kD)); exact a4.out) (by decide)) hk (fun _ h => h.2)) (fun _ h => h.1)); replace a6 := aK (kM (kK (iP hI (by (with_reducible repeat (first | apply kA | apply kN | apply kD)); exact a6.out) (by decide)) hk (fun _ h => h.2)) (fun _ h => h.1)); replace aa := aK (kM (kK (iP hI (by (with_reducible repeat (first | apply kA | apply kN | apply kD)); exact aa.out) (by decide)) hk (fun _ h => h.2)) (fun _ h => h.1)); replace ag := aK (kM (kK (iP hI (by (with_reducible repeat (first | apply kA | apply kN | apply kD)); exact ag.out) (by decide)) hk (fun _ h => h.2)) (fun _ h => h.1)); replace ah := aK (kM (kK (iP hI (by (with_reducible repeat (first | apply kA | apply kN | apply kD)); exact ah.out) (by decide)) hk (fun _ h => h.2)) (fun _ h => h.1)); replace ad := aK (Kd.S_mono (Kd.S_keep (IsS101.apartS hI (by (with_reducible repeat (first | apply Kd.S_alloc | apply Kd.S_drewN | apply Kd.S_drew)); exact ad.out) (by decide)) hk (fun _ h => h.2)) (fun _ h => h.1)); replace am := aK (kM (kK (iP hI (by (with_reducible repeat (first | apply kA | apply kN | apply kD)); exact am.out) (by decide)) hk (fun _ h => h.2)) (fun _ h => h.1)); replace a3 := aK (kB hk (g' := a5) (o := .cells #[.slice none 0 0, .slice none 0 0, .slice none 0 0, .int .i64 0, .slice none 0 0, .slice none 0 0, .slice none 0 0, .slice none 0 0, .int .i64 0] 29 (0, 0)) (by (with_reducible repeat (first | refine bN ?_ _ | refine bD ?_ | refine bA ?_ _)); exact a3.out) ar.out (by simp)); replace a0 := aK (kB hk (g' := a2) (o := .cells #[af, ai, al, .int .i64 t315, .slice Ao64 t318.length co64, .slice Ao67 t323.length co67, au, ay, .int .i64 0] 29 (0, 0)) (by (with_reducible repeat (first | refine bN ?_ _ | refine bD ?_ | refine bA ?_ _)); exact a0.out) aq.out (by simp)); replace HB := aK (hb); replace a1 := aK (hi); clear hb hk hi; clear hI))
                   replace a4 := aK (kD a4.out)
                   replace a6 := aK (kD a6.out)
                   replace aa := aK (kD aa.out)
                   replace ag := aK (kD ag.out)
                   replace ah := aK (kD ah.out)
                   replace ad := aK (Kd.S_drew ad.out)
                   replace am := aK (kD am.out)
                   replace a3 := aK (bD a3.out)
                   replace a0 := aK (bD a0.out)
                   replace a1 := aK (iD a1.out)
                   replace HB := aK (pD HB.out)
                   refine start_ (n := 10) (S := fun w' => w'.cell? ⟨a2, 0, none⟩ = some (af) ∧ w'.cell? ⟨a2, 1, none⟩ = some (ai) ∧ w'.cell? ⟨a2, 2, none⟩ = some (al) ∧ w'.cell? ⟨a2, 3, none⟩ = some (.int .i64 t315) ∧ w'.cell? ⟨a2, 4, none⟩ = some (.slice Ao64 t318.length co64) ∧ w'.cell? ⟨a2, 5, none⟩ = some (.slice Ao67 t323.length co67) ∧ w'.cell? ⟨a2, 6, none⟩ = some (au) ∧ w'.cell? ⟨a2, 7, none⟩ = some (ay) ∧ w'.cell? ⟨a2, 8, none⟩ = some (.int .i64 0)) (ds := [9]) #[false, false, false, false, false, false, false, false, false, false] (by kernel_rfl) rfl rfl ⟨(bC a0.out 0).trans rfl, (bC a0.out 1).trans rfl, (bC a0.out 2).trans rfl, (bC a0.out 3).trans rfl, (bC a0.out 4).trans rfl, (bC a0.out 5).trans rfl, (bC a0.out 6).trans rfl, (bC a0.out 7).trans rfl, (bC a0.out 8).trans rfl⟩ (fun hHeld => ?_); refine with_tabW signalboxref1_Decode.tab43 signalboxref1_Decode.bits43 (fun HT_ HW_ => ?_)
                   generalize w95.drew = w96 at a4 a6 aa ag ah ad am a3 a0 a1 HB hHeld ⊢
                   refine pure_ (i := 0) (N := some 147) (v := ?_) (a' := ?_) #[true, false, false, false, false, false, false, false, false, false] rfl rfl (any_of HT_.out (by kernel_rfl)) (fun _ _ _ h => h) (Or.inl ⟨by rfl, ?_⟩) ?_ ?_
                   rotate_left
                   ·intro w'
                    go_simp
                    with_reducible rfl
                   rotate_left
                   ·simp only [Act.put, List.setIfInBounds_toArray, List.set_cons_zero, List.set_cons_succ, i64_w, i32_w]
                    rfl
                   refine pure_ (i := 2) (N := some 149) (v := ?_) (a' := ?_) #[true, false, true, false, false, false, false, false, false, false] rfl rfl (any_of HT_.out (by kernel_rfl)) (fun _ _ _ h => h) (Or.inl ⟨by rfl, ?_⟩) ?_ ?_
                   rotate_left
                   ·intro w'
                    go_simp
                    with_reducible rfl
                   rotate_left
                   ·simp only [Act.put, List.setIfInBounds_toArray, List.set_cons_zero, List.set_cons_succ, i64_w, i32_w]
                    rfl
                   refine pure_ (i := 3) (N := some 150) (v := ?_) (a' := ?_) #[true, false, true, true, false, false, false, false, false, false] rfl rfl (any_of HT_.out (by kernel_rfl)) (fun _ _ _ h => h) (Or.inl ⟨by rfl, ?_⟩) ?_ ?_
                   rotate_left
                   ·intro w'
                    go_simp
                    with_reducible rfl
                   rotate_left
                   ·simp only [Act.put, List.setIfInBounds_toArray, List.set_cons_zero, List.set_cons_succ, i64_w, i32_w]
                    rfl
                   refine take_ (i := 1) (N := some 148) (v := ?_) (a' := ?_) #[true, true, true, true, false, false, false, false, false, false] rfl rfl (take_ofW HT_.out HW_.out (by kernel_rfl)) (fun _ _ _ h => h) (Or.inl ⟨by rfl, ?_⟩) hHeld ?_ ?_
                   rotate_left
                   ·rintro w' ⟨s0, s1, s2, s3, s4, s5, s6, s7, s8⟩
                    go_simp
                    with_reducible rfl
                   rotate_left
                   ·simp only [Act.put, List.setIfInBounds_toArray, List.set_cons_zero, List.set_cons_succ, i64_w, i32_w]
                    rfl
                   refine one_ (i := 4) (N := some 151) #[true, true, true, true, true, false, false, false, false, false] rfl rfl (one_of HT_.out (by kernel_rfl)) (by decide) (fun K hK => ?_)
                   refine goes_ Try.func57 (by kernel_rfl) rfl #[.pointer (some ⟨ae, 0, none⟩), .int .i64 8] (by rfl) rfl rfl (by (try simp only [List.map_toArray, List.map_cons, List.map_nil]); first | done | rfl | (simp only [List.length_drop, List.length_take]; rfl)) ?_
                   with_reducible refine (signalboxref1_Cursor_num.calls k6 ae l0 t347 t348 8 t349 t350 t351 w _ ?side1 ?side2 A93.out).mono ?_
                   (case side1 => repeat (first | (with_reducible first | exact a1.out | apply iA | apply iN | apply iD | refine iF ?_ a8.out _ | refine iF ?_ a7.out _) | exact a1.out))
                   (case side2 => repeat (first | (with_reducible first | exact HB.out | apply pA | apply pN | apply pD | refine pS ?_ (iG a1.out) | refine pS ?_ ak.out | refine pS ?_ ap.out) | exact HB.out))
                   rintro e w97 ⟨rfl, hi, hb, hk⟩
                   refine ⟨_, rfl, ?_⟩
                   replace a4 := aK (kM (kK (iP (show IsS101 w _ ae l0 t347 t348 from by repeat (first | (with_reducible first | exact a1.out | apply iA | apply iN | apply iD | refine iF ?_ a8.out _ | refine iF ?_ a7.out _) | exact a1.out)) (by (with_reducible repeat (first | apply kA | apply kN | apply kD)); exact a4.out) (by decide)) hk (fun _ h => h.2)) (fun _ h => h.1))
                   replace a6 := aK (kM (kK (iP (show IsS101 w _ ae l0 t347 t348 from by repeat (first | (with_reducible first | exact a1.out | apply iA | apply iN | apply iD | refine iF ?_ a8.out _ | refine iF ?_ a7.out _) | exact a1.out)) (by (with_reducible repeat (first | apply kA | apply kN | apply kD)); exact a6.out) (by decide)) hk (fun _ h => h.2)) (fun _ h => h.1))
                   replace aa := aK (kM (kK (iP (show IsS101 w _ ae l0 t347 t348 from by repeat (first | (with_reducible first | exact a1.out | apply iA | apply iN | apply iD | refine iF ?_ a8.out _ | refine iF ?_ a7.out _) | exact a1.out)) (by (with_reducible repeat (first | apply kA | apply kN | apply kD)); exact aa.out) (by decide)) hk (fun _ h => h.2)) (fun _ h => h.1))
                   replace ag := aK (kM (kK (iP (show IsS101 w _ ae l0 t347 t348 from by repeat (first | (with_reducible first | exact a1.out | apply iA | apply iN | apply iD | refine iF ?_ a8.out _ | refine iF ?_ a7.out _) | exact a1.out)) (by (with_reducible repeat (first | apply kA | apply kN | apply kD)); exact ag.out) (by decide)) hk (fun _ h => h.2)) (fun _ h => h.1))
                   replace ah := aK (kM (kK (iP (show IsS101 w _ ae l0 t347 t348 from by repeat (first | (with_reducible first | exact a1.out | apply iA | apply iN | apply iD | refine iF ?_ a8.out _ | refine iF ?_ a7.out _) | exact a1.out)) (by (with_reducible repeat (first | apply kA | apply kN | apply kD)); exact ah.out) (by decide)) hk (fun _ h => h.2)) (fun _ h => h.1))
                   replace ad := aK (Kd.S_mono (Kd.S_keep (IsS101.apartS (show IsS101 w _ ae l0 t347 t348 from by repeat (first | (with_reducible first | exact a1.out | apply iA | apply iN | apply iD | refine iF ?_ a8.out _ | refine iF ?_ a7.out _) | exact a1.out)) (by (with_reducible repeat (first | apply Kd.S_alloc | apply Kd.S_drewN | apply Kd.S_drew)); exact ad.out) (by decide)) hk (fun _ h => h.2)) (fun _ h => h.1))
                   replace am := aK (kM (kK (iP (show IsS101 w _ ae l0 t347 t348 from by repeat (first | (with_reducible first | exact a1.out | apply iA | apply iN | apply iD | refine iF ?_ a8.out _ | refine iF ?_ a7.out _) | exact a1.out)) (by (with_reducible repeat (first | apply kA | apply kN | apply kD)); exact am.out) (by decide)) hk (fun _ h => h.2)) (fun _ h => h.1))
                   replace a3 := aK (kB hk (g' := a5) (o := .cells #[.slice none 0 0, .slice none 0 0, .slice none 0 0, .int .i64 0, .slice none 0 0, .slice none 0 0, .slice none 0 0, .slice none 0 0, .int .i64 0] 29 (0, 0)) (by (with_reducible repeat (first | refine bN ?_ _ | refine bD ?_ | refine bA ?_ _)); exact a3.out) ar.out (by simp))
                   replace a0 := aK (kB hk (g' := a2) (o := .cells #[af, ai, al, .int .i64 t315, .slice Ao64 t318.length co64, .slice Ao67 t323.length co67, au, ay, .int .i64 0] 29 (0, 0)) (by (with_reducible repeat (first | refine bN ?_ _ | refine bD ?_ | refine bA ?_ _)); exact a0.out) aq.out (by simp))
                   replace HB := aK (hb)
                   replace a1 := aK (hi)
                   (try clear hb)
                   (try clear hb2)
                   (try clear hk)
                   (try clear hi)
                   refine hK.out _ _ ⟨(bC a0.out 0).trans rfl, (bC a0.out 1).trans rfl, (bC a0.out 2).trans rfl, (bC a0.out 3).trans rfl, (bC a0.out 4).trans rfl, (bC a0.out 5).trans rfl, (bC a0.out 6).trans rfl, (bC a0.out 7).trans rfl, (bC a0.out 8).trans rfl⟩ (fun hHeld => ?_)
                   clear hK K
                   refine norm_ (a' := ?_) ?_ ?_
                   rotate_left
                   ·show Act.put _ (some 151) _ = _
                    simp only [Act.put, List.setIfInBounds_toArray, List.set_cons_zero, List.set_cons_succ, i64_w, i32_w]
                    rfl
                   refine pure_ (i := 5) (N := some 152) (v := ?_) (a' := ?_) #[true, true, true, true, true, true, false, false, false, false] rfl rfl (any_of HT_.out (by kernel_rfl)) (fun _ _ _ h => h) (Or.inl ⟨by rfl, ?_⟩) ?_ ?_
                   rotate_left
                   ·intro w'
                    go_simp
                    with_reducible rfl
                   rotate_left
                   ·simp only [Act.put, List.setIfInBounds_toArray, List.set_cons_zero, List.set_cons_succ, i64_w, i32_w]
                    rfl
                   refine one_ (i := 6) (N := some 153) #[true, true, true, true, true, true, true, false, false, false] rfl rfl (one_of HT_.out (by kernel_rfl)) (by decide) (fun K hK => ?_)
                   refine value_ (w1 := ?_) (v := ?_) (by rfl) rfl ?_ ?_
                   rotate_left 2
                   ·go_simp
                    constructor
                    ·rfl
                    ·rfl
                   refine hK.out _ _ ⟨(bC (bA a0.out _) 0).trans rfl, (bC (bA a0.out _) 1).trans rfl, (bC (bA a0.out _) 2).trans rfl, (bC (bA a0.out _) 3).trans rfl, (bC (bA a0.out _) 4).trans rfl, (bC (bA a0.out _) 5).trans rfl, (bC (bA a0.out _) 6).trans rfl, (bC (bA a0.out _) 7).trans rfl, (bC (bA a0.out _) 8).trans rfl⟩ (fun hHeld => ?_)
                   clear hK K
                   refine norm_ (a' := ?_) ?_ ?_
                   rotate_left
                   ·show Act.put _ (some 153) _ = _
                    simp only [Act.put, List.setIfInBounds_toArray, List.set_cons_zero, List.set_cons_succ, i64_w, i32_w]
                    rfl
                   refine one_ (i := 7) (N := some 154) #[true, true, true, true, true, true, true, true, false, false] rfl rfl (one_of HT_.out (by kernel_rfl)) (by decide) (fun K hK => ?_)
                   refine Kd.R_append_step k65 (w0 := w) w.heap.size (by rfl) (.tmp 148) (.tmp 153) 27 65 (.agg #[(.int .i64 0), (.int .i64 0)]) 16 rfl Try.underlying27 infoD65 rfl (by decide) (by omega) ay an (⟨t346, t349⟩ : S65) [.int .i64 t346, .int .i64 t349] (fun _ => True) (fun _ => False) rfl rfl ?aP (fun _ hk => hk.elim) ?aF ?aO ?aB ?aS ?aL ?_
                   (case aP => exact k65_mkM _ _ _ (⟨t346, t349⟩ : S65))
                   (case aB => exact (by repeat (first | (with_reducible first | exact HB.out | apply pA | apply pN | apply pD | refine pS ?_ (iG a1.out) | refine pS ?_ ak.out | refine pS ?_ ap.out) | exact HB.out)))
                   (case aF => exact (fun _ _ => trivial))
                   (case aO => exact (by (with_reducible repeat (first | apply kA | apply kN | apply kD)); exact am.out))
                   (case aS => exact (below_size (by repeat (first | (with_reducible first | exact HB.out | apply pA | apply pN | apply pD | refine pS ?_ (iG a1.out) | refine pS ?_ ak.out | refine pS ?_ ap.out) | exact HB.out))))
                   (case aL => have := LMc94.out; omega)
                   intro v353 w98 ho hb hg hat
                   rw [← Ny352.out] at ho
                   replace a4 := aK (Kd.R_over' (by (with_reducible repeat (first | apply kA | apply kN | apply kD)); exact a4.out) (Kd.R_typed (by (with_reducible repeat (first | apply kA | apply kN | apply kD)); exact am.out)) (by decide) hg)
                   replace a6 := aK (Kd.R_over' (by (with_reducible repeat (first | apply kA | apply kN | apply kD)); exact a6.out) (Kd.R_typed (by (with_reducible repeat (first | apply kA | apply kN | apply kD)); exact am.out)) (by decide) hg)
                   replace aa := aK (Kd.R_over' (by (with_reducible repeat (first | apply kA | apply kN | apply kD)); exact aa.out) (Kd.R_typed (by (with_reducible repeat (first | apply kA | apply kN | apply kD)); exact am.out)) (by decide) hg)
                   replace ag := aK (Kd.R_over' (by (with_reducible repeat (first | apply kA | apply kN | apply kD)); exact ag.out) (Kd.R_typed (by (with_reducible repeat (first | apply kA | apply kN | apply kD)); exact am.out)) (by decide) hg)
                   replace ah := aK (Kd.R_over' (by (with_reducible repeat (first | apply kA | apply kN | apply kD)); exact ah.out) (Kd.R_typed (by (with_reducible repeat (first | apply kA | apply kN | apply kD)); exact am.out)) (by decide) hg)
                   replace ad := aK (Kd.S_over' (by (with_reducible repeat (first | apply Kd.S_alloc | apply Kd.S_drewN | apply Kd.S_drew)); exact ad.out) (Kd.R_typed (by (with_reducible repeat (first | apply kA | apply kN | apply kD)); exact am.out)) (by decide) hg)
                   replace a3 := aK (blk_grown (g := a5) (o := .cells #[.slice none 0 0, .slice none 0 0, .slice none 0 0, .int .i64 0, .slice none 0 0, .slice none 0 0, .slice none 0 0, .slice none 0 0, .int .i64 0] 29 (0, 0)) (by (with_reducible repeat (first | refine bN ?_ _ | refine bD ?_ | refine bA ?_ _)); exact a3.out) hg (Kd.R_ne am.out a3.out (by decide)))
                   replace a0 := aK (blk_grown (g := a2) (o := .cells #[af, ai, al, .int .i64 t315, .slice Ao64 t318.length co64, .slice Ao67 t323.length co67, au, ay, .int .i64 0] 29 (0, 0)) (by (with_reducible repeat (first | refine bN ?_ _ | refine bD ?_ | refine bA ?_ _)); exact a0.out) hg (Kd.R_ne am.out a0.out (by decide)))
                   replace a1 := aK (IsS101.grown (by repeat (first | (with_reducible first | exact a1.out | apply iA | apply iN | apply iD | refine iF ?_ a8.out _ | refine iF ?_ a7.out _) | exact a1.out)) hg (IsS101.own_ne a1.out am.out (by decide)))
                   replace HB := aK (hb)
                   have HO354 := aK (ho)
                   clear am ho hb hg hat
                   obtain ⟨Ao99, co99, eo99⟩ := Kd.R_slice HO354.out
                   (first | subst eo99 | (injection eo99 with f1_ f2_ f3_; have f4_ := f1_.symm; have f5_ := f3_.symm; clear f1_ f2_ f3_; subst f4_; subst f5_))
                   refine hK.out _ _ ⟨(bC a0.out 0).trans rfl, (bC a0.out 1).trans rfl, (bC a0.out 2).trans rfl, (bC a0.out 3).trans rfl, (bC a0.out 4).trans rfl, (bC a0.out 5).trans rfl, (bC a0.out 6).trans rfl, (bC a0.out 7).trans rfl, (bC a0.out 8).trans rfl⟩ (fun hHeld => ?_)
                   clear hK K
                   refine norm_ (a' := ?_) ?_ ?_
                   rotate_left
                   ·show Act.put _ (some 154) _ = _
                    simp only [Act.put, List.setIfInBounds_toArray, List.set_cons_zero, List.set_cons_succ, i64_w, i32_w]
                    rfl
                   refine pure_ (i := 8) (N := some 155) (v := ?_) (a' := ?_) #[true, true, true, true, true, true, true, true, true, false] rfl rfl (any_of HT_.out (by kernel_rfl)) (fun _ _ _ h => h) (Or.inl ⟨by rfl, ?_⟩) ?_ ?_
                   rotate_left
                   ·intro w'
                    go_simp
                    with_reducible rfl
                   rotate_left
                   ·simp only [Act.put, List.setIfInBounds_toArray, List.set_cons_zero, List.set_cons_succ, i64_w, i32_w]
                    rfl
                   refine last_ (i := 9) (N := none) #[true, true, true, true, true, true, true, true, true, true] rfl rfl (one_of HT_.out (by kernel_rfl)) (by decide) (fun K hK => ?_)
                   have hs100 : w98.cell? ⟨a2, 7, none⟩ = some (ay) := (bC a0.out 7).trans rfl; have hfs100 := bF a0.out 7; have hns100_0 := ao.out; have hms100_0 := az.out
                   refine skip_ (w1 := ?_) (by rfl) rfl ?_ ?_
                   rotate_left
                   ·go_simp
                    rfl
                   refine hK.out _ _ ?_
                   clear hK K
                   refine done_ (done_of HT_.out (by kernel_rfl)) ?_
                   try go_wp2
                   go_roundg k6
                   case measure => have := HJ1.out; have := HK2.out; have := HK3.out; have := HK4.out; have := HK5.out; have := HK6.out; omega
                   case rel => exact ⟨(wrap64 (x18_6 + 1)), (t350), (t351), (y352), (.slice Ao99 y352.length co99), (by first | rfl | (simp; done) | (simp [*]; done)), H', ⟨by have := HJ1.out; have := HK2.out; have := HK3.out; have := HK4.out; have := HK5.out; have := HK6.out; omega⟩, ⟨by (with_reducible repeat (first | apply kA | apply kN | apply kD)); exact kM (kF (p := ⟨a2, 7, none⟩) (kT a4.out a0.out (by decide)) (fun _ hk => hk.2) (.slice Ao99 y352.length co99)) (fun _ hk => trivial)⟩, ⟨by (with_reducible repeat (first | apply kA | apply kN | apply kD)); exact kM (kF (p := ⟨a2, 7, none⟩) (kT a6.out a0.out (by decide)) (fun _ hk => hk.2) (.slice Ao99 y352.length co99)) (fun _ hk => trivial)⟩, ⟨by (with_reducible repeat (first | apply kA | apply kN | apply kD)); exact kM (kF (p := ⟨a2, 7, none⟩) (kT aa.out a0.out (by decide)) (fun _ hk => hk.2) (.slice Ao99 y352.length co99)) (fun _ hk => trivial)⟩, ⟨by (with_reducible repeat (first | apply kA | apply kN | apply kD)); exact kM (kF (p := ⟨a2, 7, none⟩) (kT ag.out a0.out (by decide)) (fun _ hk => hk.2) (.slice Ao99 y352.length co99)) (fun _ hk => hk.1)⟩, ⟨by (with_reducible repeat (first | apply kA | apply kN | apply kD)); exact kM (kF (p := ⟨a2, 7, none⟩) (kT ah.out a0.out (by decide)) (fun _ hk => hk.2) (.slice Ao99 y352.length co99)) (fun _ hk => hk.1)⟩, ⟨by (with_reducible repeat (first | apply Kd.S_alloc | apply Kd.S_drewN | apply Kd.S_drew)); exact Kd.S_mono (Kd.S_far (p := ⟨a2, 7, none⟩) (Kd.S_types ad.out a0.out (by decide)) (fun _ hk => hk.2) (.slice Ao99 y352.length co99)) (fun _ hk => ⟨hk.1.1, hk.1.2⟩)⟩, ⟨by (with_reducible repeat (first | apply kA | apply kN | apply kD)); exact kM (kF (p := ⟨a2, 7, none⟩) (kT HO354.out a0.out (by decide)) (fun _ hk => hk.2) (.slice Ao99 y352.length co99)) (fun _ hk => trivial)⟩, ⟨by (with_reducible repeat (first | refine bN ?_ _ | refine bD ?_ | refine bA ?_ _)); refine blk_far ?_ ao.out _; (with_reducible repeat (first | refine bN ?_ _ | refine bD ?_ | refine bA ?_ _)); exact a3.out⟩, ⟨by (with_reducible repeat (first | refine bN ?_ _ | refine bD ?_ | refine bA ?_ _)); refine blk_put (cs := #[af, ai, al, .int .i64 t315, .slice Ao64 t318.length co64, .slice Ao67 t323.length co67, au, ay, .int .i64 0]) ?_ 7 _ rfl; (with_reducible repeat (first | refine bN ?_ _ | refine bD ?_ | refine bA ?_ _)); exact a0.out⟩, ⟨by repeat (first | (with_reducible first | exact a1.out | apply iA | apply iN | apply iD | refine iF ?_ a8.out _ | refine iF ?_ a7.out _) | exact a1.out)⟩, ⟨by repeat (first | (with_reducible first | exact HB.out | apply pA | apply pN | apply pD | refine pS ?_ (iG a1.out) | refine pS ?_ ak.out | refine pS ?_ ap.out) | exact HB.out)⟩⟩
                  ·rw [if_neg c91] at H
                   have c91b0 : decide (x18_6 < t343) = false := decide_eq_false c91; clear c91; replace H := Option.bind_eq_some_iff.mp H; obtain ⟨⟨t355, t356, t357⟩, A1010, H⟩ := H
                   replace H : (if t357 = true then (some (([] : List (S44)), ([] : List (S46)), ([] : List (S56)), 0, ([] : List Int), ([] : List Int), ([] : List (List Int)), ([] : List (S65)), 0, 5)) else (if t356 = (l0.length : Int) then ((signalboxref1_May.f k6 a9 ab ac t315 t318 t323 aj an t355).bind fun t358 => (if t358 = true then (some (a9, ab, ac, t315, t318, t323, aj, an, t355, 0)) else (some (([] : List (S44)), ([] : List (S46)), ([] : List (S56)), 0, ([] : List Int), ([] : List Int), ([] : List (List Int)), ([] : List (S65)), 0, 5)))) else (some (([] : List (S44)), ([] : List (S46)), ([] : List (S56)), 0, ([] : List Int), ([] : List Int), ([] : List (List Int)), ([] : List (S65)), 0, 5)))) = some (r1, r2, r3, r4, r5, r6, r7, r8, r9, r10) := H
                   have A101 := aK A1010; clear A1010
                   by_cases c102 : t357 = true
                   ·subst c102; have H1 : (some (([] : List (S44)), ([] : List (S46)), ([] : List (S56)), 0, ([] : List Int), ([] : List Int), ([] : List (List Int)), ([] : List (S65)), 0, 5)) = some (r1, r2, r3, r4, r5, r6, r7, r8, r9, r10) := by rw [if_pos rfl] at H; exact H
                    clear H; have H := H1; clear H1
                    simp only [Option.some.injEq, Prod.mk.injEq] at H
                    obtain ⟨rfl, rfl, rfl, rfl, rfl, rfl, rfl, rfl, rfl, rfl⟩ := H
                    go_wp2_with (first | ((with_reducible refine gate_callee (f := 57) rfl ?_); refine goesL_ (some 157) rfl rfl Try.func57 (by kernel_rfl) rfl #[.pointer (some ⟨ae, 0, none⟩), .int .i64 8] rfl (by (try simp only [List.map_toArray, List.map_cons, List.map_nil]); first | done | rfl | (simp only [List.length_drop, List.length_take]; rfl)) ?_; (with_reducible refine (signalboxref1_Cursor_num.calls k6 ae l0 av aw 8 t355 t356 true w _ ?side1 ?side2 A101.out).mono ?_); (case side1 => repeat (first | (with_reducible first | exact a1.out | apply iA | apply iN | apply iD | refine iF ?_ a8.out _ | refine iF ?_ a7.out _) | exact a1.out)); (case side2 => repeat (first | (with_reducible first | exact HB.out | apply pA | apply pN | apply pD | refine pS ?_ (iG a1.out) | refine pS ?_ ak.out | refine pS ?_ ap.out) | exact HB.out)); rintro e w103 ⟨rfl, hi, hb, hk⟩; refine ⟨_, rfl, ?_⟩; have hI : IsS101 w _ ae l0 av aw := iS_of hk (by repeat (first | (with_reducible first | exact a1.out | apply iA | apply iN | apply iD | refine iF ?_ a8.out _ | refine iF ?_ a7.out _) | exact a1.out)); replace a4 := aK (kM (kK (iP hI (by (with_reducible repeat (first | apply kA | apply kN | apply kD)); exact a4.out) (by decide)) hk (fun _ h => h.2)) (fun _ h => h.1)); replace a6 := aK (kM (kK (iP hI (by (with_reducible repeat (first | apply kA | apply kN | apply kD)); exact a6.out) (by decide)) hk (fun _ h => h.2)) (fun _ h => h.1)); replace aa := aK (kM (kK (iP hI (by (with_reducible repeat (first | apply kA | apply kN | apply kD)); exact aa.out) (by decide)) hk (fun _ h => h.2)) (fun _ h => h.1)); replace ag := aK (kM (kK (iP hI (by (with_reducible repeat (first | apply kA | apply kN | apply kD)); exact ag.out) (by decide)) hk (fun _ h => h.2)) (fun _ h => h.1)); replace ah := aK (kM (kK (iP hI (by (with_reducible repeat (first | apply kA | apply kN | apply kD)); exact ah.out) (by decide)) hk (fun _ h => h.2)) (fun _ h => h.1)); replace ad := aK (Kd.S_mono (Kd.S_keep (IsS101.apartS hI (by (with_reducible repeat (first | apply Kd.S_alloc | apply Kd.S_drewN | apply Kd.S_drew)); exact ad.out) (by decide)) hk (fun _ h => h.2)) (fun _ h => h.1)); replace am := aK (kM (kK (iP hI (by (with_reducible repeat (first | apply kA | apply kN | apply kD)); exact am.out) (by decide)) hk (fun _ h => h.2)) (fun _ h => h.1)); replace a3 := aK (kB hk (g' := a5) (o := .cells #[.slice none 0 0, .slice none 0 0, .slice none 0 0, .int .i64 0, .slice none 0 0, .slice none 0 0, .slice none 0 0, .slice none 0 0, .int .i64 0] 29 (0, 0)) (by (with_reducible repeat (first | refine bN ?_ _ | refine bD ?_ | refine bA ?_ _)); exact a3.out) ar.out (by simp)); replace a0 := aK (kB hk (g' := a2) (o := .cells #[af, ai, al, .int .i64 t315, .slice Ao64 t318.length co64, .slice Ao67 t323.length co67, au, ay, .int .i64 0] 29 (0, 0)) (by (with_reducible repeat (first | refine bN ?_ _ | refine bD ?_ | refine bA ?_ _)); exact a0.out) aq.out (by simp)); replace HB := aK (hb); replace a1 := aK (hi); clear hb hk hi; have hnb104 := az.out; have hnc104 := ao.out; have hnb105 := aq.out; have hnc105 := a7.out; have hcz106_0 : w103.cell? ⟨a2, 0, none⟩ = some (af) := (bC a0.out 0).trans rfl; have hcz106_1 : w103.cell? ⟨a2, 1, none⟩ = some (ai) := (bC a0.out 1).trans rfl; have hcz106_2 : w103.cell? ⟨a2, 2, none⟩ = some (al) := (bC a0.out 2).trans rfl; have hcz106_3 : w103.cell? ⟨a2, 3, none⟩ = some (.int .i64 t315) := (bC a0.out 3).trans rfl; have hcz106_4 : w103.cell? ⟨a2, 4, none⟩ = some (.slice Ao64 t318.length co64) := (bC a0.out 4).trans rfl; have hcz106_5 : w103.cell? ⟨a2, 5, none⟩ = some (.slice Ao67 t323.length co67) := (bC a0.out 5).trans rfl; have hcz106_6 : w103.cell? ⟨a2, 6, none⟩ = some (au) := (bC a0.out 6).trans rfl; have hcz106_7 : w103.cell? ⟨a2, 7, none⟩ = some (ay) := (bC a0.out 7).trans rfl; have hcz106_8 : w103.cell? ⟨a2, 8, none⟩ = some (.int .i64 0) := (bC a0.out 8).trans rfl; have hfz106_0 := bF a0.out 0; have hfz106_1 := bF a0.out 1; have hfz106_2 := bF a0.out 2; have hfz106_3 := bF a0.out 3; have hfz106_4 := bF a0.out 4; have hfz106_5 := bF a0.out 5; have hfz106_6 := bF a0.out 6; have hfz106_7 := bF a0.out 7; have hfz106_8 := bF a0.out 8; obtain ⟨ASz107_0, cSz107_0, HGz107, hgz107, HSz107_0⟩ := a1.out; have hcz107_0 := cellS101_0 HGz107; have hcz107_1 := cellS101_1 HGz107; have hcz107_2 := cellS101_2 HGz107; have hfz107_1 := bF HGz107 1; have hfz107_2 := bF HGz107 2; clear HGz107 hgz107; have hnb108 := ar.out; have hnc108 := a8.out; have hcz109_0 : w103.cell? ⟨a5, 0, none⟩ = some (.slice none 0 0) := (bC a3.out 0).trans rfl; have hcz109_1 : w103.cell? ⟨a5, 1, none⟩ = some (.slice none 0 0) := (bC a3.out 1).trans rfl; have hcz109_2 : w103.cell? ⟨a5, 2, none⟩ = some (.slice none 0 0) := (bC a3.out 2).trans rfl; have hcz109_3 : w103.cell? ⟨a5, 3, none⟩ = some (.int .i64 0) := (bC a3.out 3).trans rfl; have hcz109_4 : w103.cell? ⟨a5, 4, none⟩ = some (.slice none 0 0) := (bC a3.out 4).trans rfl; have hcz109_5 : w103.cell? ⟨a5, 5, none⟩ = some (.slice none 0 0) := (bC a3.out 5).trans rfl; have hcz109_6 : w103.cell? ⟨a5, 6, none⟩ = some (.slice none 0 0) := (bC a3.out 6).trans rfl; have hcz109_7 : w103.cell? ⟨a5, 7, none⟩ = some (.slice none 0 0) := (bC a3.out 7).trans rfl; have hcz109_8 : w103.cell? ⟨a5, 8, none⟩ = some (.int .i64 0) := (bC a3.out 8).trans rfl; have hfz109_0 := bF a3.out 0; have hfz109_1 := bF a3.out 1; have hfz109_2 := bF a3.out 2; have hfz109_3 := bF a3.out 3; have hfz109_4 := bF a3.out 4; have hfz109_5 := bF a3.out 5; have hfz109_6 := bF a3.out 6; have hfz109_7 := bF a3.out 7; have hfz109_8 := bF a3.out 8; clear hI))
                    refine bodyPost_ret (results_ct rfl _ _ a5 29 #[.slice none 0 0, .slice none 0 0, .slice none 0 0, .int .i64 0, .slice none 0 0, .slice none 0 0, .slice none 0 0, .slice none 0 0, .int .i64 0] (0, 0) _ rfl (by (with_reducible repeat (first | refine bN ?_ _ | refine bD ?_ | refine bA ?_ _)); refine blk_put (cs := #[.slice none 0 0, .slice none 0 0, .slice none 0 0, .int .i64 0, .slice none 0 0, .slice none 0 0, .slice none 0 0, .slice none 0 0, .int .i64 0]) ?_ 8 _ rfl; (with_reducible repeat (first | refine bN ?_ _ | refine bD ?_ | refine bA ?_ _)); refine blk_put (cs := #[.slice none 0 0, .slice none 0 0, .slice none 0 0, .int .i64 0, .slice none 0 0, .slice none 0 0, .slice none 0 0, .slice none 0 0, .int .i64 0]) ?_ 7 _ rfl; (with_reducible repeat (first | refine bN ?_ _ | refine bD ?_ | refine bA ?_ _)); refine blk_put (cs := #[.slice none 0 0, .slice none 0 0, .slice none 0 0, .int .i64 0, .slice none 0 0, .slice none 0 0, .slice none 0 0, .slice none 0 0, .int .i64 0]) ?_ 6 _ rfl; (with_reducible repeat (first | refine bN ?_ _ | refine bD ?_ | refine bA ?_ _)); refine blk_put (cs := #[.slice none 0 0, .slice none 0 0, .slice none 0 0, .int .i64 0, .slice none 0 0, .slice none 0 0, .slice none 0 0, .slice none 0 0, .int .i64 0]) ?_ 5 _ rfl; (with_reducible repeat (first | refine bN ?_ _ | refine bD ?_ | refine bA ?_ _)); refine blk_put (cs := #[.slice none 0 0, .slice none 0 0, .slice none 0 0, .int .i64 0, .slice none 0 0, .slice none 0 0, .slice none 0 0, .slice none 0 0, .int .i64 0]) ?_ 4 _ rfl; (with_reducible repeat (first | refine bN ?_ _ | refine bD ?_ | refine bA ?_ _)); refine blk_put (cs := #[.slice none 0 0, .slice none 0 0, .slice none 0 0, .int .i64 0, .slice none 0 0, .slice none 0 0, .slice none 0 0, .slice none 0 0, .int .i64 0]) ?_ 3 _ rfl; (with_reducible repeat (first | refine bN ?_ _ | refine bD ?_ | refine bA ?_ _)); refine blk_put (cs := #[.slice none 0 0, .slice none 0 0, .slice none 0 0, .int .i64 0, .slice none 0 0, .slice none 0 0, .slice none 0 0, .slice none 0 0, .int .i64 0]) ?_ 2 _ rfl; (with_reducible repeat (first | refine bN ?_ _ | refine bD ?_ | refine bA ?_ _)); refine blk_put (cs := #[.slice none 0 0, .slice none 0 0, .slice none 0 0, .int .i64 0, .slice none 0 0, .slice none 0 0, .slice none 0 0, .slice none 0 0, .int .i64 0]) ?_ 1 _ rfl; (with_reducible repeat (first | refine bN ?_ _ | refine bD ?_ | refine bA ?_ _)); refine blk_put (cs := #[.slice none 0 0, .slice none 0 0, .slice none 0 0, .int .i64 0, .slice none 0 0, .slice none 0 0, .slice none 0 0, .slice none 0 0, .int .i64 0]) ?_ 0 _ rfl; (with_reducible repeat (first | refine bN ?_ _ | refine bD ?_ | refine bA ?_ _)); refine blk_far ?_ ao.out _; (with_reducible repeat (first | refine bN ?_ _ | refine bD ?_ | refine bA ?_ _)); exact a3.out) Try.underlying29 rfl (by kernel_rfl)) rfl ?_
                    exact ⟨_, _, _, _, _, _, _, by first | rfl | (simp [errW_none, errW_some] <;> rfl) | (simp [*, errW_none, errW_some] <;> rfl), by first | exact Kd.R_nil _ _ _ _ _ | exact Kd.N_nil _ _ _ _ _ | exact Kd.V_nil _ _ _ _ _ | exact Kd.Q_nil _ _ _ _ _ | exact Kd.S_nil _ _ _ _ _, by first | exact Kd.R_nil _ _ _ _ _ | exact Kd.N_nil _ _ _ _ _ | exact Kd.V_nil _ _ _ _ _ | exact Kd.Q_nil _ _ _ _ _ | exact Kd.S_nil _ _ _ _ _, by first | exact Kd.R_nil _ _ _ _ _ | exact Kd.N_nil _ _ _ _ _ | exact Kd.V_nil _ _ _ _ _ | exact Kd.Q_nil _ _ _ _ _ | exact Kd.S_nil _ _ _ _ _, by first | exact Kd.R_nil _ _ _ _ _ | exact Kd.N_nil _ _ _ _ _ | exact Kd.V_nil _ _ _ _ _ | exact Kd.Q_nil _ _ _ _ _ | exact Kd.S_nil _ _ _ _ _, by first | exact Kd.R_nil _ _ _ _ _ | exact Kd.N_nil _ _ _ _ _ | exact Kd.V_nil _ _ _ _ _ | exact Kd.Q_nil _ _ _ _ _ | exact Kd.S_nil _ _ _ _ _, by first | exact Kd.S_nil _ _ _ _ _ | exact Kd.N_nil _ _ _ _ _ | exact Kd.V_nil _ _ _ _ _ | exact Kd.Q_nil _ _ _ _ _ | exact Kd.R_nil _ _ _ _ _, by first | exact Kd.R_nil _ _ _ _ _ | exact Kd.N_nil _ _ _ _ _ | exact Kd.V_nil _ _ _ _ _ | exact Kd.Q_nil _ _ _ _ _ | exact Kd.S_nil _ _ _ _ _, by repeat (first | (with_reducible first | exact HB.out | apply pA | apply pN | apply pD | refine pS ?_ (iG a1.out) | refine pS ?_ ak.out | refine pS ?_ ap.out) | exact HB.out)⟩
                   ·replace c102 := Bool.eq_false_iff.mpr c102; subst c102; have H1 : (if t356 = (l0.length : Int) then ((signalboxref1_May.f k6 a9 ab ac t315 t318 t323 aj an t355).bind fun t358 => (if t358 = true then (some (a9, ab, ac, t315, t318, t323, aj, an, t355, 0)) else (some (([] : List (S44)), ([] : List (S46)), ([] : List (S56)), 0, ([] : List Int), ([] : List Int), ([] : List (List Int)), ([] : List (S65)), 0, 5)))) else (some (([] : List (S44)), ([] : List (S46)), ([] : List (S56)), 0, ([] : List Int), ([] : List Int), ([] : List (List Int)), ([] : List (S65)), 0, 5))) = some (r1, r2, r3, r4, r5, r6, r7, r8, r9, r10) := by rw [if_neg (show ¬ (false = true) by decide)] at H; exact H
                    clear H; have H := H1; clear H1
                    by_cases c110 : t356 = (l0.length : Int)
                    ·rw [if_pos c110] at H
                     have c110b0 : (t356 == (l0.length : Int)) = true := beq_iff_eq.mpr c110; have c110b1 : (t356 != (l0.length : Int)) = false := bne_eq_false_iff_eq.mpr c110; clear c110; replace H := Option.bind_eq_some_iff.mp H; obtain ⟨t358, A1110, H⟩ := H
                     replace H : (if t358 = true then (some (a9, ab, ac, t315, t318, t323, aj, an, t355, 0)) else (some (([] : List (S44)), ([] : List (S46)), ([] : List (S56)), 0, ([] : List Int), ([] : List Int), ([] : List (List Int)), ([] : List (S65)), 0, 5))) = some (r1, r2, r3, r4, r5, r6, r7, r8, r9, r10) := H
                     have A111 := aK A1110; clear A1110
                     by_cases c112 : t358 = true
                     ·subst c112; have H1 : (some (a9, ab, ac, t315, t318, t323, aj, an, t355, 0)) = some (r1, r2, r3, r4, r5, r6, r7, r8, r9, r10) := by rw [if_pos rfl] at H; exact H
                      clear H; have H := H1; clear H1
                      simp only [Option.some.injEq, Prod.mk.injEq] at H
                      obtain ⟨rfl, rfl, rfl, rfl, rfl, rfl, rfl, rfl, rfl, rfl⟩ := H
                      go_wp2_with (first | ((with_reducible refine gate_callee (f := 57) rfl ?_); refine goesL_ (some 157) rfl rfl Try.func57 (by kernel_rfl) rfl #[.pointer (some ⟨ae, 0, none⟩), .int .i64 8] rfl (by (try simp only [List.map_toArray, List.map_cons, List.map_nil]); first | done | rfl | (simp only [List.length_drop, List.length_take]; rfl)) ?_; (with_reducible refine (signalboxref1_Cursor_num.calls k6 ae l0 av aw 8 t355 t356 false w _ ?side1 ?side2 A101.out).mono ?_); (case side1 => repeat (first | (with_reducible first | exact a1.out | apply iA | apply iN | apply iD | refine iF ?_ a8.out _ | refine iF ?_ a7.out _) | exact a1.out)); (case side2 => repeat (first | (with_reducible first | exact HB.out | apply pA | apply pN | apply pD | refine pS ?_ (iG a1.out) | refine pS ?_ ak.out | refine pS ?_ ap.out) | exact HB.out)); rintro e w113 ⟨rfl, hi, hb, hk⟩; refine ⟨_, rfl, ?_⟩; have hI : IsS101 w _ ae l0 av aw := iS_of hk (by repeat (first | (with_reducible first | exact a1.out | apply iA | apply iN | apply iD | refine iF ?_ a8.out _ | refine iF ?_ a7.out _) | exact a1.out)); replace a4 := aK (kM (kK (iP hI (by (with_reducible repeat (first | apply kA | apply kN | apply kD)); exact a4.out) (by decide)) hk (fun _ h => h.2)) (fun _ h => h.1)); replace a6 := aK (kM (kK (iP hI (by (with_reducible repeat (first | apply kA | apply kN | apply kD)); exact a6.out) (by decide)) hk (fun _ h => h.2)) (fun _ h => h.1)); replace aa := aK (kM (kK (iP hI (by (with_reducible repeat (first | apply kA | apply kN | apply kD)); exact aa.out) (by decide)) hk (fun _ h => h.2)) (fun _ h => h.1)); replace ag := aK (kM (kK (iP hI (by (with_reducible repeat (first | apply kA | apply kN | apply kD)); exact ag.out) (by decide)) hk (fun _ h => h.2)) (fun _ h => h.1)); replace ah := aK (kM (kK (iP hI (by (with_reducible repeat (first | apply kA | apply kN | apply kD)); exact ah.out) (by decide)) hk (fun _ h => h.2)) (fun _ h => h.1)); replace ad := aK (Kd.S_mono (Kd.S_keep (IsS101.apartS hI (by (with_reducible repeat (first | apply Kd.S_alloc | apply Kd.S_drewN | apply Kd.S_drew)); exact ad.out) (by decide)) hk (fun _ h => h.2)) (fun _ h => h.1)); replace am := aK (kM (kK (iP hI (by (with_reducible repeat (first | apply kA | apply kN | apply kD)); exact am.out) (by decide)) hk (fun _ h => h.2)) (fun _ h => h.1)); replace a3 := aK (kB hk (g' := a5) (o := .cells #[.slice none 0 0, .slice none 0 0, .slice none 0 0, .int .i64 0, .slice none 0 0, .slice none 0 0, .slice none 0 0, .slice none 0 0, .int .i64 0] 29 (0, 0)) (by (with_reducible repeat (first | refine bN ?_ _ | refine bD ?_ | refine bA ?_ _)); exact a3.out) ar.out (by simp)); replace a0 := aK (kB hk (g' := a2) (o := .cells #[af, ai, al, .int .i64 t315, .slice Ao64 t318.length co64, .slice Ao67 t323.length co67, au, ay, .int .i64 0] 29 (0, 0)) (by (with_reducible repeat (first | refine bN ?_ _ | refine bD ?_ | refine bA ?_ _)); exact a0.out) aq.out (by simp)); replace HB := aK (hb); replace a1 := aK (hi); clear hb hk hi; have hnb114 := az.out; have hnc114 := ao.out; have hnb115 := aq.out; have hnc115 := a7.out; have hcz116_0 : w113.cell? ⟨a2, 0, none⟩ = some (af) := (bC a0.out 0).trans rfl; have hcz116_1 : w113.cell? ⟨a2, 1, none⟩ = some (ai) := (bC a0.out 1).trans rfl; have hcz116_2 : w113.cell? ⟨a2, 2, none⟩ = some (al) := (bC a0.out 2).trans rfl; have hcz116_3 : w113.cell? ⟨a2, 3, none⟩ = some (.int .i64 t315) := (bC a0.out 3).trans rfl; have hcz116_4 : w113.cell? ⟨a2, 4, none⟩ = some (.slice Ao64 t318.length co64) := (bC a0.out 4).trans rfl; have hcz116_5 : w113.cell? ⟨a2, 5, none⟩ = some (.slice Ao67 t323.length co67) := (bC a0.out 5).trans rfl; have hcz116_6 : w113.cell? ⟨a2, 6, none⟩ = some (au) := (bC a0.out 6).trans rfl; have hcz116_7 : w113.cell? ⟨a2, 7, none⟩ = some (ay) := (bC a0.out 7).trans rfl; have hcz116_8 : w113.cell? ⟨a2, 8, none⟩ = some (.int .i64 0) := (bC a0.out 8).trans rfl; have hfz116_0 := bF a0.out 0; have hfz116_1 := bF a0.out 1; have hfz116_2 := bF a0.out 2; have hfz116_3 := bF a0.out 3; have hfz116_4 := bF a0.out 4; have hfz116_5 := bF a0.out 5; have hfz116_6 := bF a0.out 6; have hfz116_7 := bF a0.out 7; have hfz116_8 := bF a0.out 8; obtain ⟨ASz117_0, cSz117_0, HGz117, hgz117, HSz117_0⟩ := a1.out; have hcz117_0 := cellS101_0 HGz117; have hcz117_1 := cellS101_1 HGz117; have hcz117_2 := cellS101_2 HGz117; have hfz117_1 := bF HGz117 1; have hfz117_2 := bF HGz117 2; clear HGz117 hgz117; obtain ⟨Ao118, co118, eo118⟩ := Kd.R_slice a4.out; subst eo118; obtain ⟨Ao119, co119, eo119⟩ := Kd.R_slice a6.out; subst eo119; obtain ⟨Ao120, co120, eo120⟩ := Kd.R_slice aa.out; subst eo120; obtain ⟨Ao121, co121, eo121⟩ := Kd.S_slice ad.out; subst eo121; obtain ⟨Ao122, co122, eo122⟩ := Kd.R_slice am.out; subst eo122; clear hI) | (go_at_call 13; (with_reducible refine (signalboxref1_May.calls k6 _ _ a9 _ _ ab _ _ ac t315 _ _ t318 _ _ t323 _ _ aj _ _ an t355 true _ ?side1 ?side2 ?side3 ?side4 ?side5 ?side6 ?side7 ?side8 ?side9 ?side10 ?side11 ?side12 ?side13 ?side14 A111.out).mono ?_); (case side1 => refine (Kd.R_reads' (e := 44) (base := w.heap.size) (ok := fun k_ => True) (n := a9.length) (c := co118) ?_).2.2; exact (by (with_reducible repeat (first | apply kA | apply kN | apply kD)); exact (kM (kF (p := ⟨a2, 8, none⟩) (kT a4.out a0.out (by decide)) (fun _ hk => hk.2) (.int .i64 t355)) (fun _ h_ => h_.1)))); (case side2 => exact (Kd.R_reads' a4.out).2.1); (case side3 => refine (Kd.R_reads' (e := 46) (base := w.heap.size) (ok := fun k_ => True) (n := ab.length) (c := co119) ?_).2.2; exact (by (with_reducible repeat (first | apply kA | apply kN | apply kD)); exact (kM (kF (p := ⟨a2, 8, none⟩) (kT a6.out a0.out (by decide)) (fun _ hk => hk.2) (.int .i64 t355)) (fun _ h_ => h_.1)))); (case side4 => exact (Kd.R_reads' a6.out).2.1); (case side5 => refine (Kd.R_reads' (e := 56) (base := w.heap.size) (ok := fun k_ => True) (n := ac.length) (c := co120) ?_).2.2; exact (by (with_reducible repeat (first | apply kA | apply kN | apply kD)); exact (kM (kF (p := ⟨a2, 8, none⟩) (kT aa.out a0.out (by decide)) (fun _ hk => hk.2) (.int .i64 t355)) (fun _ h_ => h_.1)))); (case side6 => exact (Kd.R_reads' aa.out).2.1); (case side7 => refine (Kd.R_reads' (e := 3) (base := w.heap.size) (ok := fun k_ => some k_ ≠ (.slice Ao67 t323.length co67 : Value).ownBlock) (n := t318.length) (c := co64) ?_).2.2; exact (by (with_reducible repeat (first | apply kA | apply kN | apply kD)); exact (kM (kF (p := ⟨a2, 8, none⟩) (kT ag.out a0.out (by decide)) (fun _ hk => hk.2) (.int .i64 t355)) (fun _ h_ => h_.1)))); (case side8 => exact (Kd.R_reads' ag.out).2.1); (case side9 => refine (Kd.R_reads' (e := 3) (base := w.heap.size) (ok := fun k_ => some k_ ≠ (.slice Ao64 t318.length co64 : Value).ownBlock) (n := t323.length) (c := co67) ?_).2.2; exact (by (with_reducible repeat (first | apply kA | apply kN | apply kD)); exact (kM (kF (p := ⟨a2, 8, none⟩) (kT ah.out a0.out (by decide)) (fun _ hk => hk.2) (.int .i64 t355)) (fun _ h_ => h_.1)))); (case side10 => exact (Kd.R_reads' ah.out).2.1); (case side11 => refine (Kd.S_reads' (e := 25) (base := w.heap.size) (ok := fun k_ => (some k_ ≠ (.slice Ao64 t318.length co64 : Value).ownBlock ∧ some k_ ≠ (.slice Ao67 t323.length co67 : Value).ownBlock)) (n := aj.length) (c := co121) ?_).2.2; exact (by (with_reducible repeat (first | apply Kd.S_alloc | apply Kd.S_drewN | apply Kd.S_drew)); exact (Kd.S_mono (Kd.S_far (p := ⟨a2, 8, none⟩) (Kd.S_types ad.out a0.out (by decide)) (fun _ hk => hk.2) (.int .i64 t355)) (fun _ h_ => h_.1)))); (case side12 => exact (Kd.S_reads' ad.out).2.1); (case side13 => refine (Kd.R_reads' (e := 65) (base := w.heap.size) (ok := fun k_ => True) (n := an.length) (c := co122) ?_).2.2; exact (by (with_reducible repeat (first | apply kA | apply kN | apply kD)); exact (kM (kF (p := ⟨a2, 8, none⟩) (kT am.out a0.out (by decide)) (fun _ hk => hk.2) (.int .i64 t355)) (fun _ h_ => h_.1)))); (case side14 => exact (Kd.R_reads' am.out).2.1); rintro e w123 ⟨rfl, hb⟩; replace a4 := aK (Kd.R_below (by (with_reducible repeat (first | apply kA | apply kN | apply kD)); exact (kM (kF (p := ⟨a2, 8, none⟩) (kT a4.out a0.out (by decide)) (fun _ hk => hk.2) (.int .i64 t355)) (fun _ h_ => h_.1))) hb); replace a6 := aK (Kd.R_below (by (with_reducible repeat (first | apply kA | apply kN | apply kD)); exact (kM (kF (p := ⟨a2, 8, none⟩) (kT a6.out a0.out (by decide)) (fun _ hk => hk.2) (.int .i64 t355)) (fun _ h_ => h_.1))) hb); replace aa := aK (Kd.R_below (by (with_reducible repeat (first | apply kA | apply kN | apply kD)); exact (kM (kF (p := ⟨a2, 8, none⟩) (kT aa.out a0.out (by decide)) (fun _ hk => hk.2) (.int .i64 t355)) (fun _ h_ => h_.1))) hb); replace ag := aK (Kd.R_below (by (with_reducible repeat (first | apply kA | apply kN | apply kD)); exact (kM (kF (p := ⟨a2, 8, none⟩) (kT ag.out a0.out (by decide)) (fun _ hk => hk.2) (.int .i64 t355)) (fun _ h_ => h_.1))) hb); replace ah := aK (Kd.R_below (by (with_reducible repeat (first | apply kA | apply kN | apply kD)); exact (kM (kF (p := ⟨a2, 8, none⟩) (kT ah.out a0.out (by decide)) (fun _ hk => hk.2) (.int .i64 t355)) (fun _ h_ => h_.1))) hb); replace ad := aK (Kd.S_below (by (with_reducible repeat (first | apply Kd.S_alloc | apply Kd.S_drewN | apply Kd.S_drew)); exact (Kd.S_mono (Kd.S_far (p := ⟨a2, 8, none⟩) (Kd.S_types ad.out a0.out (by decide)) (fun _ hk => hk.2) (.int .i64 t355)) (fun _ h_ => h_.1))) hb); replace am := aK (Kd.R_below (by (with_reducible repeat (first | apply kA | apply kN | apply kD)); exact (kM (kF (p := ⟨a2, 8, none⟩) (kT am.out a0.out (by decide)) (fun _ hk => hk.2) (.int .i64 t355)) (fun _ h_ => h_.1))) hb); replace a3 := aK (blk_below (g := a5) (o := .cells #[.slice none 0 0, .slice none 0 0, .slice none 0 0, .int .i64 0, .slice none 0 0, .slice none 0 0, .slice none 0 0, .slice none 0 0, .int .i64 0] 29 (0, 0)) (by (with_reducible repeat (first | refine bN ?_ _ | refine bD ?_ | refine bA ?_ _)); refine blk_far ?_ ao.out _; (with_reducible repeat (first | refine bN ?_ _ | refine bD ?_ | refine bA ?_ _)); exact a3.out) hb); replace a0 := aK (blk_below (g := a2) (o := .cells #[.slice Ao118 a9.length co118, .slice Ao119 ab.length co119, .slice Ao120 ac.length co120, .int .i64 t315, .slice Ao64 t318.length co64, .slice Ao67 t323.length co67, .slice Ao121 aj.length co121, .slice Ao122 an.length co122, .int .i64 t355] 29 (0, 0)) (by (with_reducible repeat (first | refine bN ?_ _ | refine bD ?_ | refine bA ?_ _)); refine blk_put (cs := #[.slice Ao118 a9.length co118, .slice Ao119 ab.length co119, .slice Ao120 ac.length co120, .int .i64 t315, .slice Ao64 t318.length co64, .slice Ao67 t323.length co67, .slice Ao121 aj.length co121, .slice Ao122 an.length co122, .int .i64 0]) ?_ 8 _ rfl; (with_reducible repeat (first | refine bN ?_ _ | refine bD ?_ | refine bA ?_ _)); exact a0.out) hb); replace HB := aK (below_step (by repeat (first | (with_reducible first | exact HB.out | apply pA | apply pN | apply pD | refine pS ?_ (iG a1.out) | refine pS ?_ ak.out | refine pS ?_ ap.out) | exact HB.out)) hb); replace a1 := aK (IsS101.below (show IsS101 w (w113.setCell ⟨a2, 8, none⟩ (.int .i64 t355)) ae l0 t356 false from by repeat (first | (with_reducible first | exact a1.out | apply iA | apply iN | apply iD | refine iF ?_ a8.out _ | refine iF ?_ a7.out _) | exact a1.out)) hb); (try clear hb); (try clear hb2); (try clear hk); (try clear hi); have hcz124_0 : w123.cell? ⟨a2, 0, none⟩ = some (.slice Ao118 a9.length co118) := (bC a0.out 0).trans rfl; have hcz124_1 : w123.cell? ⟨a2, 1, none⟩ = some (.slice Ao119 ab.length co119) := (bC a0.out 1).trans rfl; have hcz124_2 : w123.cell? ⟨a2, 2, none⟩ = some (.slice Ao120 ac.length co120) := (bC a0.out 2).trans rfl; have hcz124_3 : w123.cell? ⟨a2, 3, none⟩ = some (.int .i64 t315) := (bC a0.out 3).trans rfl; have hcz124_4 : w123.cell? ⟨a2, 4, none⟩ = some (.slice Ao64 t318.length co64) := (bC a0.out 4).trans rfl; have hcz124_5 : w123.cell? ⟨a2, 5, none⟩ = some (.slice Ao67 t323.length co67) := (bC a0.out 5).trans rfl; have hcz124_6 : w123.cell? ⟨a2, 6, none⟩ = some (.slice Ao121 aj.length co121) := (bC a0.out 6).trans rfl; have hcz124_7 : w123.cell? ⟨a2, 7, none⟩ = some (.slice Ao122 an.length co122) := (bC a0.out 7).trans rfl; have hcz124_8 : w123.cell? ⟨a2, 8, none⟩ = some (.int .i64 t355) := (bC a0.out 8).trans rfl; have hfz124_0 := bF a0.out 0; have hfz124_1 := bF a0.out 1; have hfz124_2 := bF a0.out 2; have hfz124_3 := bF a0.out 3; have hfz124_4 := bF a0.out 4; have hfz124_5 := bF a0.out 5; have hfz124_6 := bF a0.out 6; have hfz124_7 := bF a0.out 7; have hfz124_8 := bF a0.out 8; have hnb125 := ar.out; have hnc125 := a8.out; have hcz126_0 : w123.cell? ⟨a5, 0, none⟩ = some (.slice none 0 0) := (bC a3.out 0).trans rfl; have hcz126_1 : w123.cell? ⟨a5, 1, none⟩ = some (.slice none 0 0) := (bC a3.out 1).trans rfl; have hcz126_2 : w123.cell? ⟨a5, 2, none⟩ = some (.slice none 0 0) := (bC a3.out 2).trans rfl; have hcz126_3 : w123.cell? ⟨a5, 3, none⟩ = some (.int .i64 0) := (bC a3.out 3).trans rfl; have hcz126_4 : w123.cell? ⟨a5, 4, none⟩ = some (.slice none 0 0) := (bC a3.out 4).trans rfl; have hcz126_5 : w123.cell? ⟨a5, 5, none⟩ = some (.slice none 0 0) := (bC a3.out 5).trans rfl; have hcz126_6 : w123.cell? ⟨a5, 6, none⟩ = some (.slice none 0 0) := (bC a3.out 6).trans rfl; have hcz126_7 : w123.cell? ⟨a5, 7, none⟩ = some (.slice none 0 0) := (bC a3.out 7).trans rfl; have hcz126_8 : w123.cell? ⟨a5, 8, none⟩ = some (.int .i64 0) := (bC a3.out 8).trans rfl; have hfz126_0 := bF a3.out 0; have hfz126_1 := bF a3.out 1; have hfz126_2 := bF a3.out 2; have hfz126_3 := bF a3.out 3; have hfz126_4 := bF a3.out 4; have hfz126_5 := bF a3.out 5; have hfz126_6 := bF a3.out 6; have hfz126_7 := bF a3.out 7; have hfz126_8 := bF a3.out 8))
                      refine bodyPost_ret (results_ct rfl _ _ a5 29 #[.slice Ao118 a9.length co118, .slice Ao119 ab.length co119, .slice Ao120 ac.length co120, .int .i64 t315, .slice Ao64 t318.length co64, .slice Ao67 t323.length co67, .slice Ao121 aj.length co121, .slice Ao122 an.length co122, .int .i64 t355] (0, 0) _ rfl (by (with_reducible repeat (first | refine bN ?_ _ | refine bD ?_ | refine bA ?_ _)); refine blk_put (cs := #[.slice Ao118 a9.length co118, .slice Ao119 ab.length co119, .slice Ao120 ac.length co120, .int .i64 t315, .slice Ao64 t318.length co64, .slice Ao67 t323.length co67, .slice Ao121 aj.length co121, .slice Ao122 an.length co122, .int .i64 0]) ?_ 8 _ rfl; (with_reducible repeat (first | refine bN ?_ _ | refine bD ?_ | refine bA ?_ _)); refine blk_put (cs := #[.slice Ao118 a9.length co118, .slice Ao119 ab.length co119, .slice Ao120 ac.length co120, .int .i64 t315, .slice Ao64 t318.length co64, .slice Ao67 t323.length co67, .slice Ao121 aj.length co121, .slice none 0 0, .int .i64 0]) ?_ 7 _ rfl; (with_reducible repeat (first | refine bN ?_ _ | refine bD ?_ | refine bA ?_ _)); refine blk_put (cs := #[.slice Ao118 a9.length co118, .slice Ao119 ab.length co119, .slice Ao120 ac.length co120, .int .i64 t315, .slice Ao64 t318.length co64, .slice Ao67 t323.length co67, .slice none 0 0, .slice none 0 0, .int .i64 0]) ?_ 6 _ rfl; (with_reducible repeat (first | refine bN ?_ _ | refine bD ?_ | refine bA ?_ _)); refine blk_put (cs := #[.slice Ao118 a9.length co118, .slice Ao119 ab.length co119, .slice Ao120 ac.length co120, .int .i64 t315, .slice Ao64 t318.length co64, .slice none 0 0, .slice none 0 0, .slice none 0 0, .int .i64 0]) ?_ 5 _ rfl; (with_reducible repeat (first | refine bN ?_ _ | refine bD ?_ | refine bA ?_ _)); refine blk_put (cs := #[.slice Ao118 a9.length co118, .slice Ao119 ab.length co119, .slice Ao120 ac.length co120, .int .i64 t315, .slice none 0 0, .slice none 0 0, .slice none 0 0, .slice none 0 0, .int .i64 0]) ?_ 4 _ rfl; (with_reducible repeat (first | refine bN ?_ _ | refine bD ?_ | refine bA ?_ _)); refine blk_put (cs := #[.slice Ao118 a9.length co118, .slice Ao119 ab.length co119, .slice Ao120 ac.length co120, .int .i64 0, .slice none 0 0, .slice none 0 0, .slice none 0 0, .slice none 0 0, .int .i64 0]) ?_ 3 _ rfl; (with_reducible repeat (first | refine bN ?_ _ | refine bD ?_ | refine bA ?_ _)); refine blk_put (cs := #[.slice Ao118 a9.length co118, .slice Ao119 ab.length co119, .slice none 0 0, .int .i64 0, .slice none 0 0, .slice none 0 0, .slice none 0 0, .slice none 0 0, .int .i64 0]) ?_ 2 _ rfl; (with_reducible repeat (first | refine bN ?_ _ | refine bD ?_ | refine bA ?_ _)); refine blk_put (cs := #[.slice Ao118 a9.length co118, .slice none 0 0, .slice none 0 0, .int .i64 0, .slice none 0 0, .slice none 0 0, .slice none 0 0, .slice none 0 0, .int .i64 0]) ?_ 1 _ rfl; (with_reducible repeat (first | refine bN ?_ _ | refine bD ?_ | refine bA ?_ _)); refine blk_put (cs := #[.slice none 0 0, .slice none 0 0, .slice none 0 0, .int .i64 0, .slice none 0 0, .slice none 0 0, .slice none 0 0, .slice none 0 0, .int .i64 0]) ?_ 0 _ rfl; (with_reducible repeat (first | refine bN ?_ _ | refine bD ?_ | refine bA ?_ _)); exact a3.out) Try.underlying29 rfl (by kernel_rfl)) rfl ?_
                      exact ⟨_, _, _, _, _, _, _, by first | rfl | (simp [errW_none, errW_some] <;> rfl) | (simp [*, errW_none, errW_some] <;> rfl), by (with_reducible repeat (first | apply kA | apply kN | apply kD)); exact kM (kF (p := ⟨a5, 8, none⟩) (kF (p := ⟨a5, 7, none⟩) (kF (p := ⟨a5, 6, none⟩) (kF (p := ⟨a5, 5, none⟩) (kF (p := ⟨a5, 4, none⟩) (kF (p := ⟨a5, 3, none⟩) (kF (p := ⟨a5, 2, none⟩) (kF (p := ⟨a5, 1, none⟩) (kF (p := ⟨a5, 0, none⟩) (kT a4.out a3.out (by decide)) (fun _ hk => hk.2) (.slice Ao118 a9.length co118)) (fun _ hk => hk.2) (.slice Ao119 ab.length co119)) (fun _ hk => hk.2) (.slice Ao120 ac.length co120)) (fun _ hk => hk.2) (.int .i64 t315)) (fun _ hk => hk.2) (.slice Ao64 t318.length co64)) (fun _ hk => hk.2) (.slice Ao67 t323.length co67)) (fun _ hk => hk.2) (.slice Ao121 aj.length co121)) (fun _ hk => hk.2) (.slice Ao122 an.length co122)) (fun _ hk => hk.2) (.int .i64 t355)) (fun _ hk => trivial), by (with_reducible repeat (first | apply kA | apply kN | apply kD)); exact kM (kF (p := ⟨a5, 8, none⟩) (kF (p := ⟨a5, 7, none⟩) (kF (p := ⟨a5, 6, none⟩) (kF (p := ⟨a5, 5, none⟩) (kF (p := ⟨a5, 4, none⟩) (kF (p := ⟨a5, 3, none⟩) (kF (p := ⟨a5, 2, none⟩) (kF (p := ⟨a5, 1, none⟩) (kF (p := ⟨a5, 0, none⟩) (kT a6.out a3.out (by decide)) (fun _ hk => hk.2) (.slice Ao118 a9.length co118)) (fun _ hk => hk.2) (.slice Ao119 ab.length co119)) (fun _ hk => hk.2) (.slice Ao120 ac.length co120)) (fun _ hk => hk.2) (.int .i64 t315)) (fun _ hk => hk.2) (.slice Ao64 t318.length co64)) (fun _ hk => hk.2) (.slice Ao67 t323.length co67)) (fun _ hk => hk.2) (.slice Ao121 aj.length co121)) (fun _ hk => hk.2) (.slice Ao122 an.length co122)) (fun _ hk => hk.2) (.int .i64 t355)) (fun _ hk => trivial), by (with_reducible repeat (first | apply kA | apply kN | apply kD)); exact kM (kF (p := ⟨a5, 8, none⟩) (kF (p := ⟨a5, 7, none⟩) (kF (p := ⟨a5, 6, none⟩) (kF (p := ⟨a5, 5, none⟩) (kF (p := ⟨a5, 4, none⟩) (kF (p := ⟨a5, 3, none⟩) (kF (p := ⟨a5, 2, none⟩) (kF (p := ⟨a5, 1, none⟩) (kF (p := ⟨a5, 0, none⟩) (kT aa.out a3.out (by decide)) (fun _ hk => hk.2) (.slice Ao118 a9.length co118)) (fun _ hk => hk.2) (.slice Ao119 ab.length co119)) (fun _ hk => hk.2) (.slice Ao120 ac.length co120)) (fun _ hk => hk.2) (.int .i64 t315)) (fun _ hk => hk.2) (.slice Ao64 t318.length co64)) (fun _ hk => hk.2) (.slice Ao67 t323.length co67)) (fun _ hk => hk.2) (.slice Ao121 aj.length co121)) (fun _ hk => hk.2) (.slice Ao122 an.length co122)) (fun _ hk => hk.2) (.int .i64 t355)) (fun _ hk => trivial), by (with_reducible repeat (first | apply kA | apply kN | apply kD)); exact kM (kF (p := ⟨a5, 8, none⟩) (kF (p := ⟨a5, 7, none⟩) (kF (p := ⟨a5, 6, none⟩) (kF (p := ⟨a5, 5, none⟩) (kF (p := ⟨a5, 4, none⟩) (kF (p := ⟨a5, 3, none⟩) (kF (p := ⟨a5, 2, none⟩) (kF (p := ⟨a5, 1, none⟩) (kF (p := ⟨a5, 0, none⟩) (kT ag.out a3.out (by decide)) (fun _ hk => hk.2) (.slice Ao118 a9.length co118)) (fun _ hk => hk.2) (.slice Ao119 ab.length co119)) (fun _ hk => hk.2) (.slice Ao120 ac.length co120)) (fun _ hk => hk.2) (.int .i64 t315)) (fun _ hk => hk.2) (.slice Ao64 t318.length co64)) (fun _ hk => hk.2) (.slice Ao67 t323.length co67)) (fun _ hk => hk.2) (.slice Ao121 aj.length co121)) (fun _ hk => hk.2) (.slice Ao122 an.length co122)) (fun _ hk => hk.2) (.int .i64 t355)) (fun _ hk => hk.1), by (with_reducible repeat (first | apply kA | apply kN | apply kD)); exact kM (kF (p := ⟨a5, 8, none⟩) (kF (p := ⟨a5, 7, none⟩) (kF (p := ⟨a5, 6, none⟩) (kF (p := ⟨a5, 5, none⟩) (kF (p := ⟨a5, 4, none⟩) (kF (p := ⟨a5, 3, none⟩) (kF (p := ⟨a5, 2, none⟩) (kF (p := ⟨a5, 1, none⟩) (kF (p := ⟨a5, 0, none⟩) (kT ah.out a3.out (by decide)) (fun _ hk => hk.2) (.slice Ao118 a9.length co118)) (fun _ hk => hk.2) (.slice Ao119 ab.length co119)) (fun _ hk => hk.2) (.slice Ao120 ac.length co120)) (fun _ hk => hk.2) (.int .i64 t315)) (fun _ hk => hk.2) (.slice Ao64 t318.length co64)) (fun _ hk => hk.2) (.slice Ao67 t323.length co67)) (fun _ hk => hk.2) (.slice Ao121 aj.length co121)) (fun _ hk => hk.2) (.slice Ao122 an.length co122)) (fun _ hk => hk.2) (.int .i64 t355)) (fun _ hk => hk.1), by (with_reducible repeat (first | apply Kd.S_alloc | apply Kd.S_drewN | apply Kd.S_drew)); exact Kd.S_mono (Kd.S_far (p := ⟨a5, 8, none⟩) (Kd.S_far (p := ⟨a5, 7, none⟩) (Kd.S_far (p := ⟨a5, 6, none⟩) (Kd.S_far (p := ⟨a5, 5, none⟩) (Kd.S_far (p := ⟨a5, 4, none⟩) (Kd.S_far (p := ⟨a5, 3, none⟩) (Kd.S_far (p := ⟨a5, 2, none⟩) (Kd.S_far (p := ⟨a5, 1, none⟩) (Kd.S_far (p := ⟨a5, 0, none⟩) (Kd.S_types ad.out a3.out (by decide)) (fun _ hk => hk.2) (.slice Ao118 a9.length co118)) (fun _ hk => hk.2) (.slice Ao119 ab.length co119)) (fun _ hk => hk.2) (.slice Ao120 ac.length co120)) (fun _ hk => hk.2) (.int .i64 t315)) (fun _ hk => hk.2) (.slice Ao64 t318.length co64)) (fun _ hk => hk.2) (.slice Ao67 t323.length co67)) (fun _ hk => hk.2) (.slice Ao121 aj.length co121)) (fun _ hk => hk.2) (.slice Ao122 an.length co122)) (fun _ hk => hk.2) (.int .i64 t355)) (fun _ hk => ⟨hk.1.1, hk.1.2⟩), by (with_reducible repeat (first | apply kA | apply kN | apply kD)); exact kM (kF (p := ⟨a5, 8, none⟩) (kF (p := ⟨a5, 7, none⟩) (kF (p := ⟨a5, 6, none⟩) (kF (p := ⟨a5, 5, none⟩) (kF (p := ⟨a5, 4, none⟩) (kF (p := ⟨a5, 3, none⟩) (kF (p := ⟨a5, 2, none⟩) (kF (p := ⟨a5, 1, none⟩) (kF (p := ⟨a5, 0, none⟩) (kT am.out a3.out (by decide)) (fun _ hk => hk.2) (.slice Ao118 a9.length co118)) (fun _ hk => hk.2) (.slice Ao119 ab.length co119)) (fun _ hk => hk.2) (.slice Ao120 ac.length co120)) (fun _ hk => hk.2) (.int .i64 t315)) (fun _ hk => hk.2) (.slice Ao64 t318.length co64)) (fun _ hk => hk.2) (.slice Ao67 t323.length co67)) (fun _ hk => hk.2) (.slice Ao121 aj.length co121)) (fun _ hk => hk.2) (.slice Ao122 an.length co122)) (fun _ hk => hk.2) (.int .i64 t355)) (fun _ hk => trivial), by repeat (first | (with_reducible first | exact HB.out | apply pA | apply pN | apply pD | refine pS ?_ (iG a1.out) | refine pS ?_ ak.out | refine pS ?_ ap.out) | exact HB.out)⟩
                     ·replace c112 := Bool.eq_false_iff.mpr c112; subst c112; have H1 : (some (([] : List (S44)), ([] : List (S46)), ([] : List (S56)), 0, ([] : List Int), ([] : List Int), ([] : List (List Int)), ([] : List (S65)), 0, 5)) = some (r1, r2, r3, r4, r5, r6, r7, r8, r9, r10) := by rw [if_neg (show ¬ (false = true) by decide)] at H; exact H
                      clear H; have H := H1; clear H1
                      simp only [Option.some.injEq, Prod.mk.injEq] at H
                      obtain ⟨rfl, rfl, rfl, rfl, rfl, rfl, rfl, rfl, rfl, rfl⟩ := H
                      go_wp2_with (first | ((with_reducible refine gate_callee (f := 57) rfl ?_); refine goesL_ (some 157) rfl rfl Try.func57 (by kernel_rfl) rfl #[.pointer (some ⟨ae, 0, none⟩), .int .i64 8] rfl (by (try simp only [List.map_toArray, List.map_cons, List.map_nil]); first | done | rfl | (simp only [List.length_drop, List.length_take]; rfl)) ?_; (with_reducible refine (signalboxref1_Cursor_num.calls k6 ae l0 av aw 8 t355 t356 false w _ ?side1 ?side2 A101.out).mono ?_); (case side1 => repeat (first | (with_reducible first | exact a1.out | apply iA | apply iN | apply iD | refine iF ?_ a8.out _ | refine iF ?_ a7.out _) | exact a1.out)); (case side2 => repeat (first | (with_reducible first | exact HB.out | apply pA | apply pN | apply pD | refine pS ?_ (iG a1.out) | refine pS ?_ ak.out | refine pS ?_ ap.out) | exact HB.out)); rintro e w127 ⟨rfl, hi, hb, hk⟩; refine ⟨_, rfl, ?_⟩; have hI : IsS101 w _ ae l0 av aw := iS_of hk (by repeat (first | (with_reducible first | exact a1.out | apply iA | apply iN | apply iD | refine iF ?_ a8.out _ | refine iF ?_ a7.out _) | exact a1.out)); replace a4 := aK (kM (kK (iP hI (by (with_reducible repeat (first | apply kA | apply kN | apply kD)); exact a4.out) (by decide)) hk (fun _ h => h.2)) (fun _ h => h.1)); replace a6 := aK (kM (kK (iP hI (by (with_reducible repeat (first | apply kA | apply kN | apply kD)); exact a6.out) (by decide)) hk (fun _ h => h.2)) (fun _ h => h.1)); replace aa := aK (kM (kK (iP hI (by (with_reducible repeat (first | apply kA | apply kN | apply kD)); exact aa.out) (by decide)) hk (fun _ h => h.2)) (fun _ h => h.1)); replace ag := aK (kM (kK (iP hI (by (with_reducible repeat (first | apply kA | apply kN | apply kD)); exact ag.out) (by decide)) hk (fun _ h => h.2)) (fun _ h => h.1)); replace ah := aK (kM (kK (iP hI (by (with_reducible repeat (first | apply kA | apply kN | apply kD)); exact ah.out) (by decide)) hk (fun _ h => h.2)) (fun _ h => h.1)); replace ad := aK (Kd.S_mono (Kd.S_keep (IsS101.apartS hI (by (with_reducible repeat (first | apply Kd.S_alloc | apply Kd.S_drewN | apply Kd.S_drew)); exact ad.out) (by decide)) hk (fun _ h => h.2)) (fun _ h => h.1)); replace am := aK (kM (kK (iP hI (by (with_reducible repeat (first | apply kA | apply kN | apply kD)); exact am.out) (by decide)) hk (fun _ h => h.2)) (fun _ h => h.1)); replace a3 := aK (kB hk (g' := a5) (o := .cells #[.slice none 0 0, .slice none 0 0, .slice none 0 0, .int .i64 0, .slice none 0 0, .slice none 0 0, .slice none 0 0, .slice none 0 0, .int .i64 0] 29 (0, 0)) (by (with_reducible repeat (first | refine bN ?_ _ | refine bD ?_ | refine bA ?_ _)); exact a3.out) ar.out (by simp)); replace a0 := aK (kB hk (g' := a2) (o := .cells #[af, ai, al, .int .i64 t315, .slice Ao64 t318.length co64, .slice Ao67 t323.length co67, au, ay, .int .i64 0] 29 (0, 0)) (by (with_reducible repeat (first | refine bN ?_ _ | refine bD ?_ | refine bA ?_ _)); exact a0.out) aq.out (by simp)); replace HB := aK (hb); replace a1 := aK (hi); clear hb hk hi; have hnb128 := az.out; have hnc128 := ao.out; have hnb129 := aq.out; have hnc129 := a7.out; have hcz130_0 : w127.cell? ⟨a2, 0, none⟩ = some (af) := (bC a0.out 0).trans rfl; have hcz130_1 : w127.cell? ⟨a2, 1, none⟩ = some (ai) := (bC a0.out 1).trans rfl; have hcz130_2 : w127.cell? ⟨a2, 2, none⟩ = some (al) := (bC a0.out 2).trans rfl; have hcz130_3 : w127.cell? ⟨a2, 3, none⟩ = some (.int .i64 t315) := (bC a0.out 3).trans rfl; have hcz130_4 : w127.cell? ⟨a2, 4, none⟩ = some (.slice Ao64 t318.length co64) := (bC a0.out 4).trans rfl; have hcz130_5 : w127.cell? ⟨a2, 5, none⟩ = some (.slice Ao67 t323.length co67) := (bC a0.out 5).trans rfl; have hcz130_6 : w127.cell? ⟨a2, 6, none⟩ = some (au) := (bC a0.out 6).trans rfl; have hcz130_7 : w127.cell? ⟨a2, 7, none⟩ = some (ay) := (bC a0.out 7).trans rfl; have hcz130_8 : w127.cell? ⟨a2, 8, none⟩ = some (.int .i64 0) := (bC a0.out 8).trans rfl; have hfz130_0 := bF a0.out 0; have hfz130_1 := bF a0.out 1; have hfz130_2 := bF a0.out 2; have hfz130_3 := bF a0.out 3; have hfz130_4 := bF a0.out 4; have hfz130_5 := bF a0.out 5; have hfz130_6 := bF a0.out 6; have hfz130_7 := bF a0.out 7; have hfz130_8 := bF a0.out 8; obtain ⟨ASz131_0, cSz131_0, HGz131, hgz131, HSz131_0⟩ := a1.out; have hcz131_0 := cellS101_0 HGz131; have hcz131_1 := cellS101_1 HGz131; have hcz131_2 := cellS101_2 HGz131; have hfz131_1 := bF HGz131 1; have hfz131_2 := bF HGz131 2; clear HGz131 hgz131; obtain ⟨Ao132, co132, eo132⟩ := Kd.R_slice a4.out; subst eo132; obtain ⟨Ao133, co133, eo133⟩ := Kd.R_slice a6.out; subst eo133; obtain ⟨Ao134, co134, eo134⟩ := Kd.R_slice aa.out; subst eo134; obtain ⟨Ao135, co135, eo135⟩ := Kd.S_slice ad.out; subst eo135; obtain ⟨Ao136, co136, eo136⟩ := Kd.R_slice am.out; subst eo136; clear hI) | (go_at_call 13; (with_reducible refine (signalboxref1_May.calls k6 _ _ a9 _ _ ab _ _ ac t315 _ _ t318 _ _ t323 _ _ aj _ _ an t355 false _ ?side1 ?side2 ?side3 ?side4 ?side5 ?side6 ?side7 ?side8 ?side9 ?side10 ?side11 ?side12 ?side13 ?side14 A111.out).mono ?_); (case side1 => refine (Kd.R_reads' (e := 44) (base := w.heap.size) (ok := fun k_ => True) (n := a9.length) (c := co132) ?_).2.2; exact (by (with_reducible repeat (first | apply kA | apply kN | apply kD)); exact (kM (kF (p := ⟨a2, 8, none⟩) (kT a4.out a0.out (by decide)) (fun _ hk => hk.2) (.int .i64 t355)) (fun _ h_ => h_.1)))); (case side2 => exact (Kd.R_reads' a4.out).2.1); (case side3 => refine (Kd.R_reads' (e := 46) (base := w.heap.size) (ok := fun k_ => True) (n := ab.length) (c := co133) ?_).2.2; exact (by (with_reducible repeat (first | apply kA | apply kN | apply kD)); exact (kM (kF (p := ⟨a2, 8, none⟩) (kT a6.out a0.out (by decide)) (fun _ hk => hk.2) (.int .i64 t355)) (fun _ h_ => h_.1)))); (case side4 => exact (Kd.R_reads' a6.out).2.1); (case side5 => refine (Kd.R_reads' (e := 56) (base := w.heap.size) (ok := fun k_ => True) (n := ac.length) (c := co134) ?_).2.2; exact (by (with_reducible repeat (first | apply kA | apply kN | apply kD)); exact (kM (kF (p := ⟨a2, 8, none⟩) (kT aa.out a0.out (by decide)) (fun _ hk => hk.2) (.int .i64 t355)) (fun _ h_ => h_.1)))); (case side6 => exact (Kd.R_reads' aa.out).2.1); (case side7 => refine (Kd.R_reads' (e := 3) (base := w.heap.size) (ok := fun k_ => some k_ ≠ (.slice Ao67 t323.length co67 : Value).ownBlock) (n := t318.length) (c := co64) ?_).2.2; exact (by (with_reducible repeat (first | apply kA | apply kN | apply kD)); exact (kM (kF (p := ⟨a2, 8, none⟩) (kT ag.out a0.out (by decide)) (fun _ hk => hk.2) (.int .i64 t355)) (fun _ h_ => h_.1)))); (case side8 => exact (Kd.R_reads' ag.out).2.1); (case side9 => refine (Kd.R_reads' (e := 3) (base := w.heap.size) (ok := fun k_ => some k_ ≠ (.slice Ao64 t318.length co64 : Value).ownBlock) (n := t323.length) (c := co67) ?_).2.2; exact (by (with_reducible repeat (first | apply kA | apply kN | apply kD)); exact (kM (kF (p := ⟨a2, 8, none⟩) (kT ah.out a0.out (by decide)) (fun _ hk => hk.2) (.int .i64 t355)) (fun _ h_ => h_.1)))); (case side10 => exact (Kd.R_reads' ah.out).2.1); (case side11 => refine (Kd.S_reads' (e := 25) (base := w.heap.size) (ok := fun k_ => (some k_ ≠ (.slice Ao64 t318.length co64 : Value).ownBlock ∧ some k_ ≠ (.slice Ao67 t323.length co67 : Value).ownBlock)) (n := aj.length) (c := co135) ?_).2.2; exact (by (with_reducible repeat (first | apply Kd.S_alloc | apply Kd.S_drewN | apply Kd.S_drew)); exact (Kd.S_mono (Kd.S_far (p := ⟨a2, 8, none⟩) (Kd.S_types ad.out a0.out (by decide)) (fun _ hk => hk.2) (.int .i64 t355)) (fun _ h_ => h_.1)))); (case side12 => exact (Kd.S_reads' ad.out).2.1); (case side13 => refine (Kd.R_reads' (e := 65) (base := w.heap.size) (ok := fun k_ => True) (n := an.length) (c := co136) ?_).2.2; exact (by (with_reducible repeat (first | apply kA | apply kN | apply kD)); exact (kM (kF (p := ⟨a2, 8, none⟩) (kT am.out a0.out (by decide)) (fun _ hk => hk.2) (.int .i64 t355)) (fun _ h_ => h_.1)))); (case side14 => exact (Kd.R_reads' am.out).2.1); rintro e w137 ⟨rfl, hb⟩; replace a4 := aK (Kd.R_below (by (with_reducible repeat (first | apply kA | apply kN | apply kD)); exact (kM (kF (p := ⟨a2, 8, none⟩) (kT a4.out a0.out (by decide)) (fun _ hk => hk.2) (.int .i64 t355)) (fun _ h_ => h_.1))) hb); replace a6 := aK (Kd.R_below (by (with_reducible repeat (first | apply kA | apply kN | apply kD)); exact (kM (kF (p := ⟨a2, 8, none⟩) (kT a6.out a0.out (by decide)) (fun _ hk => hk.2) (.int .i64 t355)) (fun _ h_ => h_.1))) hb); replace aa := aK (Kd.R_below (by (with_reducible repeat (first | apply kA | apply kN | apply kD)); exact (kM (kF (p := ⟨a2, 8, none⟩) (kT aa.out a0.out (by decide)) (fun _ hk => hk.2) (.int .i64 t355)) (fun _ h_ => h_.1))) hb); replace ag := aK (Kd.R_below (by (with_reducible repeat (first | apply kA | apply kN | apply kD)); exact (kM (kF (p := ⟨a2, 8, none⟩) (kT ag.out a0.out (by decide)) (fun _ hk => hk.2) (.int .i64 t355)) (fun _ h_ => h_.1))) hb); replace ah := aK (Kd.R_below (by (with_reducible repeat (first | apply kA | apply kN | apply kD)); exact (kM (kF (p := ⟨a2, 8, none⟩) (kT ah.out a0.out (by decide)) (fun _ hk => hk.2) (.int .i64 t355)) (fun _ h_ => h_.1))) hb); replace ad := aK (Kd.S_below (by (with_reducible repeat (first | apply Kd.S_alloc | apply Kd.S_drewN | apply Kd.S_drew)); exact (Kd.S_mono (Kd.S_far (p := ⟨a2, 8, none⟩) (Kd.S_types ad.out a0.out (by decide)) (fun _ hk => hk.2) (.int .i64 t355)) (fun _ h_ => h_.1))) hb); replace am := aK (Kd.R_below (by (with_reducible repeat (first | apply kA | apply kN | apply kD)); exact (kM (kF (p := ⟨a2, 8, none⟩) (kT am.out a0.out (by decide)) (fun _ hk => hk.2) (.int .i64 t355)) (fun _ h_ => h_.1))) hb); replace a3 := aK (blk_below (g := a5) (o := .cells #[.slice none 0 0, .slice none 0 0, .slice none 0 0, .int .i64 0, .slice none 0 0, .slice none 0 0, .slice none 0 0, .slice none 0 0, .int .i64 0] 29 (0, 0)) (by (with_reducible repeat (first | refine bN ?_ _ | refine bD ?_ | refine bA ?_ _)); refine blk_far ?_ ao.out _; (with_reducible repeat (first | refine bN ?_ _ | refine bD ?_ | refine bA ?_ _)); exact a3.out) hb); replace a0 := aK (blk_below (g := a2) (o := .cells #[.slice Ao132 a9.length co132, .slice Ao133 ab.length co133, .slice Ao134 ac.length co134, .int .i64 t315, .slice Ao64 t318.length co64, .slice Ao67 t323.length co67, .slice Ao135 aj.length co135, .slice Ao136 an.length co136, .int .i64 t355] 29 (0, 0)) (by (with_reducible repeat (first | refine bN ?_ _ | refine bD ?_ | refine bA ?_ _)); refine blk_put (cs := #[.slice Ao132 a9.length co132, .slice Ao133 ab.length co133, .slice Ao134 ac.length co134, .int .i64 t315, .slice Ao64 t318.length co64, .slice Ao67 t323.length co67, .slice Ao135 aj.length co135, .slice Ao136 an.length co136, .int .i64 0]) ?_ 8 _ rfl; (with_reducible repeat (first | refine bN ?_ _ | refine bD ?_ | refine bA ?_ _)); exact a0.out) hb); replace HB := aK (below_step (by repeat (first | (with_reducible first | exact HB.out | apply pA | apply pN | apply pD | refine pS ?_ (iG a1.out) | refine pS ?_ ak.out | refine pS ?_ ap.out) | exact HB.out)) hb); replace a1 := aK (IsS101.below (show IsS101 w (w127.setCell ⟨a2, 8, none⟩ (.int .i64 t355)) ae l0 t356 false from by repeat (first | (with_reducible first | exact a1.out | apply iA | apply iN | apply iD | refine iF ?_ a8.out _ | refine iF ?_ a7.out _) | exact a1.out)) hb); (try clear hb); (try clear hb2); (try clear hk); (try clear hi); have hnb138 := ar.out; have hnc138 := a8.out; have hcz139_0 : w137.cell? ⟨a5, 0, none⟩ = some (.slice none 0 0) := (bC a3.out 0).trans rfl; have hcz139_1 : w137.cell? ⟨a5, 1, none⟩ = some (.slice none 0 0) := (bC a3.out 1).trans rfl; have hcz139_2 : w137.cell? ⟨a5, 2, none⟩ = some (.slice none 0 0) := (bC a3.out 2).trans rfl; have hcz139_3 : w137.cell? ⟨a5, 3, none⟩ = some (.int .i64 0) := (bC a3.out 3).trans rfl; have hcz139_4 : w137.cell? ⟨a5, 4, none⟩ = some (.slice none 0 0) := (bC a3.out 4).trans rfl; have hcz139_5 : w137.cell? ⟨a5, 5, none⟩ = some (.slice none 0 0) := (bC a3.out 5).trans rfl; have hcz139_6 : w137.cell? ⟨a5, 6, none⟩ = some (.slice none 0 0) := (bC a3.out 6).trans rfl; have hcz139_7 : w137.cell? ⟨a5, 7, none⟩ = some (.slice none 0 0) := (bC a3.out 7).trans rfl; have hcz139_8 : w137.cell? ⟨a5, 8, none⟩ = some (.int .i64 0) := (bC a3.out 8).trans rfl; have hfz139_0 := bF a3.out 0; have hfz139_1 := bF a3.out 1; have hfz139_2 := bF a3.out 2; have hfz139_3 := bF a3.out 3; have hfz139_4 := bF a3.out 4; have hfz139_5 := bF a3.out 5; have hfz139_6 := bF a3.out 6; have hfz139_7 := bF a3.out 7; have hfz139_8 := bF a3.out 8))
                      refine bodyPost_ret (results_ct rfl _ _ a5 29 #[.slice none 0 0, .slice none 0 0, .slice none 0 0, .int .i64 0, .slice none 0 0, .slice none 0 0, .slice none 0 0, .slice none 0 0, .int .i64 0] (0, 0) _ rfl (by (with_reducible repeat (first | refine bN ?_ _ | refine bD ?_ | refine bA ?_ _)); refine blk_put (cs := #[.slice none 0 0, .slice none 0 0, .slice none 0 0, .int .i64 0, .slice none 0 0, .slice none 0 0, .slice none 0 0, .slice none 0 0, .int .i64 0]) ?_ 8 _ rfl; (with_reducible repeat (first | refine bN ?_ _ | refine bD ?_ | refine bA ?_ _)); refine blk_put (cs := #[.slice none 0 0, .slice none 0 0, .slice none 0 0, .int .i64 0, .slice none 0 0, .slice none 0 0, .slice none 0 0, .slice none 0 0, .int .i64 0]) ?_ 7 _ rfl; (with_reducible repeat (first | refine bN ?_ _ | refine bD ?_ | refine bA ?_ _)); refine blk_put (cs := #[.slice none 0 0, .slice none 0 0, .slice none 0 0, .int .i64 0, .slice none 0 0, .slice none 0 0, .slice none 0 0, .slice none 0 0, .int .i64 0]) ?_ 6 _ rfl; (with_reducible repeat (first | refine bN ?_ _ | refine bD ?_ | refine bA ?_ _)); refine blk_put (cs := #[.slice none 0 0, .slice none 0 0, .slice none 0 0, .int .i64 0, .slice none 0 0, .slice none 0 0, .slice none 0 0, .slice none 0 0, .int .i64 0]) ?_ 5 _ rfl; (with_reducible repeat (first | refine bN ?_ _ | refine bD ?_ | refine bA ?_ _)); refine blk_put (cs := #[.slice none 0 0, .slice none 0 0, .slice none 0 0, .int .i64 0, .slice none 0 0, .slice none 0 0, .slice none 0 0, .slice none 0 0, .int .i64 0]) ?_ 4 _ rfl; (with_reducible repeat (first | refine bN ?_ _ | refine bD ?_ | refine bA ?_ _)); refine blk_put (cs := #[.slice none 0 0, .slice none 0 0, .slice none 0 0, .int .i64 0, .slice none 0 0, .slice none 0 0, .slice none 0 0, .slice none 0 0, .int .i64 0]) ?_ 3 _ rfl; (with_reducible repeat (first | refine bN ?_ _ | refine bD ?_ | refine bA ?_ _)); refine blk_put (cs := #[.slice none 0 0, .slice none 0 0, .slice none 0 0, .int .i64 0, .slice none 0 0, .slice none 0 0, .slice none 0 0, .slice none 0 0, .int .i64 0]) ?_ 2 _ rfl; (with_reducible repeat (first | refine bN ?_ _ | refine bD ?_ | refine bA ?_ _)); refine blk_put (cs := #[.slice none 0 0, .slice none 0 0, .slice none 0 0, .int .i64 0, .slice none 0 0, .slice none 0 0, .slice none 0 0, .slice none 0 0, .int .i64 0]) ?_ 1 _ rfl; (with_reducible repeat (first | refine bN ?_ _ | refine bD ?_ | refine bA ?_ _)); refine blk_put (cs := #[.slice none 0 0, .slice none 0 0, .slice none 0 0, .int .i64 0, .slice none 0 0, .slice none 0 0, .slice none 0 0, .slice none 0 0, .int .i64 0]) ?_ 0 _ rfl; (with_reducible repeat (first | refine bN ?_ _ | refine bD ?_ | refine bA ?_ _)); exact a3.out) Try.underlying29 rfl (by kernel_rfl)) rfl ?_
                      exact ⟨_, _, _, _, _, _, _, by first | rfl | (simp [errW_none, errW_some] <;> rfl) | (simp [*, errW_none, errW_some] <;> rfl), by first | exact Kd.R_nil _ _ _ _ _ | exact Kd.N_nil _ _ _ _ _ | exact Kd.V_nil _ _ _ _ _ | exact Kd.Q_nil _ _ _ _ _ | exact Kd.S_nil _ _ _ _ _, by first | exact Kd.R_nil _ _ _ _ _ | exact Kd.N_nil _ _ _ _ _ | exact Kd.V_nil _ _ _ _ _ | exact Kd.Q_nil _ _ _ _ _ | exact Kd.S_nil _ _ _ _ _, by first | exact Kd.R_nil _ _ _ _ _ | exact Kd.N_nil _ _ _ _ _ | exact Kd.V_nil _ _ _ _ _ | exact Kd.Q_nil _ _ _ _ _ | exact Kd.S_nil _ _ _ _ _, by first | exact Kd.R_nil _ _ _ _ _ | exact Kd.N_nil _ _ _ _ _ | exact Kd.V_nil _ _ _ _ _ | exact Kd.Q_nil _ _ _ _ _ | exact Kd.S_nil _ _ _ _ _, by first | exact Kd.R_nil _ _ _ _ _ | exact Kd.N_nil _ _ _ _ _ | exact Kd.V_nil _ _ _ _ _ | exact Kd.Q_nil _ _ _ _ _ | exact Kd.S_nil _ _ _ _ _, by first | exact Kd.S_nil _ _ _ _ _ | exact Kd.N_nil _ _ _ _ _ | exact Kd.V_nil _ _ _ _ _ | exact Kd.Q_nil _ _ _ _ _ | exact Kd.R_nil _ _ _ _ _, by first | exact Kd.R_nil _ _ _ _ _ | exact Kd.N_nil _ _ _ _ _ | exact Kd.V_nil _ _ _ _ _ | exact Kd.Q_nil _ _ _ _ _ | exact Kd.S_nil _ _ _ _ _, by repeat (first | (with_reducible first | exact HB.out | apply pA | apply pN | apply pD | refine pS ?_ (iG a1.out) | refine pS ?_ ak.out | refine pS ?_ ap.out) | exact HB.out)⟩
                    ·rw [if_neg c110] at H
                     have c110b0 : (t356 == (l0.length : Int)) = false := beq_eq_false_iff_ne.mpr c110; have c110b1 : (t356 != (l0.length : Int)) = true := bne_iff_ne.mpr c110
                     simp only [Option.some.injEq, Prod.mk.injEq] at H
                     obtain ⟨rfl, rfl, rfl, rfl, rfl, rfl, rfl, rfl, rfl, rfl⟩ := H
                     go_wp2_with (first | ((with_reducible refine gate_callee (f := 57) rfl ?_); refine goesL_ (some 157) rfl rfl Try.func57 (by kernel_rfl) rfl #[.pointer (some ⟨ae, 0, none⟩), .int .i64 8] rfl (by (try simp only [List.map_toArray, List.map_cons, List.map_nil]); first | done | rfl | (simp only [List.length_drop, List.length_take]; rfl)) ?_; (with_reducible refine (signalboxref1_Cursor_num.calls k6 ae l0 av aw 8 t355 t356 false w _ ?side1 ?side2 A101.out).mono ?_); (case side1 => repeat (first | (with_reducible first | exact a1.out | apply iA | apply iN | apply iD | refine iF ?_ a8.out _ | refine iF ?_ a7.out _) | exact a1.out)); (case side2 => repeat (first | (with_reducible first | exact HB.out | apply pA | apply pN | apply pD | refine pS ?_ (iG a1.out) | refine pS ?_ ak.out | refine pS ?_ ap.out) | exact HB.out)); rintro e w140 ⟨rfl, hi, hb, hk⟩; refine ⟨_, rfl, ?_⟩; have hI : IsS101 w _ ae l0 av aw := iS_of hk (by repeat (first | (with_reducible first | exact a1.out | apply iA | apply iN | apply iD | refine iF ?_ a8.out _ | refine iF ?_ a7.out _) | exact a1.out)); replace a4 := aK (kM (kK (iP hI (by (with_reducible repeat (first | apply kA | apply kN | apply kD)); exact a4.out) (by decide)) hk (fun _ h => h.2)) (fun _ h => h.1)); replace a6 := aK (kM (kK (iP hI (by (with_reducible repeat (first | apply kA | apply kN | apply kD)); exact a6.out) (by decide)) hk (fun _ h => h.2)) (fun _ h => h.1)); replace aa := aK (kM (kK (iP hI (by (with_reducible repeat (first | apply kA | apply kN | apply kD)); exact aa.out) (by decide)) hk (fun _ h => h.2)) (fun _ h => h.1)); replace ag := aK (kM (kK (iP hI (by (with_reducible repeat (first | apply kA | apply kN | apply kD)); exact ag.out) (by decide)) hk (fun _ h => h.2)) (fun _ h => h.1)); replace ah := aK (kM (kK (iP hI (by (with_reducible repeat (first | apply kA | apply kN | apply kD)); exact ah.out) (by decide)) hk (fun _ h => h.2)) (fun _ h => h.1)); replace ad := aK (Kd.S_mono (Kd.S_keep (IsS101.apartS hI (by (with_reducible repeat (first | apply Kd.S_alloc | apply Kd.S_drewN | apply Kd.S_drew)); exact ad.out) (by decide)) hk (fun _ h => h.2)) (fun _ h => h.1)); replace am := aK (kM (kK (iP hI (by (with_reducible repeat (first | apply kA | apply kN | apply kD)); exact am.out) (by decide)) hk (fun _ h => h.2)) (fun _ h => h.1)); replace a3 := aK (kB hk (g' := a5) (o := .cells #[.slice none 0 0, .slice none 0 0, .slice none 0 0, .int .i64 0, .slice none 0 0, .slice none 0 0, .slice none 0 0, .slice none 0 0, .int .i64 0] 29 (0, 0)) (by (with_reducible repeat (first | refine bN ?_ _ | refine bD ?_ | refine bA ?_ _)); exact a3.out) ar.out (by simp)); replace a0 := aK (kB hk (g' := a2) (o := .cells #[af, ai, al, .int .i64 t315, .slice Ao64 t318.length co64, .slice Ao67 t323.length co67, au, ay, .int .i64 0] 29 (0, 0)) (by (with_reducible repeat (first | refine bN ?_ _ | refine bD ?_ | refine bA ?_ _)); exact a0.out) aq.out (by simp)); replace HB := aK (hb); replace a1 := aK (hi); clear hb hk hi; have hnb141 := az.out; have hnc141 := ao.out; have hnb142 := aq.out; have hnc142 := a7.out; have hcz143_0 : w140.cell? ⟨a2, 0, none⟩ = some (af) := (bC a0.out 0).trans rfl; have hcz143_1 : w140.cell? ⟨a2, 1, none⟩ = some (ai) := (bC a0.out 1).trans rfl; have hcz143_2 : w140.cell? ⟨a2, 2, none⟩ = some (al) := (bC a0.out 2).trans rfl; have hcz143_3 : w140.cell? ⟨a2, 3, none⟩ = some (.int .i64 t315) := (bC a0.out 3).trans rfl; have hcz143_4 : w140.cell? ⟨a2, 4, none⟩ = some (.slice Ao64 t318.length co64) := (bC a0.out 4).trans rfl; have hcz143_5 : w140.cell? ⟨a2, 5, none⟩ = some (.slice Ao67 t323.length co67) := (bC a0.out 5).trans rfl; have hcz143_6 : w140.cell? ⟨a2, 6, none⟩ = some (au) := (bC a0.out 6).trans rfl; have hcz143_7 : w140.cell? ⟨a2, 7, none⟩ = some (ay) := (bC a0.out 7).trans rfl; have hcz143_8 : w140.cell? ⟨a2, 8, none⟩ = some (.int .i64 0) := (bC a0.out 8).trans rfl; have hfz143_0 := bF a0.out 0; have hfz143_1 := bF a0.out 1; have hfz143_2 := bF a0.out 2; have hfz143_3 := bF a0.out 3; have hfz143_4 := bF a0.out 4; have hfz143_5 := bF a0.out 5; have hfz143_6 := bF a0.out 6; have hfz143_7 := bF a0.out 7; have hfz143_8 := bF a0.out 8; obtain ⟨ASz144_0, cSz144_0, HGz144, hgz144, HSz144_0⟩ := a1.out; have hcz144_0 := cellS101_0 HGz144; have hcz144_1 := cellS101_1 HGz144; have hcz144_2 := cellS101_2 HGz144; have hfz144_1 := bF HGz144 1; have hfz144_2 := bF HGz144 2; clear HGz144 hgz144; have hnb145 := ar.out; have hnc145 := a8.out; have hcz146_0 : w140.cell? ⟨a5, 0, none⟩ = some (.slice none 0 0) := (bC a3.out 0).trans rfl; have hcz146_1 : w140.cell? ⟨a5, 1, none⟩ = some (.slice none 0 0) := (bC a3.out 1).trans rfl; have hcz146_2 : w140.cell? ⟨a5, 2, none⟩ = some (.slice none 0 0) := (bC a3.out 2).trans rfl; have hcz146_3 : w140.cell? ⟨a5, 3, none⟩ = some (.int .i64 0) := (bC a3.out 3).trans rfl; have hcz146_4 : w140.cell? ⟨a5, 4, none⟩ = some (.slice none 0 0) := (bC a3.out 4).trans rfl; have hcz146_5 : w140.cell? ⟨a5, 5, none⟩ = some (.slice none 0 0) := (bC a3.out 5).trans rfl; have hcz146_6 : w140.cell? ⟨a5, 6, none⟩ = some (.slice none 0 0) := (bC a3.out 6).trans rfl; have hcz146_7 : w140.cell? ⟨a5, 7, none⟩ = some (.slice none 0 0) := (bC a3.out 7).trans rfl; have hcz146_8 : w140.cell? ⟨a5, 8, none⟩ = some (.int .i64 0) := (bC a3.out 8).trans rfl; have hfz146_0 := bF a3.out 0; have hfz146_1 := bF a3.out 1; have hfz146_2 := bF a3.out 2; have hfz146_3 := bF a3.out 3; have hfz146_4 := bF a3.out 4; have hfz146_5 := bF a3.out 5; have hfz146_6 := bF a3.out 6; have hfz146_7 := bF a3.out 7; have hfz146_8 := bF a3.out 8; clear hI))
                     refine bodyPost_ret (results_ct rfl _ _ a5 29 #[.slice none 0 0, .slice none 0 0, .slice none 0 0, .int .i64 0, .slice none 0 0, .slice none 0 0, .slice none 0 0, .slice none 0 0, .int .i64 0] (0, 0) _ rfl (by (with_reducible repeat (first | refine bN ?_ _ | refine bD ?_ | refine bA ?_ _)); refine blk_put (cs := #[.slice none 0 0, .slice none 0 0, .slice none 0 0, .int .i64 0, .slice none 0 0, .slice none 0 0, .slice none 0 0, .slice none 0 0, .int .i64 0]) ?_ 8 _ rfl; (with_reducible repeat (first | refine bN ?_ _ | refine bD ?_ | refine bA ?_ _)); refine blk_put (cs := #[.slice none 0 0, .slice none 0 0, .slice none 0 0, .int .i64 0, .slice none 0 0, .slice none 0 0, .slice none 0 0, .slice none 0 0, .int .i64 0]) ?_ 7 _ rfl; (with_reducible repeat (first | refine bN ?_ _ | refine bD ?_ | refine bA ?_ _)); refine blk_put (cs := #[.slice none 0 0, .slice none 0 0, .slice none 0 0, .int .i64 0, .slice none 0 0, .slice none 0 0, .slice none 0 0, .slice none 0 0, .int .i64 0]) ?_ 6 _ rfl; (with_reducible repeat (first | refine bN ?_ _ | refine bD ?_ | refine bA ?_ _)); refine blk_put (cs := #[.slice none 0 0, .slice none 0 0, .slice none 0 0, .int .i64 0, .slice none 0 0, .slice none 0 0, .slice none 0 0, .slice none 0 0, .int .i64 0]) ?_ 5 _ rfl; (with_reducible repeat (first | refine bN ?_ _ | refine bD ?_ | refine bA ?_ _)); refine blk_put (cs := #[.slice none 0 0, .slice none 0 0, .slice none 0 0, .int .i64 0, .slice none 0 0, .slice none 0 0, .slice none 0 0, .slice none 0 0, .int .i64 0]) ?_ 4 _ rfl; (with_reducible repeat (first | refine bN ?_ _ | refine bD ?_ | refine bA ?_ _)); refine blk_put (cs := #[.slice none 0 0, .slice none 0 0, .slice none 0 0, .int .i64 0, .slice none 0 0, .slice none 0 0, .slice none 0 0, .slice none 0 0, .int .i64 0]) ?_ 3 _ rfl; (with_reducible repeat (first | refine bN ?_ _ | refine bD ?_ | refine bA ?_ _)); refine blk_put (cs := #[.slice none 0 0, .slice none 0 0, .slice none 0 0, .int .i64 0, .slice none 0 0, .slice none 0 0, .slice none 0 0, .slice none 0 0, .int .i64 0]) ?_ 2 _ rfl; (with_reducible repeat (first | refine bN ?_ _ | refine bD ?_ | refine bA ?_ _)); refine blk_put (cs := #[.slice none 0 0, .slice none 0 0, .slice none 0 0, .int .i64 0, .slice none 0 0, .slice none 0 0, .slice none 0 0, .slice none 0 0, .int .i64 0]) ?_ 1 _ rfl; (with_reducible repeat (first | refine bN ?_ _ | refine bD ?_ | refine bA ?_ _)); refine blk_put (cs := #[.slice none 0 0, .slice none 0 0, .slice none 0 0, .int .i64 0, .slice none 0 0, .slice none 0 0, .slice none 0 0, .slice none 0 0, .int .i64 0]) ?_ 0 _ rfl; (with_reducible repeat (first | refine bN ?_ _ | refine bD ?_ | refine bA ?_ _)); refine blk_far ?_ ao.out _; (with_reducible repeat (first | refine bN ?_ _ | refine bD ?_ | refine bA ?_ _)); exact a3.out) Try.underlying29 rfl (by kernel_rfl)) rfl ?_
                     exact ⟨_, _, _, _, _, _, _, by first | rfl | (simp [errW_none, errW_some] <;> rfl) | (simp [*, errW_none, errW_some] <;> rfl), by first | exact Kd.R_nil _ _ _ _ _ | exact Kd.N_nil _ _ _ _ _ | exact Kd.V_nil _ _ _ _ _ | exact Kd.Q_nil _ _ _ _ _ | exact Kd.S_nil _ _ _ _ _, by first | exact Kd.R_nil _ _ _ _ _ | exact Kd.N_nil _ _ _ _ _ | exact Kd.V_nil _ _ _ _ _ | exact Kd.Q_nil _ _ _ _ _ | exact Kd.S_nil _ _ _ _ _, by first | exact Kd.R_nil _ _ _ _ _ | exact Kd.N_nil _ _ _ _ _ | exact Kd.V_nil _ _ _ _ _ | exact Kd.Q_nil _ _ _ _ _ | exact Kd.S_nil _ _ _ _ _, by first | exact Kd.R_nil _ _ _ _ _ | exact Kd.N_nil _ _ _ _ _ | exact Kd.V_nil _ _ _ _ _ | exact Kd.Q_nil _ _ _ _ _ | exact Kd.S_nil _ _ _ _ _, by first | exact Kd.R_nil _ _ _ _ _ | exact Kd.N_nil _ _ _ _ _ | exact Kd.V_nil _ _ _ _ _ | exact Kd.Q_nil _ _ _ _ _ | exact Kd.S_nil _ _ _ _ _, by first | exact Kd.S_nil _ _ _ _ _ | exact Kd.N_nil _ _ _ _ _ | exact Kd.V_nil _ _ _ _ _ | exact Kd.Q_nil _ _ _ _ _ | exact Kd.R_nil _ _ _ _ _, by first | exact Kd.R_nil _ _ _ _ _ | exact Kd.N_nil _ _ _ _ _ | exact Kd.V_nil _ _ _ _ _ | exact Kd.Q_nil _ _ _ _ _ | exact Kd.S_nil _ _ _ _ _, by repeat (first | (with_reducible first | exact HB.out | apply pA | apply pN | apply pD | refine pS ?_ (iG a1.out) | refine pS ?_ ak.out | refine pS ?_ ap.out) | exact HB.out)⟩

end Go.Proofs.Ytdgaklldijkoaaa.PCode
