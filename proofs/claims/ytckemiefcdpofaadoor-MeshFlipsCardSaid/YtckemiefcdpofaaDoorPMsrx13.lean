import Derived.Test.YtckemiefcdpofaaDoorPMsrx0
import Derived.Test.YtckemiefcdpofaaDoorPMsrx3
import Derived.Test.YtckemiefcdpofaaDoorPMsrx5
import Derived.Test.YtckemiefcdpofaaDoorKnownStub
import Derived.Test.YtckemiefcdpofaaDoorCheckStub
import Derived.Test.YtckemiefcdpofaaDoorCopyStub
namespace Go.Proofs.YtckemiefcdpofaaDoor.PMsr
open Go Go.RowKit Go.Proofs.YtckemiefcdpofaaDoorW.PrintWords Go.Proofs.YtckemiefcdpofaaDoorW.PrintLast Go.Proofs.YtckemiefcdpofaaDoorW.PrintMore
attribute [local go_sem] max2_int min2_int max_two min_two max_three min_three max_four min_four
set_option linter.unusedVariables false
set_option maxRecDepth 100000
set_option linter.unusedSimpArgs false
attribute [local go_sem] idx36_0_0 idx36_1_0 idx36_2_0 idx52_0_0 idx52_1_0
theorem tm1_x13 : (wrap64 1).tmod 3 = 1 := by first | rfl | decide | (unfold wrap64; rfl)
theorem tm2_x13 : (wrap64 2).tmod 3 = 2 := by first | rfl | decide | (unfold wrap64; rfl)
theorem tm3_x13 : (wrap64 3).tmod 3 = 0 := by first | rfl | decide | (unfold wrap64; rfl)
attribute [local go_sem] tm1_x13 tm2_x13 tm3_x13
theorem sAx13 {α : Type _} {l : List α} {i : Nat} {a : α} : l.toArray.setIfInBounds i a = (l.set i a).toArray := List.setIfInBounds_toArray ..
theorem sBx13 {α : Type _} {x y : α} {l : List α} : (x :: l).set 0 y = y :: l := rfl
theorem sCx13 {α : Type _} {x y : α} {l : List α} {i : Nat} : (x :: l).set (i + 1) y = x :: l.set i y := rfl
theorem aMx13 {p : Prop} (h : p) : Aside0 p := ⟨h⟩
mutual
def lapidarylaw10_MeshFlips.l0 : Nat → Int → Int → Int → List (S55) → List (S36) → List (S55) → List (S36) → Option (Bool)
  | 0, _, _, _, _, _, _, _ => none
  | k + 1, x1, x5, x7, x239000, x239001, x249000, x249001 => if x7 < (x239001.length : Int) then (if 0 ≤ x7 then (if x7 < (x249001.length : Int) then (lapidarylaw10_MeshFlips.l0 k x1 x5 (wrap64 (x7 + 1)) x239000 x239001 x249000 (x249001.set (x7 : Int).toNat (⟨(rd_T36 x239001 x7).f0, (rd_T36 x239001 x7).f2, (rd_T36 x239001 x7).f1⟩ : S36))) else (none)) else (none)) else ((mesh_Check.f k x249000 x249001).bind fun t252 => (if t252 = x5 then (if x5 = 0 then (lapidarylaw10_MeshFlips.j1 k x1 ((x239001.length : Int) == 0) x239000 x239001 x249000 x249001) else (lapidarylaw10_MeshFlips.j1 k x1 true x239000 x239001 x249000 x249001)) else (some false)))
def lapidarylaw10_MeshFlips.j1 : Nat → Int → Bool → List (S55) → List (S36) → List (S55) → List (S36) → Option (Bool)
  | 0, _, _, _, _, _, _ => none
  | k + 1, x1, x61, x239000, x239001, x249000, x249001 => if x61 = true then ((lapidarylaw10_known.f).bind fun t253 => (some t253)) else (if (x239001.length : Int) = 0 then (none) else ((mesh_Copy.f x239000 x239001).bind fun bt254 => (if 0 ≤ (Int.tmod (wrap64 (x1)) (x239001.length : Int)) then (if (Int.tmod (wrap64 (x1)) (x239001.length : Int)) < (x249001.length : Int) then (if (Int.tmod (wrap64 (x1)) (x239001.length : Int)) < (bt254.2.length : Int) then (lapidarylaw10_MeshFlips.l1 k (Int.tmod (wrap64 (x1)) (x239001.length : Int)) false 0 x239000 x239001 bt254.1 (bt254.2.set ((Int.tmod (wrap64 (x1)) (x239001.length : Int)) : Int).toNat (⟨(rd_T36 x249001 (Int.tmod (wrap64 (x1)) (x239001.length : Int))).f0, (rd_T36 x249001 (Int.tmod (wrap64 (x1)) (x239001.length : Int))).f1, (rd_T36 x249001 (Int.tmod (wrap64 (x1)) (x239001.length : Int))).f2⟩ : S36))) else (none)) else (none)) else (none))))
def lapidarylaw10_MeshFlips.l1 : Nat → Int → Bool → Int → List (S55) → List (S36) → List (S55) → List (S36) → Option (Bool)
  | 0, _, _, _, _, _, _, _ => none
  | k + 1, x9, x11, x12, x239000, x239001, x261000, x261001 => if x12 < 3 then (if x11 = true then (lapidarylaw10_MeshFlips.l1 k x9 true (wrap64 (x12 + 1)) x239000 x239001 x261000 x261001) else (if 0 ≤ x9 then (if x9 < (x239001.length : Int) then (if x12 = 0 then ((lapidaryref10_Has.f k x239001 ((rd_T36 x239001 x9).f1) ((rd_T36 x239001 x9).f0)).bind fun t265 => (lapidarylaw10_MeshFlips.l1 k x9 (decide (t265 ≥ 0)) (wrap64 (x12 + 1)) x239000 x239001 x261000 x261001)) else (if x12 = 1 then ((lapidaryref10_Has.f k x239001 ((rd_T36 x239001 x9).f2) ((rd_T36 x239001 x9).f1)).bind fun t267 => (lapidarylaw10_MeshFlips.l1 k x9 (decide (t267 ≥ 0)) (wrap64 (x12 + 1)) x239000 x239001 x261000 x261001)) else (if x12 = 2 then ((lapidaryref10_Has.f k x239001 ((rd_T36 x239001 x9).f0) ((rd_T36 x239001 x9).f2)).bind fun t269 => (lapidarylaw10_MeshFlips.l1 k x9 (decide (t269 ≥ 0)) (wrap64 (x12 + 1)) x239000 x239001 x261000 x261001)) else (none)))) else (none)) else (none))) else ((mesh_Check.f k x261000 x261001).bind fun t270 => (if ((t270 == 80) == x11) = true then ((lapidarylaw10_known.f).bind fun t271 => (some t271)) else (some false)))
end
def lapidarylaw10_MeshFlips.f (k : Nat) (l0_0 : List (S55)) (l0_1 : List (S36)) (a1 : Int) : Option (Bool) := (lapidarylaw10_long.f l0_0 l0_1).bind fun t239 => (if t239 = true then ((lapidarylaw10_known.f).bind fun t240 => (some t240)) else ((mesh_Check.f k l0_0 l0_1).bind fun t241 => ((mesh_Copy.f l0_0 l0_1).bind fun bt242 => (if (bt242.2.length : Int) = (l0_1.length : Int) then (lapidarylaw10_MeshFlips.l0 k a1 t241 0 l0_0 l0_1 bt242.1 bt242.2) else (some false)))))
def lapidarylaw10_MeshFlips.T18 : Bool × List (List Nat × List Nat) := (true, [([], []), ([0], [0]), ([], []), ([], []), ([3], [3]), ([], []), ([4, 5], [4, 5]), ([6], [6]), ([1, 2, 0, 1, 2, 3, 4, 5, 6, 7], [1, 2]), ([8, 7, 0, 1, 2, 3, 4, 5, 6, 7], [7, 8])])
def lapidarylaw10_MeshFlips.B18 : List Nat := [0, 1, 0, 0, 8, 0, 56, 120, 255, 511]
theorem lapidarylaw10_MeshFlips.tab18 : rtab .any (opsOf Tryd.f6 18) = lapidarylaw10_MeshFlips.T18 := by kernel_rfl
theorem lapidarylaw10_MeshFlips.bits18 : waitsOk lapidarylaw10_MeshFlips.T18.2 lapidarylaw10_MeshFlips.B18 = true := by kernel_rfl
def lapidarylaw10_MeshFlips.T23 : Bool × List (List Nat × List Nat) := (true, [([], []), ([0], [0]), ([1], [1]), ([2, 1], [1, 2]), ([1], [1]), ([4, 1], [1, 4]), ([1], [1]), ([1], [1]), ([7, 1], [1, 7]), ([8, 1], [1, 8]), ([5, 6, 1], [1, 5, 6]), ([10, 9, 1], [1, 9, 10]), ([11, 1], [1, 11]), ([1], [1]), ([13, 1], [1, 13]), ([1], [1]), ([1], [1]), ([14, 15, 1], [1, 14, 15]), ([17, 16, 1], [1, 16, 17]), ([18, 1], [1, 18]), ([3, 12, 19, 1, 1], [1, 3, 12, 19]), ([20, 1], [1, 20]), ([1, 21], [1, 21]), ([22, 20, 0, 1, 2, 3, 4, 5, 6, 7, 8, 9, 10, 11, 12, 13, 14, 15, 16, 17, 18, 19, 20, 21, 22], [0, 22])])
def lapidarylaw10_MeshFlips.B23 : List Nat := [0, 1, 3, 7, 3, 19, 3, 3, 131, 387, 115, 2035, 4083, 3, 8195, 3, 3, 57347, 253955, 516099, 1048575, 2097151, 4194303, 8388607]
theorem lapidarylaw10_MeshFlips.tab23 : rtab .any (opsOf Tryd.f6 23) = lapidarylaw10_MeshFlips.T23 := by kernel_rfl
theorem lapidarylaw10_MeshFlips.bits23 : waitsOk lapidarylaw10_MeshFlips.T23.2 lapidarylaw10_MeshFlips.B23 = true := by kernel_rfl
set_option maxHeartbeats 8000000 in
set_option maxRecDepth 100000 in
theorem lapidarylaw10_MeshFlips.calls (k : Nat) (A0_0 : Option Addr) (c0_0 : Nat) (l0_0 : List (S55)) (A0_1 : Option Addr) (c0_1 : Nat) (l0_1 : List (S36)) (a1 : Int) (r : Bool) (w : World) (hr0_0 : Kd.C k55 w A0_0 l0_0.length l0_0) (hc0_0 : l0_0.length ≤ c0_0) (hr0_1 : Kd.C k36 w A0_1 l0_1.length l0_1) (hc0_1 : l0_1.length ≤ c0_1) (hG : Kd.C k36 w (some ⟨0, 0, none⟩) 1 [⟨1, 2, 0⟩]) (hrt : r = true) (h : lapidarylaw10_MeshFlips.f k l0_0 l0_1 a1 = some r) :
  Calls Tryd.prog 6 #[.agg #[.slice A0_0 l0_0.length c0_0,.slice A0_1 l0_1.length c0_1],.int .u8 a1] w fun e w' => e = .returned (.bool r) ∧ Below w.heap.size w w':=by
 have HRT:=aMx13 hrt
 clear hrt
 have HG:=aMx13 hG
 clear hG
 have hu25:=Tryd.underlying25
 have hu36:=Tryd.underlying36
 have HR0_0:=aMx13 hr0_0
 have HC0_0:=aMx13 hc0_0
 clear hr0_0 hc0_0
 have HR0_1:=aMx13 hr0_1
 have HC0_1:=aMx13 hc0_1
 clear hr0_1 hc0_1
 have HB:=aMx13 (Below.refl w.heap.size w)
 have H : ((lapidarylaw10_long.f l0_0 l0_1).bind fun t239 => (if t239 = true then ((lapidarylaw10_known.f).bind fun t240 => (some t240)) else ((mesh_Check.f k l0_0 l0_1).bind fun t241 => ((mesh_Copy.f l0_0 l0_1).bind fun bt242 => (if (bt242.2.length : Int) = (l0_1.length : Int) then (lapidarylaw10_MeshFlips.l0 k a1 t241 0 l0_0 l0_1 bt242.1 bt242.2) else (some false)))))) = some r:=h
 clear h
 replace H:=Option.bind_eq_some_iff.mp H
 obtain ⟨t239,A30,H⟩:=H
 replace H : (if t239 = true then ((lapidarylaw10_known.f).bind fun t240 => (some t240)) else ((mesh_Check.f k l0_0 l0_1).bind fun t241 => ((mesh_Copy.f l0_0 l0_1).bind fun bt242 => (if (bt242.2.length : Int) = (l0_1.length : Int) then (lapidarylaw10_MeshFlips.l0 k a1 t241 0 l0_0 l0_1 bt242.1 bt242.2) else (some false))))) = some r:=H
 have A3:=aMx13 A30
 clear A30
 by_cases c4 : t239 = true
 ·subst c4
  have H1 : ((lapidarylaw10_known.f).bind fun t240 => (some t240)) = some r:=by rw [if_pos rfl] at H;exact H
  clear H
  have H:=H1
  clear H1
  replace H:=Option.bind_eq_some_iff.mp H
  obtain ⟨t240,A50,H⟩:=H
  replace H : (some t240) = some r:=H
  have A5:=aMx13 A50
  clear A50
  obtain rfl:=Option.some.inj H
  go_enter Tryd.func6,Tryd.ntmps6
  go_wp2_with (first|((with_reducible refine gate_dst (N:=2) rfl ?_);(try (refine gate_guard (by rfl) ?_;dsimp only));refine box_event ?hg (N:=2) ?hd (cs:=#[.slice A0_0 l0_0.length c0_0,.slice A0_1 l0_1.length c0_1]) (t:=25) ?hr ?_;(case hd => rfl);(case hg => rfl);(case hr => first|(go_simp;done)|(go_simp;rfl));intro gb238 hg w6 hbox hb;have n0_:=aMx13 (below_step (by repeat (with_reducible first|exact HB.out|apply below_alloc|apply pw_below_drewN|apply below_drew1)) hb);have n1_:=aMx13 (hbox);have n2_:=aMx13 ((by rw [hg];exact (below_size (by repeat (with_reducible first|exact HB.out|apply below_alloc|apply pw_below_drewN|apply below_drew1))) : w.heap.size ≤ gb238));have n3_:=aMx13 ((by rw [hg];exact (below_size (by repeat (with_reducible first|exact HB.out|apply below_alloc|apply pw_below_drewN|apply below_drew1))) : w.heap.size ≤ gb238));clear HB;have HB:=n0_;have BK238:=n1_;have GW238:=n2_;have GE238:=n3_;clear n0_ n1_ n2_ n3_;clear hb hbox hg;have hcz7_0 : w6.cell? ⟨gb238,0,none⟩ = some (.slice A0_0 l0_0.length c0_0):=(blk_cell BK238.out 0).trans rfl;have hcz7_1 : w6.cell? ⟨gb238,1,none⟩ = some (.slice A0_1 l0_1.length c0_1):=(blk_cell BK238.out 1).trans rfl;have hfz7_0:=blk_frozen BK238.out 0;have hfz7_1:=blk_frozen BK238.out 1)|((with_reducible refine gate_callee (f:=12) rfl ?_);refine goesL_ (some 14) rfl rfl Tryd.func12 (by kernel_rfl) rfl #[.agg #[.slice A0_0 l0_0.length c0_0,.slice A0_1 l0_1.length c0_1]] rfl (by (try simp only [List.map_toArray,List.map_cons,List.map_nil]);first|done|rfl|(simp only [List.length_drop,List.length_take];rfl)) ?_;(with_reducible refine (lapidarylaw10_long.calls _ _ l0_0 _ _ l0_1 true _ ?side1 ?side2 ?side3 ?side4 A3.out).mono ?_);(case side1 => repeat (first|exact (Kd.C_below HR0_0.out HB.out)|(with_reducible first|refine Kd.C_alloc ?_ _|refine Kd.C_drewN ?_ _|refine Kd.C_drew ?_)));(case side2 => exact HC0_0.out);(case side3 => repeat (first|exact (Kd.C_below HR0_1.out HB.out)|(with_reducible first|refine Kd.C_alloc ?_ _|refine Kd.C_drewN ?_ _|refine Kd.C_drew ?_)));(case side4 => exact HC0_1.out);rintro e w8 ⟨rfl,hb⟩;refine ⟨_,rfl,?_⟩;have n0_:=aMx13 (blk_below (g:=gb238) (o:=.cells #[.slice A0_0 l0_0.length c0_0,.slice A0_1 l0_1.length c0_1] 25 (0,0)) (by (with_reducible repeat (first|refine blk_drewN ?_ _|refine blk_drew ?_|refine blk_alloc ?_ _));exact BK238.out) hb);have n1_:=aMx13 (below_step (by repeat (first|(with_reducible first|exact HB.out|apply below_alloc|apply pw_below_drewN|apply below_drew1|refine below_set ?_ GE238.out)|exact HB.out)) hb);clear BK238;clear HB;have BK238:=n0_;have HB:=n1_;clear n0_ n1_;(try clear hb);(try clear hb2);(try clear hk);(try clear hi))|((with_reducible refine gate_callee (f:=13) rfl ?_);refine goesL_ (some 15) rfl rfl Tryd.func13 (by kernel_rfl) rfl #[] rfl (by (try simp only [List.map_toArray,List.map_cons,List.map_nil]);first|done|rfl|(simp only [List.length_drop,List.length_take];rfl)) ?_;(with_reducible refine (lapidarylaw10_known.calls  t240 _ ?sideG A5.out).mono ?_);(case sideG => exact Kd.C_below HG.out (by repeat (first|(with_reducible first|exact HB.out|apply below_alloc|apply pw_below_drewN|apply below_drew1|refine below_set ?_ GE238.out)|exact HB.out)));rintro e w9 ⟨rfl,hb⟩;refine ⟨_,rfl,?_⟩;have n0_:=aMx13 (blk_below (g:=gb238) (o:=.cells #[.slice A0_0 l0_0.length c0_0,.slice A0_1 l0_1.length c0_1] 25 (0,0)) (by (with_reducible repeat (first|refine blk_drewN ?_ _|refine blk_drew ?_|refine blk_alloc ?_ _));exact BK238.out) hb);have n1_:=aMx13 (below_step (by repeat (first|(with_reducible first|exact HB.out|apply below_alloc|apply pw_below_drewN|apply below_drew1|refine below_set ?_ GE238.out)|exact HB.out)) hb);clear BK238;clear HB;have BK238:=n0_;have HB:=n1_;clear n0_ n1_;(try clear hb);(try clear hb2);(try clear hk);(try clear hi)))
  go_ret
  exact ⟨by first | rfl | (simp [errW_none,errW_some]<;>rfl) | (simp [*,errW_none,errW_some]<;>rfl),by repeat (first | (with_reducible first | exact HB.out | apply below_alloc | apply pw_below_drewN | apply below_drew1 | refine below_set ?_ GE238.out) | exact HB.out)⟩
 ·replace c4:=Bool.eq_false_iff.mpr c4
  subst c4
  have H1 : ((mesh_Check.f k l0_0 l0_1).bind fun t241 => ((mesh_Copy.f l0_0 l0_1).bind fun bt242 => (if (bt242.2.length : Int) = (l0_1.length : Int) then (lapidarylaw10_MeshFlips.l0 k a1 t241 0 l0_0 l0_1 bt242.1 bt242.2) else (some false)))) = some r:=by rw [if_neg (show ¬ (false = true) by decide)] at H;exact H
  clear H
  have H:=H1
  clear H1
  replace H:=Option.bind_eq_some_iff.mp H
  obtain ⟨t241,A100,H⟩:=H
  replace H : ((mesh_Copy.f l0_0 l0_1).bind fun bt242 => (if (bt242.2.length : Int) = (l0_1.length : Int) then (lapidarylaw10_MeshFlips.l0 k a1 t241 0 l0_0 l0_1 bt242.1 bt242.2) else (some false))) = some r:=H
  have A10:=aMx13 A100
  clear A100
  replace H:=Option.bind_eq_some_iff.mp H
  obtain ⟨⟨t242,t245⟩,A110,H⟩:=H
  replace H : (if (t245.length : Int) = (l0_1.length : Int) then (lapidarylaw10_MeshFlips.l0 k a1 t241 0 l0_0 l0_1 t242 t245) else (some false)) = some r:=H
  have A11:=aMx13 A110
  clear A110
  by_cases c12 : (t245.length : Int) = (l0_1.length : Int)
  ·rw [if_pos c12] at H
   have c12b0 : ((t245.length : Int) == (l0_1.length : Int)) = true:=beq_iff_eq.mpr c12
   have c12b1 : ((t245.length : Int) != (l0_1.length : Int)) = false:=bne_eq_false_iff_eq.mpr c12
   have c12b2 : (t245.length == l0_1.length) = true:=by first | simpa using c12 | (simp at c12 ⊢;omega)
   clear c12
   have H':=aMx13 H
   clear H
   go_enter Tryd.func6,Tryd.ntmps6
   go_wp2_with (first|((with_reducible refine gate_dst (N:=2) rfl ?_);(try (refine gate_guard (by rfl) ?_;dsimp only));refine box_event ?hg (N:=2) ?hd (cs:=#[.slice A0_0 l0_0.length c0_0,.slice A0_1 l0_1.length c0_1]) (t:=25) ?hr ?_;(case hd => rfl);(case hg => rfl);(case hr => first|(go_simp;done)|(go_simp;rfl));intro gb238 hg w13 hbox hb;have n0_:=aMx13 (below_step (by repeat (with_reducible first|exact HB.out|apply below_alloc|apply pw_below_drewN|apply below_drew1)) hb);have n1_:=aMx13 (hbox);have n2_:=aMx13 ((by rw [hg];exact (below_size (by repeat (with_reducible first|exact HB.out|apply below_alloc|apply pw_below_drewN|apply below_drew1))) : w.heap.size ≤ gb238));have n3_:=aMx13 ((by rw [hg];exact (below_size (by repeat (with_reducible first|exact HB.out|apply below_alloc|apply pw_below_drewN|apply below_drew1))) : w.heap.size ≤ gb238));clear HB;have HB:=n0_;have BK238:=n1_;have GW238:=n2_;have GE238:=n3_;clear n0_ n1_ n2_ n3_;clear hb hbox hg;have hcz14_0 : w13.cell? ⟨gb238,0,none⟩ = some (.slice A0_0 l0_0.length c0_0):=(blk_cell BK238.out 0).trans rfl;have hcz14_1 : w13.cell? ⟨gb238,1,none⟩ = some (.slice A0_1 l0_1.length c0_1):=(blk_cell BK238.out 1).trans rfl;have hfz14_0:=blk_frozen BK238.out 0;have hfz14_1:=blk_frozen BK238.out 1)|((with_reducible refine gate_callee (f:=12) rfl ?_);refine goesL_ (some 14) rfl rfl Tryd.func12 (by kernel_rfl) rfl #[.agg #[.slice A0_0 l0_0.length c0_0,.slice A0_1 l0_1.length c0_1]] rfl (by (try simp only [List.map_toArray,List.map_cons,List.map_nil]);first|done|rfl|(simp only [List.length_drop,List.length_take];rfl)) ?_;(with_reducible refine (lapidarylaw10_long.calls _ _ l0_0 _ _ l0_1 false _ ?side1 ?side2 ?side3 ?side4 A3.out).mono ?_);(case side1 => repeat (first|exact (Kd.C_below HR0_0.out HB.out)|(with_reducible first|refine Kd.C_alloc ?_ _|refine Kd.C_drewN ?_ _|refine Kd.C_drew ?_)));(case side2 => exact HC0_0.out);(case side3 => repeat (first|exact (Kd.C_below HR0_1.out HB.out)|(with_reducible first|refine Kd.C_alloc ?_ _|refine Kd.C_drewN ?_ _|refine Kd.C_drew ?_)));(case side4 => exact HC0_1.out);rintro e w15 ⟨rfl,hb⟩;refine ⟨_,rfl,?_⟩;have n0_:=aMx13 (blk_below (g:=gb238) (o:=.cells #[.slice A0_0 l0_0.length c0_0,.slice A0_1 l0_1.length c0_1] 25 (0,0)) (by (with_reducible repeat (first|refine blk_drewN ?_ _|refine blk_drew ?_|refine blk_alloc ?_ _));exact BK238.out) hb);have n1_:=aMx13 (below_step (by repeat (first|(with_reducible first|exact HB.out|apply below_alloc|apply pw_below_drewN|apply below_drew1|refine below_set ?_ GE238.out)|exact HB.out)) hb);clear BK238;clear HB;have BK238:=n0_;have HB:=n1_;clear n0_ n1_;(try clear hb);(try clear hb2);(try clear hk);(try clear hi);have hcz16_0 : w15.cell? ⟨gb238,0,none⟩ = some (.slice A0_0 l0_0.length c0_0):=(blk_cell BK238.out 0).trans rfl;have hcz16_1 : w15.cell? ⟨gb238,1,none⟩ = some (.slice A0_1 l0_1.length c0_1):=(blk_cell BK238.out 1).trans rfl;have hfz16_0:=blk_frozen BK238.out 0;have hfz16_1:=blk_frozen BK238.out 1)|((with_reducible refine gate_callee (f:=14) rfl ?_);refine goesL_ (some 17) rfl rfl Tryd.func14 (by kernel_rfl) rfl #[.agg #[.slice A0_0 l0_0.length c0_0,.slice A0_1 l0_1.length c0_1]] rfl (by (try simp only [List.map_toArray,List.map_cons,List.map_nil]);first|done|rfl|(simp only [List.length_drop,List.length_take];rfl)) ?_;(with_reducible refine (mesh_Check.calls k _ _ l0_0 _ _ l0_1 t241 _ ?side1 ?side2 ?side3 ?side4 ?sideG A10.out).mono ?_);(case sideG => exact Kd.C_below HG.out (by repeat (first|(with_reducible first|exact HB.out|apply below_alloc|apply pw_below_drewN|apply below_drew1|refine below_set ?_ GE238.out|refine below_set ?_ GE248.out)|exact HB.out)));(case side1 => repeat (first|exact (Kd.C_below HR0_0.out HB.out)|(with_reducible first|refine Kd.C_alloc ?_ _|refine Kd.C_drewN ?_ _|refine Kd.C_drew ?_)));(case side2 => exact HC0_0.out);(case side3 => repeat (first|exact (Kd.C_below HR0_1.out HB.out)|(with_reducible first|refine Kd.C_alloc ?_ _|refine Kd.C_drewN ?_ _|refine Kd.C_drew ?_)));(case side4 => exact HC0_1.out);rintro e w17 ⟨rfl,hb⟩;refine ⟨_,rfl,?_⟩;have n0_:=aMx13 (blk_below (g:=gb238) (o:=.cells #[.slice A0_0 l0_0.length c0_0,.slice A0_1 l0_1.length c0_1] 25 (0,0)) (by (with_reducible repeat (first|refine blk_drewN ?_ _|refine blk_drew ?_|refine blk_alloc ?_ _));exact BK238.out) hb);have n1_:=aMx13 (below_step (by repeat (first|(with_reducible first|exact HB.out|apply below_alloc|apply pw_below_drewN|apply below_drew1|refine below_set ?_ GE238.out)|exact HB.out)) hb);clear BK238;clear HB;have BK238:=n0_;have HB:=n1_;clear n0_ n1_;(try clear hb);(try clear hb2);(try clear hk);(try clear hi);have hcz18_0 : w17.cell? ⟨gb238,0,none⟩ = some (.slice A0_0 l0_0.length c0_0):=(blk_cell BK238.out 0).trans rfl;have hcz18_1 : w17.cell? ⟨gb238,1,none⟩ = some (.slice A0_1 l0_1.length c0_1):=(blk_cell BK238.out 1).trans rfl;have hfz18_0:=blk_frozen BK238.out 0;have hfz18_1:=blk_frozen BK238.out 1)|((with_reducible refine gate_callee (f:=21) rfl ?_);refine goesL_ (some 19) rfl rfl Tryd.func21 (by kernel_rfl) rfl #[.agg #[.slice A0_0 l0_0.length c0_0,.slice A0_1 l0_1.length c0_1]] rfl (by (try simp only [List.map_toArray,List.map_cons,List.map_nil]);first|done|rfl|(simp only [List.length_drop,List.length_take];rfl)) ?_;(with_reducible refine (mesh_Copy.calls _ _ l0_0 _ _ l0_1 t242 t245 _ ?side1 ?side2 ?side3 ?side4 A11.out).mono ?_);(case side1 => repeat (first|exact (Kd.C_below HR0_0.out HB.out)|(with_reducible first|refine Kd.C_alloc ?_ _|refine Kd.C_drewN ?_ _|refine Kd.C_drew ?_)));(case side2 => exact HC0_0.out);(case side3 => repeat (first|exact (Kd.C_below HR0_1.out HB.out)|(with_reducible first|refine Kd.C_alloc ?_ _|refine Kd.C_drewN ?_ _|refine Kd.C_drew ?_)));(case side4 => exact HC0_1.out);rintro e w19 ⟨v243,v246,rfl,ho0,ho1,hb⟩;refine ⟨_,rfl,?_⟩;have n0_:=aMx13 (Kd.R_lower ho0 (below_size (by repeat (first|(with_reducible first|exact HB.out|apply below_alloc|apply pw_below_drewN|apply below_drew1|refine below_set ?_ GE238.out)|exact HB.out))));have n1_:=aMx13 (Kd.R_lower ho1 (below_size (by repeat (first|(with_reducible first|exact HB.out|apply below_alloc|apply pw_below_drewN|apply below_drew1|refine below_set ?_ GE238.out)|exact HB.out))));have n2_:=aMx13 (blk_below (g:=gb238) (o:=.cells #[.slice A0_0 l0_0.length c0_0,.slice A0_1 l0_1.length c0_1] 25 (0,0)) (by (with_reducible repeat (first|refine blk_drewN ?_ _|refine blk_drew ?_|refine blk_alloc ?_ _));exact BK238.out) hb);have n3_:=aMx13 (below_step (by repeat (first|(with_reducible first|exact HB.out|apply below_alloc|apply pw_below_drewN|apply below_drew1|refine below_set ?_ GE238.out)|exact HB.out)) hb);clear BK238;clear HB;have HO244:=n0_;have HO247:=n1_;have BK238:=n2_;have HB:=n3_;clear n0_ n1_ n2_ n3_;(try clear hb);(try clear hb2);(try clear hk);(try clear hi);(try clear ho0);(try clear ho1))|((with_reducible refine gate_dst (N:=6) rfl ?_);(try (refine gate_guard (by rfl) ?_;dsimp only));refine box_event ?hg (N:=6) ?hd (cs:=#[.slice none 0 0,.slice none 0 0]) (t:=25) ?hr ?_;(case hd => rfl);(case hg => rfl);(case hr => first|(go_simp;done)|(go_simp;rfl));intro gb248 hg w20 hbox hb;have n0_:=aMx13 (Kd.R_below (by (with_reducible repeat (first|apply Kd.R_alloc|apply Kd.R_drewN|apply Kd.R_drew));exact HO244.out) hb);have n1_:=aMx13 (Kd.R_below (by (with_reducible repeat (first|apply Kd.R_alloc|apply Kd.R_drewN|apply Kd.R_drew));exact HO247.out) hb);have n2_:=aMx13 (blk_below (g:=gb238) (o:=.cells #[.slice A0_0 l0_0.length c0_0,.slice A0_1 l0_1.length c0_1] 25 (0,0)) (by (with_reducible repeat (first|refine blk_drewN ?_ _|refine blk_drew ?_|refine blk_alloc ?_ _));exact BK238.out) hb);have n3_:=aMx13 (below_step (by repeat (first|(with_reducible first|exact HB.out|apply below_alloc|apply pw_below_drewN|apply below_drew1|refine below_set ?_ GE238.out)|exact HB.out)) hb);have n4_:=aMx13 (hbox);have n5_:=aMx13 ((by rw [hg];exact (below_size (by repeat (first|(with_reducible first|exact HB.out|apply below_alloc|apply pw_below_drewN|apply below_drew1|refine below_set ?_ GE238.out)|exact HB.out))) : w.heap.size ≤ gb248));have n6_:=aMx13 ((by rw [hg];exact (below_size (by repeat (first|(with_reducible first|exact HB.out|apply below_alloc|apply pw_below_drewN|apply below_drew1|refine below_set ?_ GE238.out)|exact HB.out))) : w.heap.size ≤ gb248));have n7_:=aMx13 ((by rw [hg];exact Nat.ne_of_lt (blk_lt (g:=gb238) (o:=.cells #[.slice A0_0 l0_0.length c0_0,.slice A0_1 l0_1.length c0_1] 25 (0,0)) (by (with_reducible repeat (first|refine blk_drewN ?_ _|refine blk_drew ?_|refine blk_alloc ?_ _));exact BK238.out)) : gb238 ≠ gb248));have n8_:=aMx13 ((by rw [hg];exact Nat.ne_of_gt (blk_lt (g:=gb238) (o:=.cells #[.slice A0_0 l0_0.length c0_0,.slice A0_1 l0_1.length c0_1] 25 (0,0)) (by (with_reducible repeat (first|refine blk_drewN ?_ _|refine blk_drew ?_|refine blk_alloc ?_ _));exact BK238.out)) : gb248 ≠ gb238));clear HO244;clear HO247;clear BK238;clear HB;have HO244:=n0_;have HO247:=n1_;have BK238:=n2_;have HB:=n3_;have BK248:=n4_;have GW248:=n5_;have GE248:=n6_;have NB238_248:=n7_;have NB248_238:=n8_;clear n0_ n1_ n2_ n3_ n4_ n5_ n6_ n7_ n8_;clear hb hbox hg;obtain ⟨Ao21,co21,eo21⟩:=Kd.R_slice HO244.out;subst eo21;have hnb22:=NB248_238.out;have hnc22:=NB238_248.out;have hcz23_0 : w20.cell? ⟨gb248,0,none⟩ = some (.slice none 0 0):=(blk_cell BK248.out 0).trans rfl;have hcz23_1 : w20.cell? ⟨gb248,1,none⟩ = some (.slice none 0 0):=(blk_cell BK248.out 1).trans rfl;have hfz23_0:=blk_frozen BK248.out 0;have hfz23_1:=blk_frozen BK248.out 1;obtain ⟨Ao24,co24,eo24⟩:=Kd.R_slice HO247.out;subst eo24;have hcz25_0 : w20.cell? ⟨gb238,0,none⟩ = some (.slice A0_0 l0_0.length c0_0):=(blk_cell BK238.out 0).trans rfl;have hcz25_1 : w20.cell? ⟨gb238,1,none⟩ = some (.slice A0_1 l0_1.length c0_1):=(blk_cell BK238.out 1).trans rfl;have hfz25_0:=blk_frozen BK238.out 0;have hfz25_1:=blk_frozen BK238.out 1))
   go_loopg [7] k (fun kq v7 w' => ∃ (x7_1 : Int) (x249001_1 : List (S36)) (u249001 : Value),v7 = .int .i64 x7_1 ∧ Aside0 (lapidarylaw10_MeshFlips.l0 kq a1 t241 x7_1 l0_0 l0_1 t242 x249001_1 = some r) ∧ Aside0 (kq ≤ k) ∧ Aside0 (Kd.R k55 55 w' w.heap.size (fun _ => True) (.slice Ao21 t242.length co21) t242) ∧ Aside0 (Kd.R k36 36 w' w.heap.size (fun _ => True) u249001 x249001_1) ∧ Aside0 (w'.heap[gb238]? = some (.cells #[(.slice A0_0 l0_0.length c0_0),(.slice A0_1 l0_1.length c0_1)] 25 (0,0))) ∧ Aside0 (w'.heap[gb248]? = some (.cells #[(.slice Ao21 t242.length co21),u249001] 25 (0,0))) ∧ Aside0 (Below w.heap.size w w'))
   case atStart => exact ⟨(0),(t245),(.slice Ao24 t245.length co24),(by first | rfl | (simp;done) | (simp [*];done) | (simp [wrap64];done)),H',⟨Nat.le_refl _⟩,⟨by (with_reducible repeat (first | apply Kd.R_alloc | apply Kd.R_drewN | apply Kd.R_drew));exact Kd.R_mono (Kd.R_far (p:=⟨gb248,1,none⟩) (Kd.R_far (p:=⟨gb248,0,none⟩) (Kd.R_types HO244.out BK248.out (by decide)) (fun _ hk => hk.2) (.slice Ao21 t242.length co21)) (fun _ hk => hk.2) (.slice Ao24 t245.length co24)) (fun _ hk => trivial)⟩,⟨by (with_reducible repeat (first | apply Kd.R_alloc | apply Kd.R_drewN | apply Kd.R_drew));exact Kd.R_mono (Kd.R_far (p:=⟨gb248,1,none⟩) (Kd.R_far (p:=⟨gb248,0,none⟩) (Kd.R_types HO247.out BK248.out (by decide)) (fun _ hk => hk.2) (.slice Ao21 t242.length co21)) (fun _ hk => hk.2) (.slice Ao24 t245.length co24)) (fun _ hk => trivial)⟩,⟨by (with_reducible repeat (first | refine blk_drewN ?_ _ | refine blk_drew ?_ | refine blk_alloc ?_ _));refine blk_far ?_ NB238_248.out _;(with_reducible repeat (first | refine blk_drewN ?_ _ | refine blk_drew ?_ | refine blk_alloc ?_ _));refine blk_far ?_ NB238_248.out _;(with_reducible repeat (first | refine blk_drewN ?_ _ | refine blk_drew ?_ | refine blk_alloc ?_ _));exact BK238.out⟩,⟨by (with_reducible repeat (first | refine blk_drewN ?_ _ | refine blk_drew ?_ | refine blk_alloc ?_ _));refine blk_put (cs:=#[.slice Ao21 t242.length co21,.slice none 0 0]) ?_ 1 _ rfl;(with_reducible repeat (first | refine blk_drewN ?_ _ | refine blk_drew ?_ | refine blk_alloc ?_ _));refine blk_put (cs:=#[.slice none 0 0,.slice none 0 0]) ?_ 0 _ rfl;(with_reducible repeat (first | refine blk_drewN ?_ _ | refine blk_drew ?_ | refine blk_alloc ?_ _));exact BK248.out⟩,⟨by repeat (first | (with_reducible first | exact HB.out | apply below_alloc | apply pw_below_drewN | apply below_drew1 | refine below_set ?_ GE238.out | refine below_set ?_ GE248.out) | exact HB.out)⟩⟩
   case round =>
    clear H'
    (try clear c1);(try clear c2);(try clear p2);(try clear c4);(try clear c6);(try clear c12);(try clear c12b0);(try clear c12b1);(try clear c12b2);(try clear c13);(try clear c14);(try clear c21);(try clear c22);(try clear hcz14_0);(try clear hcz14_1);(try clear hcz16_0);(try clear hcz16_1);(try clear hcz18_0);(try clear hcz18_1);(try clear hcz23_0);(try clear hcz23_1);(try clear hcz25_0);(try clear hcz25_1);(try clear hcz7_0);(try clear hcz7_1);(try clear hfz14_0);(try clear hfz14_1);(try clear hfz16_0);(try clear hfz16_1);(try clear hfz18_0);(try clear hfz18_1);(try clear hfz23_0);(try clear hfz23_1);(try clear hfz25_0);(try clear hfz25_1);(try clear hfz7_0);(try clear hfz7_1)
    obtain ⟨x7_1,x249001_1,u249001,rfl,HA,HK1,HO_249000,HO_249001,BK238,BK248,HB⟩:=hrel
    cases gk with
    | zero => exact absurd HA.out (by simp [lapidarylaw10_MeshFlips.l0])
    | succ k1 =>
     have H:=HA.out
     clear HA
     simp only [lapidarylaw10_MeshFlips.l0] at H
     by_cases c26 : x7_1 < (l0_1.length : Int)
     ·rw [if_pos c26] at H
      have c26b0 : decide (x7_1 < (l0_1.length : Int)) = true:=decide_eq_true c26
      clear c26
      by_cases c27 : 0 ≤ x7_1
      ·rw [if_pos c27] at H
       have c27b0 : decide (0 ≤ x7_1) = true:=decide_eq_true c27
       clear c27
       by_cases c28 : x7_1 < (x249001_1.length : Int)
       ·rw [if_pos c28] at H
        have c28b0 : decide (x7_1 < (x249001_1.length : Int)) = true:=decide_eq_true c28
        clear c28
        obtain ⟨y251,hy251⟩ : ∃ y_ : List (S36),y_ = (x249001_1.set (x7_1 : Int).toNat (⟨(rd_T36 l0_1 x7_1).f0,(rd_T36 l0_1 x7_1).f2,(rd_T36 l0_1 x7_1).f1⟩ : S36)):=⟨_,rfl⟩
        replace H : (lapidarylaw10_MeshFlips.l0 k1 a1 t241 (wrap64 (x7_1+1)) l0_0 l0_1 t242 y251) = some r:=by first | (rw [hy251];with_reducible exact H) | (have H2_:=(Option.bind_some _ _).symm.trans H;rw [hy251];with_reducible exact H2_) | (have H2_:=(Option.bind_some _ _).symm.trans H;with_reducible exact H2_) | with_reducible exact H | (rw [hy251];exact H) | exact H
        have Ny251:=aMx13 hy251
        clear hy251
        have H':=aMx13 H
        clear H
        have hnb30:=NB238_248.out
        have hnc30:=NB248_238.out
        have hcz31_0 : wr.cell? ⟨gb238,0,none⟩ = some (.slice A0_0 l0_0.length c0_0):=(blk_cell BK238.out 0).trans rfl
        have hcz31_1 : wr.cell? ⟨gb238,1,none⟩ = some (.slice A0_1 l0_1.length c0_1):=(blk_cell BK238.out 1).trans rfl
        have hfz31_0:=blk_frozen BK238.out 0
        have hfz31_1:=blk_frozen BK238.out 1
        have p249 : 0 ≤ (x7_1 : Int):=of_decide_eq_true (by first | (with_reducible assumption) | assumption)
        have q249 : x7_1 < (l0_1.length : Int):=of_decide_eq_true (by first | (with_reducible assumption) | assumption)
        obtain ⟨ad249,e249,hx249_0,hx249_1,hx249_2⟩:=at_T36 HR0_1.out x7_1 p249 q249
        cases e249
        replace hx249_0:=(HB.out.cell (World.block_lt_of_cell? w _ hx249_0)).trans hx249_0
        replace hx249_1:=(HB.out.cell (World.block_lt_of_cell? w _ hx249_1)).trans hx249_1
        replace hx249_2:=(HB.out.cell (World.block_lt_of_cell? w _ hx249_2)).trans hx249_2
        replace p249:=eq_true p249
        replace q249:=eq_true q249
        go_wp2_with (first|((with_reducible refine gate_dst (N:=8) rfl ?_);(try (refine gate_guard (by rfl) ?_;dsimp only));refine box_event ?hg (N:=8) ?hd (cs:=#[.int .i64 0,.int .i64 0,.int .i64 0]) (t:=36) ?hr ?_;(case hd => rfl);(case hg => rfl);(case hr => first|(go_simp;done)|(go_simp;rfl));intro gb250 hg w32 hbox hb;have n0_:=aMx13 (Kd.R_below (by (with_reducible repeat (first|apply Kd.R_alloc|apply Kd.R_drewN|apply Kd.R_drew));exact HO_249000.out) hb);have n1_:=aMx13 (Kd.R_below (Kd.R_elderB (by (with_reducible repeat (first|apply Kd.R_alloc|apply Kd.R_drewN|apply Kd.R_drew));exact HO_249001.out) gb250 (Nat.le_of_eq hg.symm)) hb);have n2_:=aMx13 (blk_below (g:=gb238) (o:=.cells #[.slice A0_0 l0_0.length c0_0,.slice (some ad249) l0_1.length c0_1] 25 (0,0)) (by (with_reducible repeat (first|refine blk_drewN ?_ _|refine blk_drew ?_|refine blk_alloc ?_ _));exact BK238.out) hb);have n3_:=aMx13 (blk_below (g:=gb248) (o:=.cells #[.slice Ao21 t242.length co21,u249001] 25 (0,0)) (by (with_reducible repeat (first|refine blk_drewN ?_ _|refine blk_drew ?_|refine blk_alloc ?_ _));exact BK248.out) hb);have n4_:=aMx13 (below_step (by repeat (first|(with_reducible first|exact HB.out|apply below_alloc|apply pw_below_drewN|apply below_drew1|refine below_set ?_ GE238.out|refine below_set ?_ GE248.out)|exact HB.out)) hb);have n5_:=aMx13 (hbox);have n6_:=aMx13 ((by rw [hg];exact (below_size (by repeat (first|(with_reducible first|exact HB.out|apply below_alloc|apply pw_below_drewN|apply below_drew1|refine below_set ?_ GE238.out|refine below_set ?_ GE248.out)|exact HB.out))) : w.heap.size ≤ gb250));have n7_:=aMx13 ((by rw [hg];exact (below_size (by repeat (first|(with_reducible first|exact HB.out|apply below_alloc|apply pw_below_drewN|apply below_drew1|refine below_set ?_ GE238.out|refine below_set ?_ GE248.out)|exact HB.out))) : w.heap.size ≤ gb250));have n8_:=aMx13 ((by rw [hg];exact Nat.ne_of_lt (blk_lt (g:=gb238) (o:=.cells #[.slice A0_0 l0_0.length c0_0,.slice (some ad249) l0_1.length c0_1] 25 (0,0)) (by (with_reducible repeat (first|refine blk_drewN ?_ _|refine blk_drew ?_|refine blk_alloc ?_ _));exact BK238.out)) : gb238 ≠ gb250));have n9_:=aMx13 ((by rw [hg];exact Nat.ne_of_gt (blk_lt (g:=gb238) (o:=.cells #[.slice A0_0 l0_0.length c0_0,.slice (some ad249) l0_1.length c0_1] 25 (0,0)) (by (with_reducible repeat (first|refine blk_drewN ?_ _|refine blk_drew ?_|refine blk_alloc ?_ _));exact BK238.out)) : gb250 ≠ gb238));have n10_:=aMx13 ((by rw [hg];exact Nat.ne_of_lt (blk_lt (g:=gb248) (o:=.cells #[.slice Ao21 t242.length co21,u249001] 25 (0,0)) (by (with_reducible repeat (first|refine blk_drewN ?_ _|refine blk_drew ?_|refine blk_alloc ?_ _));exact BK248.out)) : gb248 ≠ gb250));have n11_:=aMx13 ((by rw [hg];exact Nat.ne_of_gt (blk_lt (g:=gb248) (o:=.cells #[.slice Ao21 t242.length co21,u249001] 25 (0,0)) (by (with_reducible repeat (first|refine blk_drewN ?_ _|refine blk_drew ?_|refine blk_alloc ?_ _));exact BK248.out)) : gb250 ≠ gb248));clear HO_249000;clear HO_249001;clear BK238;clear BK248;clear HB;have HO_249000:=n0_;have HO_249001:=n1_;have BK238:=n2_;have BK248:=n3_;have HB:=n4_;have BK250:=n5_;have GW250:=n6_;have GE250:=n7_;have NB238_250:=n8_;have NB250_238:=n9_;have NB248_250:=n10_;have NB250_248:=n11_;clear n0_ n1_ n2_ n3_ n4_ n5_ n6_ n7_ n8_ n9_ n10_ n11_;clear hb hbox hg;have hnb33:=NB250_238.out;have hnc33:=NB238_250.out;have hnb34:=NB250_248.out;have hnc34:=NB248_250.out;have hcz35_0 : w32.cell? ⟨gb250,0,none⟩ = some (.int .i64 0):=(blk_cell BK250.out 0).trans rfl;have hcz35_1 : w32.cell? ⟨gb250,1,none⟩ = some (.int .i64 0):=(blk_cell BK250.out 1).trans rfl;have hcz35_2 : w32.cell? ⟨gb250,2,none⟩ = some (.int .i64 0):=(blk_cell BK250.out 2).trans rfl;have hfz35_0:=blk_frozen BK250.out 0;have hfz35_1:=blk_frozen BK250.out 1;have hfz35_2:=blk_frozen BK250.out 2)|((with_reducible refine gate_store (t:=36) (p:=8) rfl ?_);refine store_event (t:=36) (p:=8) (v:=?vo_w36) (w1:=(((w32.setCell ⟨gb250,0,none⟩ (.int .i64 ((rd_T36 l0_1 x7_1).f0))).setCell ⟨gb250,1,none⟩ (.int .i64 ((rd_T36 l0_1 x7_1).f1))).setCell ⟨gb250,2,none⟩ (.int .i64 ((rd_T36 l0_1 x7_1).f2)))) ?hg ?ho ?hn ?hr ?_;(case ho => rfl);(case hg => rfl);(case hn => rfl);(case hr => first|(go_simp;done)|(go_simp;rfl));intro w36 hw;have n0_ : Aside0 (Kd.R k55 55 w36 w.heap.size (fun _ => True) (.slice Ao21 t242.length co21) t242):=⟨(by rw [hw];exact (by (with_reducible repeat (first|apply Kd.R_alloc|apply Kd.R_drewN|apply Kd.R_drew));exact Kd.R_mono (Kd.R_far (p:=⟨gb250,2,none⟩) (Kd.R_far (p:=⟨gb250,1,none⟩) (Kd.R_far (p:=⟨gb250,0,none⟩) (Kd.R_types HO_249000.out BK250.out (by decide)) (fun _ hk => hk.2) (.int .i64 ((rd_T36 l0_1 x7_1).f0))) (fun _ hk => hk.2) (.int .i64 ((rd_T36 l0_1 x7_1).f1))) (fun _ hk => hk.2) (.int .i64 ((rd_T36 l0_1 x7_1).f2))) (fun _ hk => trivial)))⟩;have n1_ : Aside0 (Kd.R k36 36 w36 w.heap.size (fun k_ => k_ ≠ gb250) u249001 x249001_1):=⟨(by rw [hw];exact (by (with_reducible repeat (first|apply Kd.R_alloc|apply Kd.R_drewN|apply Kd.R_drew));exact Kd.R_mono (Kd.R_far (p:=⟨gb250,2,none⟩) (Kd.R_far (p:=⟨gb250,1,none⟩) (Kd.R_far (p:=⟨gb250,0,none⟩) (Kd.R_mono HO_249001.out (fun k_ hk => (⟨hk,hk.2⟩ : _ ∧ k_ ≠ gb250))) (fun _ hk => hk.2) (.int .i64 ((rd_T36 l0_1 x7_1).f0))) (fun _ hk => hk.2) (.int .i64 ((rd_T36 l0_1 x7_1).f1))) (fun _ hk => hk.2) (.int .i64 ((rd_T36 l0_1 x7_1).f2))) (fun _ hk => hk.1.2)))⟩;have n2_ : Aside0 (w36.heap[gb238]? = some (.cells #[.slice A0_0 l0_0.length c0_0,.slice (some ad249) l0_1.length c0_1] 25 (0,0))):=⟨(by rw [hw];exact (by (with_reducible repeat (first|refine blk_drewN ?_ _|refine blk_drew ?_|refine blk_alloc ?_ _));refine blk_far ?_ NB238_250.out _;(with_reducible repeat (first|refine blk_drewN ?_ _|refine blk_drew ?_|refine blk_alloc ?_ _));refine blk_far ?_ NB238_250.out _;(with_reducible repeat (first|refine blk_drewN ?_ _|refine blk_drew ?_|refine blk_alloc ?_ _));refine blk_far ?_ NB238_250.out _;(with_reducible repeat (first|refine blk_drewN ?_ _|refine blk_drew ?_|refine blk_alloc ?_ _));exact BK238.out))⟩;have n3_ : Aside0 (w36.heap[gb248]? = some (.cells #[.slice Ao21 t242.length co21,u249001] 25 (0,0))):=⟨(by rw [hw];exact (by (with_reducible repeat (first|refine blk_drewN ?_ _|refine blk_drew ?_|refine blk_alloc ?_ _));refine blk_far ?_ NB248_250.out _;(with_reducible repeat (first|refine blk_drewN ?_ _|refine blk_drew ?_|refine blk_alloc ?_ _));refine blk_far ?_ NB248_250.out _;(with_reducible repeat (first|refine blk_drewN ?_ _|refine blk_drew ?_|refine blk_alloc ?_ _));refine blk_far ?_ NB248_250.out _;(with_reducible repeat (first|refine blk_drewN ?_ _|refine blk_drew ?_|refine blk_alloc ?_ _));exact BK248.out))⟩;have n4_ : Aside0 (w36.heap[gb250]? = some (.cells #[.int .i64 ((rd_T36 l0_1 x7_1).f0),.int .i64 ((rd_T36 l0_1 x7_1).f1),.int .i64 ((rd_T36 l0_1 x7_1).f2)] 36 (0,0))):=⟨(by rw [hw];exact (by (with_reducible repeat (first|refine blk_drewN ?_ _|refine blk_drew ?_|refine blk_alloc ?_ _));refine blk_put (cs:=#[.int .i64 ((rd_T36 l0_1 x7_1).f0),.int .i64 ((rd_T36 l0_1 x7_1).f1),.int .i64 0]) ?_ 2 _ rfl;(with_reducible repeat (first|refine blk_drewN ?_ _|refine blk_drew ?_|refine blk_alloc ?_ _));refine blk_put (cs:=#[.int .i64 ((rd_T36 l0_1 x7_1).f0),.int .i64 0,.int .i64 0]) ?_ 1 _ rfl;(with_reducible repeat (first|refine blk_drewN ?_ _|refine blk_drew ?_|refine blk_alloc ?_ _));refine blk_put (cs:=#[.int .i64 0,.int .i64 0,.int .i64 0]) ?_ 0 _ rfl;(with_reducible repeat (first|refine blk_drewN ?_ _|refine blk_drew ?_|refine blk_alloc ?_ _));exact BK250.out))⟩;have n5_ : Aside0 (Below w.heap.size w w36):=⟨(by rw [hw];exact (by repeat (first|(with_reducible first|exact HB.out|apply below_alloc|apply pw_below_drewN|apply below_drew1|refine below_set ?_ GE238.out|refine below_set ?_ GE248.out|refine below_set ?_ GE250.out)|exact HB.out)))⟩;clear hw;clear HO_249000;clear HO_249001;clear BK238;clear BK248;clear BK250;clear HB;have HO_249000:=n0_;have HO_249001:=n1_;have BK238:=n2_;have BK248:=n3_;have BK250:=n4_;have HB:=n5_;clear n0_ n1_ n2_ n3_ n4_ n5_;have hcz37_0 : w36.cell? ⟨gb248,0,none⟩ = some (.slice Ao21 t242.length co21):=(blk_cell BK248.out 0).trans rfl;have hcz37_1 : w36.cell? ⟨gb248,1,none⟩ = some (u249001):=(blk_cell BK248.out 1).trans rfl;have hfz37_0:=blk_frozen BK248.out 0;have hfz37_1:=blk_frozen BK248.out 1;have hcz38_0 : w36.cell? ⟨gb250,0,none⟩ = some (.int .i64 ((rd_T36 l0_1 x7_1).f0)):=(blk_cell BK250.out 0).trans rfl;have hcz38_1 : w36.cell? ⟨gb250,1,none⟩ = some (.int .i64 ((rd_T36 l0_1 x7_1).f1)):=(blk_cell BK250.out 1).trans rfl;have hcz38_2 : w36.cell? ⟨gb250,2,none⟩ = some (.int .i64 ((rd_T36 l0_1 x7_1).f2)):=(blk_cell BK250.out 2).trans rfl;have hfz38_0:=blk_frozen BK250.out 0;have hfz38_1:=blk_frozen BK250.out 1;have hfz38_2:=blk_frozen BK250.out 2;have p29 : 0 ≤ (x7_1 : Int):=of_decide_eq_true (by first|(with_reducible assumption)|assumption);have q29 : (x7_1 : Int) < ((x249001_1.length : Int) : Int):=of_decide_eq_true (by first|(with_reducible assumption)|assumption);obtain ⟨go29,co29,eo29,gb29,gl29,cl29,HG29⟩:=Kd.R_form HO_249001.out (by omega);(first|cases eo29|(injection eo29 with ea_ en_ ec_;(first|subst ea_|(injection ea_ with ea_;subst ea_));subst ec_;clear en_));have GB29:=aMx13 gb29;have GG29:=aMx13 HG29;clear gb29 gl29 HG29;obtain ⟨ce29,hcl29,hM29,hcc29,hfr29⟩:=Kd.R_elem HO_249001.out z36 (x7_1 : Int) p29 q29;obtain rfl:=k36_openM hM29;have hx29_0 : w36.cell? ⟨go29,(x7_1 : Int).toNat * 3,none⟩ = some (.int .i64 ((rd_T36 x249001_1 x7_1).f0)):=hcc29 0 _ rfl;have hx29_1 : w36.cell? ⟨go29,(x7_1 : Int).toNat * 3+1,none⟩ = some (.int .i64 ((rd_T36 x249001_1 x7_1).f1)):=hcc29 1 _ rfl;have hx29_2 : w36.cell? ⟨go29,(x7_1 : Int).toNat * 3+2,none⟩ = some (.int .i64 ((rd_T36 x249001_1 x7_1).f2)):=hcc29 2 _ rfl;have hf29_0 : w36.frozen? ⟨go29,(x7_1 : Int).toNat * 3,none⟩ = false:=hfr29 0;have hf29_1 : w36.frozen? ⟨go29,(x7_1 : Int).toNat * 3+1,none⟩ = false:=hfr29 1;have hf29_2 : w36.frozen? ⟨go29,(x7_1 : Int).toNat * 3+2,none⟩ = false:=hfr29 2;clear hcl29 hcc29 hfr29 hM29;replace p29:=eq_true p29;replace q29:=eq_true q29;have HX39:=aMx13 (show Kd.R k36 36 w36 w.heap.size (fun k_ => k_ ≠ gb250) (.slice (some ⟨go29,0,none⟩) x249001_1.length co29) x249001_1 from (by (with_reducible repeat (first|apply Kd.R_alloc|apply Kd.R_drewN|apply Kd.R_drew));exact HO_249001.out));obtain ⟨ce39,hcl39,hM39,hcc39,hfr39⟩:=Kd.R_elem HX39.out z36 (x7_1 : Int) (of_decide_eq_true (by first|(with_reducible assumption)|assumption)) (by have h_ : (x7_1 : Int) < ((x249001_1.length : Int) : Int):=of_decide_eq_true (by first|(with_reducible assumption)|assumption);first|exact h_|(have e_:=(Kd.R_reads' HO_249001.out).1;omega)|simpa using h_);obtain rfl:=k36_openM hM39;have HP39:=Kd.R_seg HX39.out (x7_1 : Int) (of_decide_eq_true (by first|(with_reducible assumption)|assumption)) (by have h_ : (x7_1 : Int) < ((x249001_1.length : Int) : Int):=of_decide_eq_true (by first|(with_reducible assumption)|assumption);first|exact h_|(have e_:=(Kd.R_reads' HO_249001.out).1;omega)|simpa using h_) (seg:=[.int .i64 ((rd_T36 l0_1 x7_1).f0),.int .i64 ((rd_T36 l0_1 x7_1).f2),.int .i64 ((rd_T36 l0_1 x7_1).f1)]) (j:=0) hcl39 hcc39 (show 3 ≤ 3 from by decide) (x':=(⟨(rd_T36 l0_1 x7_1).f0,(rd_T36 l0_1 x7_1).f2,(rd_T36 l0_1 x7_1).f1⟩ : S36)) (k36_mkM _ _ _ (⟨(rd_T36 l0_1 x7_1).f0,(rd_T36 l0_1 x7_1).f2,(rd_T36 l0_1 x7_1).f1⟩ : S36) ) (fun _ hk => hk);have hx39_0:=hcc39 0 _ rfl;(try simp only [show (k36).sz = 3 from rfl,Nat.mul_one,Nat.add_zero] at hx39_0);have hf39_0:=hfr39 0;(try simp only [show (k36).sz = 3 from rfl,Nat.mul_one,Nat.add_zero] at hf39_0);have hx39_1:=hcc39 1 _ rfl;(try simp only [show (k36).sz = 3 from rfl,Nat.mul_one,Nat.add_zero] at hx39_1);have hf39_1:=hfr39 1;(try simp only [show (k36).sz = 3 from rfl,Nat.mul_one,Nat.add_zero] at hf39_1);have hx39_2:=hcc39 2 _ rfl;(try simp only [show (k36).sz = 3 from rfl,Nat.mul_one,Nat.add_zero] at hx39_2);have hf39_2:=hfr39 2;(try simp only [show (k36).sz = 3 from rfl,Nat.mul_one,Nat.add_zero] at hf39_2);clear hcl39 hcc39 hfr39 hM39)|((with_reducible refine gate_store (t:=36) (p:=49) rfl ?_);refine store_event (t:=36) (p:=49) (v:=?vo_w40) (w1:=(((w36.setCell ⟨go29,(x7_1 : Int).toNat * 3,none⟩ (.int .i64 ((rd_T36 l0_1 x7_1).f0))).setCell ⟨go29,(x7_1 : Int).toNat * 3+1,none⟩ (.int .i64 ((rd_T36 l0_1 x7_1).f2))).setCell ⟨go29,(x7_1 : Int).toNat * 3+2,none⟩ (.int .i64 ((rd_T36 l0_1 x7_1).f1)))) ?hg ?ho ?hn ?hr ?_;(case ho => rfl);(case hg => rfl);(case hn => rfl);(case hr => first|(go_simp;done)|(go_simp;rfl));intro w40 hw;have hg : w36.grownBy w40 (some go29):=(by rw [hw];exact HP39.2);have hp_ : Kd.R k36 36 w40 w.heap.size (fun k_ => k_ ≠ gb250) (.slice (some ⟨go29,0,none⟩) x249001_1.length co29) y251:=(by rw [hw,Ny251.out];exact HP39.1);clear HP39;have n0_:=aMx13 (Kd.R_over' (v:=(.slice (some ⟨go29,0,none⟩) x249001_1.length co29)) (by (with_reducible repeat (first|apply Kd.R_alloc|apply Kd.R_drewN|apply Kd.R_drew));exact HO_249000.out) (Kd.R_typed HO_249001.out) (by decide) hg);have n1_:=aMx13 (hp_);have n2_:=aMx13 (blk_grown (g:=gb238) (o:=.cells #[.slice A0_0 l0_0.length c0_0,.slice (some ad249) l0_1.length c0_1] 25 (0,0)) (by (with_reducible repeat (first|refine blk_drewN ?_ _|refine blk_drew ?_|refine blk_alloc ?_ _));exact BK238.out) hg (Kd.R_ne HO_249001.out BK238.out (by decide)));have n3_:=aMx13 (blk_grown (g:=gb248) (o:=.cells #[.slice Ao21 t242.length co21,.slice (some ⟨go29,0,none⟩) x249001_1.length co29] 25 (0,0)) (by (with_reducible repeat (first|refine blk_drewN ?_ _|refine blk_drew ?_|refine blk_alloc ?_ _));exact BK248.out) hg (Kd.R_ne HO_249001.out BK248.out (by decide)));have n4_:=aMx13 (blk_grown (g:=gb250) (o:=.cells #[.int .i64 ((rd_T36 l0_1 x7_1).f0),.int .i64 ((rd_T36 l0_1 x7_1).f1),.int .i64 ((rd_T36 l0_1 x7_1).f2)] 36 (0,0)) (by (with_reducible repeat (first|refine blk_drewN ?_ _|refine blk_drew ?_|refine blk_alloc ?_ _));exact BK250.out) hg (Kd.R_away HO_249001.out (fun _ hk => hk)));have n5_:=aMx13 ((by rw [hw];exact below_set (below_set (below_set (HB.out) GB29.out) GB29.out) GB29.out : Below w.heap.size w w40));clear HO_249000;clear HO_249001;clear BK238;clear BK248;clear BK250;clear HB;have HO_249000:=n0_;have HO_249001:=n1_;have BK238:=n2_;have BK248:=n3_;have BK250:=n4_;have HB:=n5_;clear n0_ n1_ n2_ n3_ n4_ n5_;clear hg hw hp_))
        go_roundg k1
        case measure => have:=HK1.out;omega
        case rel => exact ⟨(wrap64 (x7_1+1)),(y251),(.slice (some ⟨go29,0,none⟩) x249001_1.length co29),(by first | rfl | (simp;done) | (simp [*];done) | (simp [wrap64];done)),H',⟨by have:=HK1.out;omega⟩,⟨by (with_reducible repeat (first | apply Kd.R_alloc | apply Kd.R_drewN | apply Kd.R_drew));exact HO_249000.out⟩,⟨by (with_reducible repeat (first | apply Kd.R_alloc | apply Kd.R_drewN | apply Kd.R_drew));exact Kd.R_mono HO_249001.out (fun _ hk => trivial)⟩,⟨by (with_reducible repeat (first | refine blk_drewN ?_ _ | refine blk_drew ?_ | refine blk_alloc ?_ _));exact BK238.out⟩,⟨by (with_reducible repeat (first | refine blk_drewN ?_ _ | refine blk_drew ?_ | refine blk_alloc ?_ _));exact BK248.out⟩,⟨by repeat (first | (with_reducible first | exact HB.out | apply below_alloc | apply pw_below_drewN | apply below_drew1 | refine below_set ?_ GE238.out | refine below_set ?_ GE248.out | refine below_set ?_ GE250.out) | exact HB.out)⟩⟩
       ·rw [if_neg c28] at H
        exact absurd H (by simp)
      ·rw [if_neg c27] at H
       exact absurd H (by simp)
     ·rw [if_neg c26] at H
      have c26b0 : decide (x7_1 < (l0_1.length : Int)) = false:=decide_eq_false c26
      clear c26
      replace H:=Option.bind_eq_some_iff.mp H
      obtain ⟨t252,A410,H⟩:=H
      replace H : (if t252 = t241 then (if t241 = 0 then (lapidarylaw10_MeshFlips.j1 k1 a1 ((l0_1.length : Int) == 0) l0_0 l0_1 t242 x249001_1) else (lapidarylaw10_MeshFlips.j1 k1 a1 true l0_0 l0_1 t242 x249001_1)) else (some false)) = some r:=H
      have A41:=aMx13 A410
      clear A410
      by_cases c42 : t252 = t241
      ·rw [if_pos c42] at H
       have c42b0 : (t252 == t241) = true:=beq_iff_eq.mpr c42
       have c42b1 : (t252 != t241) = false:=bne_eq_false_iff_eq.mpr c42
       clear c42
       have HC43:=aMx13 H
       clear H
       have hnb44:=NB238_248.out
       have hnc44:=NB248_238.out
       have hcz45_0 : wr.cell? ⟨gb238,0,none⟩ = some (.slice A0_0 l0_0.length c0_0):=(blk_cell BK238.out 0).trans rfl
       have hcz45_1 : wr.cell? ⟨gb238,1,none⟩ = some (.slice A0_1 l0_1.length c0_1):=(blk_cell BK238.out 1).trans rfl
       have hfz45_0:=blk_frozen BK238.out 0
       have hfz45_1:=blk_frozen BK238.out 1
       have hcz46_0 : wr.cell? ⟨gb248,0,none⟩ = some (.slice Ao21 t242.length co21):=(blk_cell BK248.out 0).trans rfl
       have hcz46_1 : wr.cell? ⟨gb248,1,none⟩ = some (u249001):=(blk_cell BK248.out 1).trans rfl
       have hfz46_0:=blk_frozen BK248.out 0
       have hfz46_1:=blk_frozen BK248.out 1
       obtain ⟨Ao47,co47,eo47⟩:=Kd.R_slice HO_249001.out
       subst eo47
       go_upto_region 14 with (first | ((with_reducible refine gate_callee (f:=14) rfl ?_);refine goesL_ (some 51) rfl rfl Tryd.func14 (by kernel_rfl) rfl #[.agg #[.slice Ao21 t242.length co21,.slice Ao47 x249001_1.length co47]] rfl (by (try simp only [List.map_toArray,List.map_cons,List.map_nil]);first | done | rfl | (simp only [List.length_drop,List.length_take];rfl)) ?_;(with_reducible refine (mesh_Check.calls k1 _ _ t242 _ _ x249001_1 t252 _ ?side1 ?side2 ?side3 ?side4 ?sideG A41.out).mono ?_);(case sideG => exact Kd.C_below HG.out (by repeat (first | (with_reducible first | exact HB.out | apply below_alloc | apply pw_below_drewN | apply below_drew1 | refine below_set ?_ GE238.out | refine below_set ?_ GE248.out) | exact HB.out)));(case side1 => repeat (first | exact (Kd.R_reads' HO_249000.out).2.2 | (with_reducible refine Kd.C_alloc ?_ _) | (with_reducible refine Kd.C_drewN ?_ _) | (with_reducible refine Kd.C_drew ?_)));(case side2 => exact (Kd.R_reads' HO_249000.out).2.1);(case side3 => repeat (first | exact (Kd.R_reads' HO_249001.out).2.2 | (with_reducible refine Kd.C_alloc ?_ _) | (with_reducible refine Kd.C_drewN ?_ _) | (with_reducible refine Kd.C_drew ?_)));(case side4 => exact (Kd.R_reads' HO_249001.out).2.1);rintro e w48 ⟨rfl,hb⟩;refine ⟨_,rfl,?_⟩;have n0_:=aMx13 (Kd.R_below (by (with_reducible repeat (first | apply Kd.R_alloc | apply Kd.R_drewN | apply Kd.R_drew));exact HO_249000.out) hb);have n1_:=aMx13 (Kd.R_below (by (with_reducible repeat (first | apply Kd.R_alloc | apply Kd.R_drewN | apply Kd.R_drew));exact HO_249001.out) hb);have n2_:=aMx13 (blk_below (g:=gb238) (o:=.cells #[.slice A0_0 l0_0.length c0_0,.slice A0_1 l0_1.length c0_1] 25 (0,0)) (by (with_reducible repeat (first | refine blk_drewN ?_ _ | refine blk_drew ?_ | refine blk_alloc ?_ _));exact BK238.out) hb);have n3_:=aMx13 (blk_below (g:=gb248) (o:=.cells #[.slice Ao21 t242.length co21,.slice Ao47 x249001_1.length co47] 25 (0,0)) (by (with_reducible repeat (first | refine blk_drewN ?_ _ | refine blk_drew ?_ | refine blk_alloc ?_ _));exact BK248.out) hb);have n4_:=aMx13 (below_step (by repeat (first | (with_reducible first | exact HB.out | apply below_alloc | apply pw_below_drewN | apply below_drew1 | refine below_set ?_ GE238.out | refine below_set ?_ GE248.out) | exact HB.out)) hb);clear HO_249000;clear HO_249001;clear BK238;clear BK248;clear HB;have HO_249000:=n0_;have HO_249001:=n1_;have BK238:=n2_;have BK248:=n3_;have HB:=n4_;clear n0_ n1_ n2_ n3_ n4_;(try clear hb);(try clear hb2);(try clear hk);(try clear hi)))
       (try simp only [Act.put,sAx13,sBx13,sCx13])
       go_cut [61] (fun v61 wc => ∃ (kq : Nat) (x61_42 : Bool),v61 = .bool x61_42 ∧ Aside0 (lapidarylaw10_MeshFlips.j1 kq a1 x61_42 l0_0 l0_1 t242 x249001_1 = some r) ∧ Aside0 (kq ≤ k1) ∧ Aside0 (Kd.R k55 55 wc w.heap.size (fun _ => True) (.slice Ao21 t242.length co21) t242) ∧ Aside0 (Kd.R k36 36 wc w.heap.size (fun _ => True) (.slice Ao47 x249001_1.length co47) x249001_1) ∧ Aside0 (wc.heap[gb238]? = some (.cells #[(.slice A0_0 l0_0.length c0_0),(.slice A0_1 l0_1.length c0_1)] 25 (0,0))) ∧ Aside0 (wc.heap[gb248]? = some (.cells #[(.slice Ao21 t242.length co21),(.slice Ao47 x249001_1.length co47)] 25 (0,0))) ∧ Aside0 (Below w.heap.size w wc))
       case first =>
        have H:=HC43.out
        clear HC43
        by_cases c49 : t241 = 0
        ·rw [if_pos c49] at H
         have c49b0 : (t241 == 0) = true:=beq_iff_eq.mpr c49
         have c49b1 : (t241 != 0) = false:=bne_eq_false_iff_eq.mpr c49
         clear c49
         (first | rw [c49b0] | (simp only [i64_w,i32_w];rw [c49b0]) | skip)
         have H':=aMx13 H
         clear H
         have hnb50:=NB238_248.out
         have hnc50:=NB248_238.out
         have hcz51_0 : w48.cell? ⟨gb238,0,none⟩ = some (.slice A0_0 l0_0.length c0_0):=(blk_cell BK238.out 0).trans rfl
         have hcz51_1 : w48.cell? ⟨gb238,1,none⟩ = some (.slice A0_1 l0_1.length c0_1):=(blk_cell BK238.out 1).trans rfl
         have hfz51_0:=blk_frozen BK238.out 0
         have hfz51_1:=blk_frozen BK238.out 1
         go_wp2
         go_meet
         case rel => exact ⟨_,(((l0_1.length : Int) == 0)),(by first | rfl | (simp;done) | (simp [*];done) | (simp [wrap64];done)),H',⟨by have:=HK1.out;first | omega | exact Nat.le_refl _⟩,⟨by (with_reducible repeat (first | apply Kd.R_alloc | apply Kd.R_drewN | apply Kd.R_drew));exact HO_249000.out⟩,⟨by (with_reducible repeat (first | apply Kd.R_alloc | apply Kd.R_drewN | apply Kd.R_drew));exact HO_249001.out⟩,⟨by (with_reducible repeat (first | refine blk_drewN ?_ _ | refine blk_drew ?_ | refine blk_alloc ?_ _));exact BK238.out⟩,⟨by (with_reducible repeat (first | refine blk_drewN ?_ _ | refine blk_drew ?_ | refine blk_alloc ?_ _));exact BK248.out⟩,⟨by repeat (first | (with_reducible first | exact HB.out | apply below_alloc | apply pw_below_drewN | apply below_drew1 | refine below_set ?_ GE238.out | refine below_set ?_ GE248.out) | exact HB.out)⟩⟩
        ·rw [if_neg c49] at H
         have c49b0 : (t241 == 0) = false:=beq_eq_false_iff_ne.mpr c49
         have c49b1 : (t241 != 0) = true:=bne_iff_ne.mpr c49
         (first | rw [c49b0] | (simp only [i64_w,i32_w];rw [c49b0]) | skip)
         have H':=aMx13 H
         clear H
         go_wp2
         go_meet
         case rel => exact ⟨_,(true),(by first | rfl | (simp;done) | (simp [*];done) | (simp [wrap64];done)),H',⟨by have:=HK1.out;first | omega | exact Nat.le_refl _⟩,⟨by (with_reducible repeat (first | apply Kd.R_alloc | apply Kd.R_drewN | apply Kd.R_drew));exact HO_249000.out⟩,⟨by (with_reducible repeat (first | apply Kd.R_alloc | apply Kd.R_drewN | apply Kd.R_drew));exact HO_249001.out⟩,⟨by (with_reducible repeat (first | refine blk_drewN ?_ _ | refine blk_drew ?_ | refine blk_alloc ?_ _));exact BK238.out⟩,⟨by (with_reducible repeat (first | refine blk_drewN ?_ _ | refine blk_drew ?_ | refine blk_alloc ?_ _));exact BK248.out⟩,⟨by repeat (first | (with_reducible first | exact HB.out | apply below_alloc | apply pw_below_drewN | apply below_drew1 | refine below_set ?_ GE238.out | refine below_set ?_ GE248.out) | exact HB.out)⟩⟩
       case rest =>
        clear HC43
        (try clear c1);(try clear c2);(try clear p2);(try clear q2);(try clear hx2);(try clear hf2);(try clear c3);(try clear hx3);(try clear hf3);(try clear c4);(try clear c5);(try clear c6);(try clear p6);(try clear c12);(try clear c12b0);(try clear c12b1);(try clear c12b2);(try clear c13);(try clear c14);(try clear c21);(try clear c22);(try clear p24);(try clear q24);(try clear hx24);(try clear c26);(try clear c26b0);(try clear c27);(try clear c27b0);(try clear c28);(try clear c28b0);(try clear c29);(try clear p29);(try clear q29);(try clear hx29);(try clear hf29);(try clear c30);(try clear c33);(try clear c34);(try clear c39);(try clear hx39);(try clear hf39);(try clear c42);(try clear c42b0);(try clear c42b1);(try clear c44);(try clear c49);(try clear c49b0);(try clear c49b1);(try clear c50);(try clear hcz14_0);(try clear hcz14_1);(try clear hcz16_0);(try clear hcz16_1);(try clear hcz18_0);(try clear hcz18_1);(try clear hcz23_0);(try clear hcz23_1);(try clear hcz25_0);(try clear hcz25_1);(try clear hcz31_0);(try clear hcz31_1);(try clear hcz35_0);(try clear hcz35_1);(try clear hcz35_2);(try clear hcz37_0);(try clear hcz37_1);(try clear hcz38_0);(try clear hcz38_1);(try clear hcz38_2);(try clear hcz45_0);(try clear hcz45_1);(try clear hcz46_0);(try clear hcz46_1);(try clear hcz51_0);(try clear hcz51_1);(try clear hcz7_0);(try clear hcz7_1);(try clear hfz14_0);(try clear hfz14_1);(try clear hfz16_0);(try clear hfz16_1);(try clear hfz18_0);(try clear hfz18_1);(try clear hfz23_0);(try clear hfz23_1);(try clear hfz25_0);(try clear hfz25_1);(try clear hfz31_0);(try clear hfz31_1);(try clear hfz35_0);(try clear hfz35_1);(try clear hfz35_2);(try clear hfz37_0);(try clear hfz37_1);(try clear hfz38_0);(try clear hfz38_1);(try clear hfz38_2);(try clear hfz45_0);(try clear hfz45_1);(try clear hfz46_0);(try clear hfz46_1);(try clear hfz51_0);(try clear hfz51_1);(try clear hfz7_0);(try clear hfz7_1);(try clear hx249_0);(try clear hx249_1);(try clear hx249_2);(try clear hx29_0);(try clear hx29_1);(try clear hx29_2);(try clear hx39_0);(try clear hx39_1);(try clear hx39_2);(try clear p2);(try clear p249);(try clear p29);(try clear q249);(try clear q29)
        obtain ⟨kq,x61_42,rfl,HA,HJ42,HO_249000,HO_249001,BK238,BK248,HB⟩:=hcut
        cases kq with
        | zero => exact absurd HA.out (by simp [lapidarylaw10_MeshFlips.j1])
        | succ kj42 =>
         have H:=HA.out
         clear HA
         simp only [lapidarylaw10_MeshFlips.j1] at H
         by_cases c52 : x61_42 = true
         ·subst c52
          have H1 : ((lapidarylaw10_known.f).bind fun t253 => (some t253)) = some r:=by rw [if_pos rfl] at H;exact H
          clear H
          have H:=H1
          clear H1
          replace H:=Option.bind_eq_some_iff.mp H
          obtain ⟨t253,A530,H⟩:=H
          replace H : (some t253) = some r:=H
          have A53:=aMx13 A530
          clear A530
          obtain rfl:=Option.some.inj H
          go_wp2_with (first|((with_reducible refine gate_callee (f:=13) rfl ?_);refine goesL_ (some 62) rfl rfl Tryd.func13 (by kernel_rfl) rfl #[] rfl (by (try simp only [List.map_toArray,List.map_cons,List.map_nil]);first|done|rfl|(simp only [List.length_drop,List.length_take];rfl)) ?_;(with_reducible refine (lapidarylaw10_known.calls  t253 _ ?sideG A53.out).mono ?_);(case sideG => exact Kd.C_below HG.out (by repeat (first|(with_reducible first|exact HB.out|apply below_alloc|apply pw_below_drewN|apply below_drew1|refine below_set ?_ GE238.out|refine below_set ?_ GE248.out)|exact HB.out)));rintro e w54 ⟨rfl,hb⟩;refine ⟨_,rfl,?_⟩;have n0_:=aMx13 (Kd.R_below (by (with_reducible repeat (first|apply Kd.R_alloc|apply Kd.R_drewN|apply Kd.R_drew));exact HO_249000.out) hb);have n1_:=aMx13 (Kd.R_below (by (with_reducible repeat (first|apply Kd.R_alloc|apply Kd.R_drewN|apply Kd.R_drew));exact HO_249001.out) hb);have n2_:=aMx13 (blk_below (g:=gb238) (o:=.cells #[.slice A0_0 l0_0.length c0_0,.slice A0_1 l0_1.length c0_1] 25 (0,0)) (by (with_reducible repeat (first|refine blk_drewN ?_ _|refine blk_drew ?_|refine blk_alloc ?_ _));exact BK238.out) hb);have n3_:=aMx13 (blk_below (g:=gb248) (o:=.cells #[.slice Ao21 t242.length co21,.slice Ao47 x249001_1.length co47] 25 (0,0)) (by (with_reducible repeat (first|refine blk_drewN ?_ _|refine blk_drew ?_|refine blk_alloc ?_ _));exact BK248.out) hb);have n4_:=aMx13 (below_step (by repeat (first|(with_reducible first|exact HB.out|apply below_alloc|apply pw_below_drewN|apply below_drew1|refine below_set ?_ GE238.out|refine below_set ?_ GE248.out)|exact HB.out)) hb);clear HO_249000;clear HO_249001;clear BK238;clear BK248;clear HB;have HO_249000:=n0_;have HO_249001:=n1_;have BK238:=n2_;have BK248:=n3_;have HB:=n4_;clear n0_ n1_ n2_ n3_ n4_;(try clear hb);(try clear hb2);(try clear hk);(try clear hi)))
          go_ret
          exact ⟨by first | rfl | (simp [errW_none,errW_some]<;>rfl) | (simp [*,errW_none,errW_some]<;>rfl),by repeat (first | (with_reducible first | exact HB.out | apply below_alloc | apply pw_below_drewN | apply below_drew1 | refine below_set ?_ GE238.out | refine below_set ?_ GE248.out) | exact HB.out)⟩
         ·replace c52:=Bool.eq_false_iff.mpr c52
          subst c52
          have H1 : (if (l0_1.length : Int) = 0 then (none) else ((mesh_Copy.f l0_0 l0_1).bind fun bt254 => (if 0 ≤ (Int.tmod (wrap64 (a1)) (l0_1.length : Int)) then (if (Int.tmod (wrap64 (a1)) (l0_1.length : Int)) < (x249001_1.length : Int) then (if (Int.tmod (wrap64 (a1)) (l0_1.length : Int)) < (bt254.2.length : Int) then (lapidarylaw10_MeshFlips.l1 kj42 (Int.tmod (wrap64 (a1)) (l0_1.length : Int)) false 0 l0_0 l0_1 bt254.1 (bt254.2.set ((Int.tmod (wrap64 (a1)) (l0_1.length : Int)) : Int).toNat (⟨(rd_T36 x249001_1 (Int.tmod (wrap64 (a1)) (l0_1.length : Int))).f0,(rd_T36 x249001_1 (Int.tmod (wrap64 (a1)) (l0_1.length : Int))).f1,(rd_T36 x249001_1 (Int.tmod (wrap64 (a1)) (l0_1.length : Int))).f2⟩ : S36))) else (none)) else (none)) else (none)))) = some r:=by rw [if_neg (show ¬ (false = true) by decide)] at H;exact H
          clear H
          have H:=H1
          clear H1
          by_cases c55 : (l0_1.length : Int) = 0
          ·rw [if_pos c55] at H
           exact absurd H (by simp)
          ·rw [if_neg c55] at H
           have c55b0 : ((l0_1.length : Int) == 0) = false:=beq_eq_false_iff_ne.mpr c55
           have c55b1 : ((l0_1.length : Int) != 0) = true:=bne_iff_ne.mpr c55
           have c55b2 : ¬ (l0_1 = []):=fun h_ => c55 (by rw [h_];rfl)
           replace H:=Option.bind_eq_some_iff.mp H
           obtain ⟨⟨t254,t257⟩,A560,H⟩:=H
           replace H : (if 0 ≤ (Int.tmod (wrap64 (a1)) (l0_1.length : Int)) then (if (Int.tmod (wrap64 (a1)) (l0_1.length : Int)) < (x249001_1.length : Int) then (if (Int.tmod (wrap64 (a1)) (l0_1.length : Int)) < (t257.length : Int) then (lapidarylaw10_MeshFlips.l1 kj42 (Int.tmod (wrap64 (a1)) (l0_1.length : Int)) false 0 l0_0 l0_1 t254 (t257.set ((Int.tmod (wrap64 (a1)) (l0_1.length : Int)) : Int).toNat (⟨(rd_T36 x249001_1 (Int.tmod (wrap64 (a1)) (l0_1.length : Int))).f0,(rd_T36 x249001_1 (Int.tmod (wrap64 (a1)) (l0_1.length : Int))).f1,(rd_T36 x249001_1 (Int.tmod (wrap64 (a1)) (l0_1.length : Int))).f2⟩ : S36))) else (none)) else (none)) else (none)) = some r:=H
           have A56:=aMx13 A560
           clear A560
           obtain ⟨ji57,hji57⟩ : ∃ j_ : Int,(Int.tmod (wrap64 (a1)) (l0_1.length : Int)) = j_:=⟨_,rfl⟩
           replace H : (if 0 ≤ (ji57) then (if (ji57) < (x249001_1.length : Int) then (if (ji57) < (t257.length : Int) then (lapidarylaw10_MeshFlips.l1 kj42 ji57 false 0 l0_0 l0_1 t254 (t257.set ((ji57) : Int).toNat (⟨(rd_T36 x249001_1 (ji57)).f0,(rd_T36 x249001_1 (ji57)).f1,(rd_T36 x249001_1 (ji57)).f2⟩ : S36))) else (none)) else (none)) else (none)) = some r:=by first | (rw [hji57] at H;exact H) | (simp only [hji57] at H ⊢;exact H)
           (try rw [hji57] at A56)
           by_cases c58 : 0 ≤ (ji57)
           ·rw [if_pos c58] at H
            have c58b0 : decide (0 ≤ (ji57)) = true:=decide_eq_true c58
            clear c58
            by_cases c59 : (ji57) < (x249001_1.length : Int)
            ·rw [if_pos c59] at H
             have c59b0 : decide ((ji57) < (x249001_1.length : Int)) = true:=decide_eq_true c59
             clear c59
             by_cases c60 : (ji57) < (t257.length : Int)
             ·rw [if_pos c60] at H
              have c60b0 : decide ((ji57) < (t257.length : Int)) = true:=decide_eq_true c60
              clear c60
              obtain ⟨y262,hy262⟩ : ∃ y_ : List (S36),y_ = (t257.set ((ji57) : Int).toNat (⟨(rd_T36 x249001_1 (ji57)).f0,(rd_T36 x249001_1 (ji57)).f1,(rd_T36 x249001_1 (ji57)).f2⟩ : S36)):=⟨_,rfl⟩
              replace H : (lapidarylaw10_MeshFlips.l1 kj42 ji57 false 0 l0_0 l0_1 t254 y262) = some r:=by first | (rw [hy262];with_reducible exact H) | (have H2_:=(Option.bind_some _ _).symm.trans H;rw [hy262];with_reducible exact H2_) | (have H2_:=(Option.bind_some _ _).symm.trans H;with_reducible exact H2_) | with_reducible exact H | (rw [hy262];exact H) | exact H
              have Ny262:=aMx13 hy262
              clear hy262
              have H':=aMx13 H
              clear H
              have hnb62:=NB238_248.out
              have hnc62:=NB248_238.out
              have hcz63_0 : wc.cell? ⟨gb238,0,none⟩ = some (.slice A0_0 l0_0.length c0_0):=(blk_cell BK238.out 0).trans rfl
              have hcz63_1 : wc.cell? ⟨gb238,1,none⟩ = some (.slice A0_1 l0_1.length c0_1):=(blk_cell BK238.out 1).trans rfl
              have hfz63_0:=blk_frozen BK238.out 0
              have hfz63_1:=blk_frozen BK238.out 1
              try go_wp2_with (first|((with_reducible refine gate_callee (f:=21) rfl ?_);refine goesL_ (some 70) rfl rfl Tryd.func21 (by kernel_rfl) rfl #[.agg #[.slice A0_0 l0_0.length c0_0,.slice A0_1 l0_1.length c0_1]] rfl (by (try simp only [List.map_toArray,List.map_cons,List.map_nil]);first|done|rfl|(simp only [List.length_drop,List.length_take];rfl)) ?_;(with_reducible refine (mesh_Copy.calls _ _ l0_0 _ _ l0_1 t254 t257 _ ?side1 ?side2 ?side3 ?side4 A56.out).mono ?_);(case side1 => repeat (first|exact (Kd.C_below HR0_0.out HB.out)|(with_reducible first|refine Kd.C_alloc ?_ _|refine Kd.C_drewN ?_ _|refine Kd.C_drew ?_)));(case side2 => exact HC0_0.out);(case side3 => repeat (first|exact (Kd.C_below HR0_1.out HB.out)|(with_reducible first|refine Kd.C_alloc ?_ _|refine Kd.C_drewN ?_ _|refine Kd.C_drew ?_)));(case side4 => exact HC0_1.out);rintro e w64 ⟨v255,v258,rfl,ho0,ho1,hb⟩;refine ⟨_,rfl,?_⟩;have n0_:=aMx13 (Kd.R_elder' (by (with_reducible repeat (first|apply Kd.R_alloc|apply Kd.R_drewN|apply Kd.R_drew));exact HO_249000.out) (Kd.R_base ho0) hb);have n1_:=aMx13 (Kd.R_elder' (by (with_reducible repeat (first|apply Kd.R_alloc|apply Kd.R_drewN|apply Kd.R_drew));exact HO_249001.out) (Kd.R_base ho1) hb);have n2_:=aMx13 (Kd.R_lower (Kd.R_new' ho0 (Kd.R_lt (by (with_reducible repeat (first|apply Kd.R_alloc|apply Kd.R_drewN|apply Kd.R_drew));exact HO_249000.out))) (below_size (by repeat (first|(with_reducible first|exact HB.out|apply below_alloc|apply pw_below_drewN|apply below_drew1|refine below_set ?_ GE238.out|refine below_set ?_ GE248.out)|exact HB.out))));have n3_:=aMx13 (Kd.R_lower (Kd.R_new' ho1 (Kd.R_lt (by (with_reducible repeat (first|apply Kd.R_alloc|apply Kd.R_drewN|apply Kd.R_drew));exact HO_249001.out))) (below_size (by repeat (first|(with_reducible first|exact HB.out|apply below_alloc|apply pw_below_drewN|apply below_drew1|refine below_set ?_ GE238.out|refine below_set ?_ GE248.out)|exact HB.out))));have n4_:=aMx13 (blk_below (g:=gb238) (o:=.cells #[.slice A0_0 l0_0.length c0_0,.slice A0_1 l0_1.length c0_1] 25 (0,0)) (by (with_reducible repeat (first|refine blk_drewN ?_ _|refine blk_drew ?_|refine blk_alloc ?_ _));exact BK238.out) hb);have n5_:=aMx13 (blk_below (g:=gb248) (o:=.cells #[.slice Ao21 t242.length co21,.slice Ao47 x249001_1.length co47] 25 (0,0)) (by (with_reducible repeat (first|refine blk_drewN ?_ _|refine blk_drew ?_|refine blk_alloc ?_ _));exact BK248.out) hb);have n6_:=aMx13 (below_step (by repeat (first|(with_reducible first|exact HB.out|apply below_alloc|apply pw_below_drewN|apply below_drew1|refine below_set ?_ GE238.out|refine below_set ?_ GE248.out)|exact HB.out)) hb);clear HO_249000;clear HO_249001;clear BK238;clear BK248;clear HB;have HO_249000:=n0_;have HO_249001:=n1_;have HO256:=n2_;have HO259:=n3_;have BK238:=n4_;have BK248:=n5_;have HB:=n6_;clear n0_ n1_ n2_ n3_ n4_ n5_ n6_;(try clear hb);(try clear hb2);(try clear hk);(try clear hi);(try clear ho0);(try clear ho1))|((with_reducible refine gate_dst (N:=10) rfl ?_);(try (refine gate_guard (by rfl) ?_;dsimp only));refine box_event ?hg (N:=10) ?hd (cs:=#[.slice none 0 0,.slice none 0 0]) (t:=25) ?hr ?_;(case hd => rfl);(case hg => rfl);(case hr => first|(go_simp;done)|(go_simp;rfl));intro gb260 hg w65 hbox hb;have n0_:=aMx13 (Kd.R_below (by (with_reducible repeat (first|apply Kd.R_alloc|apply Kd.R_drewN|apply Kd.R_drew));exact HO_249000.out) hb);have n1_:=aMx13 (Kd.R_below (by (with_reducible repeat (first|apply Kd.R_alloc|apply Kd.R_drewN|apply Kd.R_drew));exact HO_249001.out) hb);have n2_:=aMx13 (Kd.R_below (by (with_reducible repeat (first|apply Kd.R_alloc|apply Kd.R_drewN|apply Kd.R_drew));exact HO256.out) hb);have n3_:=aMx13 (Kd.R_below (by (with_reducible repeat (first|apply Kd.R_alloc|apply Kd.R_drewN|apply Kd.R_drew));exact HO259.out) hb);have n4_:=aMx13 (blk_below (g:=gb238) (o:=.cells #[.slice A0_0 l0_0.length c0_0,.slice A0_1 l0_1.length c0_1] 25 (0,0)) (by (with_reducible repeat (first|refine blk_drewN ?_ _|refine blk_drew ?_|refine blk_alloc ?_ _));exact BK238.out) hb);have n5_:=aMx13 (blk_below (g:=gb248) (o:=.cells #[.slice Ao21 t242.length co21,.slice Ao47 x249001_1.length co47] 25 (0,0)) (by (with_reducible repeat (first|refine blk_drewN ?_ _|refine blk_drew ?_|refine blk_alloc ?_ _));exact BK248.out) hb);have n6_:=aMx13 (below_step (by repeat (first|(with_reducible first|exact HB.out|apply below_alloc|apply pw_below_drewN|apply below_drew1|refine below_set ?_ GE238.out|refine below_set ?_ GE248.out)|exact HB.out)) hb);have n7_:=aMx13 (hbox);have n8_:=aMx13 ((by rw [hg];exact (below_size (by repeat (first|(with_reducible first|exact HB.out|apply below_alloc|apply pw_below_drewN|apply below_drew1|refine below_set ?_ GE238.out|refine below_set ?_ GE248.out)|exact HB.out))) : w.heap.size ≤ gb260));have n9_:=aMx13 ((by rw [hg];exact (below_size (by repeat (first|(with_reducible first|exact HB.out|apply below_alloc|apply pw_below_drewN|apply below_drew1|refine below_set ?_ GE238.out|refine below_set ?_ GE248.out)|exact HB.out))) : w.heap.size ≤ gb260));have n10_:=aMx13 ((by rw [hg];exact Nat.ne_of_lt (blk_lt (g:=gb238) (o:=.cells #[.slice A0_0 l0_0.length c0_0,.slice A0_1 l0_1.length c0_1] 25 (0,0)) (by (with_reducible repeat (first|refine blk_drewN ?_ _|refine blk_drew ?_|refine blk_alloc ?_ _));exact BK238.out)) : gb238 ≠ gb260));have n11_:=aMx13 ((by rw [hg];exact Nat.ne_of_gt (blk_lt (g:=gb238) (o:=.cells #[.slice A0_0 l0_0.length c0_0,.slice A0_1 l0_1.length c0_1] 25 (0,0)) (by (with_reducible repeat (first|refine blk_drewN ?_ _|refine blk_drew ?_|refine blk_alloc ?_ _));exact BK238.out)) : gb260 ≠ gb238));have n12_:=aMx13 ((by rw [hg];exact Nat.ne_of_lt (blk_lt (g:=gb248) (o:=.cells #[.slice Ao21 t242.length co21,.slice Ao47 x249001_1.length co47] 25 (0,0)) (by (with_reducible repeat (first|refine blk_drewN ?_ _|refine blk_drew ?_|refine blk_alloc ?_ _));exact BK248.out)) : gb248 ≠ gb260));have n13_:=aMx13 ((by rw [hg];exact Nat.ne_of_gt (blk_lt (g:=gb248) (o:=.cells #[.slice Ao21 t242.length co21,.slice Ao47 x249001_1.length co47] 25 (0,0)) (by (with_reducible repeat (first|refine blk_drewN ?_ _|refine blk_drew ?_|refine blk_alloc ?_ _));exact BK248.out)) : gb260 ≠ gb248));clear HO_249000;clear HO_249001;clear HO256;clear HO259;clear BK238;clear BK248;clear HB;have HO_249000:=n0_;have HO_249001:=n1_;have HO256:=n2_;have HO259:=n3_;have BK238:=n4_;have BK248:=n5_;have HB:=n6_;have BK260:=n7_;have GW260:=n8_;have GE260:=n9_;have NB238_260:=n10_;have NB260_238:=n11_;have NB248_260:=n12_;have NB260_248:=n13_;clear n0_ n1_ n2_ n3_ n4_ n5_ n6_ n7_ n8_ n9_ n10_ n11_ n12_ n13_;clear hb hbox hg;obtain ⟨Ao66,co66,eo66⟩:=Kd.R_slice HO256.out;subst eo66;have hnb67:=NB260_238.out;have hnc67:=NB238_260.out;have hnb68:=NB260_248.out;have hnc68:=NB248_260.out;have hcz69_0 : w65.cell? ⟨gb260,0,none⟩ = some (.slice none 0 0):=(blk_cell BK260.out 0).trans rfl;have hcz69_1 : w65.cell? ⟨gb260,1,none⟩ = some (.slice none 0 0):=(blk_cell BK260.out 1).trans rfl;have hfz69_0:=blk_frozen BK260.out 0;have hfz69_1:=blk_frozen BK260.out 1;obtain ⟨Ao70,co70,eo70⟩:=Kd.R_slice HO259.out;subst eo70))
              have n0_ : Aside0 (Kd.R k55 55 ((w65.setCell ⟨gb260,0,none⟩ (.slice Ao66 t254.length co66)).setCell ⟨gb260,1,none⟩ (.slice Ao70 t257.length co70)) w.heap.size (fun k_ => some k_ ≠ (.slice Ao66 t254.length co66 : Value).ownBlock) (.slice Ao21 t242.length co21) t242):=⟨by (with_reducible repeat (first | apply Kd.R_alloc | apply Kd.R_drewN | apply Kd.R_drew));exact Kd.R_mono (Kd.R_far (p:=⟨gb260,1,none⟩) (Kd.R_far (p:=⟨gb260,0,none⟩) (Kd.R_types HO_249000.out BK260.out (by decide)) (fun _ hk => hk.2) (.slice Ao66 t254.length co66)) (fun _ hk => hk.2) (.slice Ao70 t257.length co70)) (fun _ hk => hk.1.2)⟩
              have n1_ : Aside0 (Kd.R k36 36 ((w65.setCell ⟨gb260,0,none⟩ (.slice Ao66 t254.length co66)).setCell ⟨gb260,1,none⟩ (.slice Ao70 t257.length co70)) w.heap.size (fun k_ => some k_ ≠ (.slice Ao70 t257.length co70 : Value).ownBlock) (.slice Ao47 x249001_1.length co47) x249001_1):=⟨by (with_reducible repeat (first | apply Kd.R_alloc | apply Kd.R_drewN | apply Kd.R_drew));exact Kd.R_mono (Kd.R_far (p:=⟨gb260,1,none⟩) (Kd.R_far (p:=⟨gb260,0,none⟩) (Kd.R_types HO_249001.out BK260.out (by decide)) (fun _ hk => hk.2) (.slice Ao66 t254.length co66)) (fun _ hk => hk.2) (.slice Ao70 t257.length co70)) (fun _ hk => hk.1.2)⟩
              have n2_ : Aside0 (Kd.R k55 55 ((w65.setCell ⟨gb260,0,none⟩ (.slice Ao66 t254.length co66)).setCell ⟨gb260,1,none⟩ (.slice Ao70 t257.length co70)) w.heap.size (fun k_ => some k_ ≠ (.slice Ao21 t242.length co21 : Value).ownBlock) (.slice Ao66 t254.length co66) t254):=⟨by (with_reducible repeat (first | apply Kd.R_alloc | apply Kd.R_drewN | apply Kd.R_drew));exact Kd.R_mono (Kd.R_far (p:=⟨gb260,1,none⟩) (Kd.R_far (p:=⟨gb260,0,none⟩) (Kd.R_types HO256.out BK260.out (by decide)) (fun _ hk => hk.2) (.slice Ao66 t254.length co66)) (fun _ hk => hk.2) (.slice Ao70 t257.length co70)) (fun _ hk => hk.1.2)⟩
              have n3_ : Aside0 (Kd.R k36 36 ((w65.setCell ⟨gb260,0,none⟩ (.slice Ao66 t254.length co66)).setCell ⟨gb260,1,none⟩ (.slice Ao70 t257.length co70)) w.heap.size (fun k_ => some k_ ≠ (.slice Ao47 x249001_1.length co47 : Value).ownBlock) (.slice Ao70 t257.length co70) t257):=⟨by (with_reducible repeat (first | apply Kd.R_alloc | apply Kd.R_drewN | apply Kd.R_drew));exact Kd.R_mono (Kd.R_far (p:=⟨gb260,1,none⟩) (Kd.R_far (p:=⟨gb260,0,none⟩) (Kd.R_types HO259.out BK260.out (by decide)) (fun _ hk => hk.2) (.slice Ao66 t254.length co66)) (fun _ hk => hk.2) (.slice Ao70 t257.length co70)) (fun _ hk => hk.1.2)⟩
              have n4_ : Aside0 (((w65.setCell ⟨gb260,0,none⟩ (.slice Ao66 t254.length co66)).setCell ⟨gb260,1,none⟩ (.slice Ao70 t257.length co70)).heap[gb238]? = some (.cells #[.slice A0_0 l0_0.length c0_0,.slice A0_1 l0_1.length c0_1] 25 (0,0))):=⟨by (with_reducible repeat (first | refine blk_drewN ?_ _ | refine blk_drew ?_ | refine blk_alloc ?_ _));refine blk_far ?_ NB238_260.out _;(with_reducible repeat (first | refine blk_drewN ?_ _ | refine blk_drew ?_ | refine blk_alloc ?_ _));refine blk_far ?_ NB238_260.out _;(with_reducible repeat (first | refine blk_drewN ?_ _ | refine blk_drew ?_ | refine blk_alloc ?_ _));exact BK238.out⟩
              have n5_ : Aside0 (((w65.setCell ⟨gb260,0,none⟩ (.slice Ao66 t254.length co66)).setCell ⟨gb260,1,none⟩ (.slice Ao70 t257.length co70)).heap[gb248]? = some (.cells #[.slice Ao21 t242.length co21,.slice Ao47 x249001_1.length co47] 25 (0,0))):=⟨by (with_reducible repeat (first | refine blk_drewN ?_ _ | refine blk_drew ?_ | refine blk_alloc ?_ _));refine blk_far ?_ NB248_260.out _;(with_reducible repeat (first | refine blk_drewN ?_ _ | refine blk_drew ?_ | refine blk_alloc ?_ _));refine blk_far ?_ NB248_260.out _;(with_reducible repeat (first | refine blk_drewN ?_ _ | refine blk_drew ?_ | refine blk_alloc ?_ _));exact BK248.out⟩
              have n6_ : Aside0 (((w65.setCell ⟨gb260,0,none⟩ (.slice Ao66 t254.length co66)).setCell ⟨gb260,1,none⟩ (.slice Ao70 t257.length co70)).heap[gb260]? = some (.cells #[.slice Ao66 t254.length co66,.slice Ao70 t257.length co70] 25 (0,0))):=⟨by (with_reducible repeat (first | refine blk_drewN ?_ _ | refine blk_drew ?_ | refine blk_alloc ?_ _));refine blk_put (cs:=#[.slice Ao66 t254.length co66,.slice none 0 0]) ?_ 1 _ rfl;(with_reducible repeat (first | refine blk_drewN ?_ _ | refine blk_drew ?_ | refine blk_alloc ?_ _));refine blk_put (cs:=#[.slice none 0 0,.slice none 0 0]) ?_ 0 _ rfl;(with_reducible repeat (first | refine blk_drewN ?_ _ | refine blk_drew ?_ | refine blk_alloc ?_ _));exact BK260.out⟩
              have n7_ : Aside0 (Below w.heap.size w ((w65.setCell ⟨gb260,0,none⟩ (.slice Ao66 t254.length co66)).setCell ⟨gb260,1,none⟩ (.slice Ao70 t257.length co70))):=⟨by repeat (first | (with_reducible first | exact HB.out | apply below_alloc | apply pw_below_drewN | apply below_drew1 | refine below_set ?_ GE238.out | refine below_set ?_ GE248.out | refine below_set ?_ GE260.out) | exact HB.out)⟩
              (try clear HO_249000)
              (try clear HO_249001)
              (try clear HO256)
              (try clear HO259)
              (try clear BK238)
              (try clear BK248)
              (try clear BK260)
              (try clear HB)
              generalize ((w65.setCell ⟨gb260,0,none⟩ (.slice Ao66 t254.length co66)).setCell ⟨gb260,1,none⟩ (.slice Ao70 t257.length co70)) = w71 at n0_ n1_ n2_ n3_ n4_ n5_ n6_ n7_ ⊢
              have HO_249000:=n0_
              have HO_249001:=n1_
              have HO256:=n2_
              have HO259:=n3_
              have BK238:=n4_
              have BK248:=n5_
              have BK260:=n6_
              have HB:=n7_
              clear n0_ n1_ n2_ n3_ n4_ n5_ n6_ n7_
              have n0_:=aMx13 (Kd.R_drew HO_249000.out)
              have n1_:=aMx13 (Kd.R_drew HO_249001.out)
              have n2_:=aMx13 (Kd.R_drew HO256.out)
              have n3_:=aMx13 (Kd.R_drew HO259.out)
              have n4_:=aMx13 (blk_drew BK238.out)
              have n5_:=aMx13 (blk_drew BK248.out)
              have n6_:=aMx13 (blk_drew BK260.out)
              have n7_:=aMx13 (below_drew1 HB.out)
              clear HO_249000
              clear HO_249001
              clear HO256
              clear HO259
              clear BK238
              clear BK248
              clear BK260
              clear HB
              have HO_249000:=n0_
              have HO_249001:=n1_
              have HO256:=n2_
              have HO259:=n3_
              have BK238:=n4_
              have BK248:=n5_
              have BK260:=n6_
              have HB:=n7_
              clear n0_ n1_ n2_ n3_ n4_ n5_ n6_ n7_
              have p261 : 0 ≤ ((ji57) : Int):=of_decide_eq_true (by first | (with_reducible assumption) | assumption)
              have q261 : (ji57) < (x249001_1.length : Int):=of_decide_eq_true (by first | (with_reducible assumption) | assumption)
              obtain ⟨ad261,e261,hx261_0,hx261_1,hx261_2⟩:=at_T36 (Kd.R_reads' HO_249001.out).2.2 (ji57) p261 q261
              cases e261
              replace p261:=eq_true p261
              replace q261:=eq_true q261
              have p61 : 0 ≤ ((ji57) : Int):=of_decide_eq_true (by first | (with_reducible assumption) | assumption)
              have q61 : ((ji57) : Int) < ((t257.length : Int) : Int):=of_decide_eq_true (by first | (with_reducible assumption) | assumption)
              obtain ⟨go61,co61,eo61,gb61,gl61,cl61,HG61⟩:=Kd.R_form HO259.out (by omega)
              (first | cases eo61 | (injection eo61 with ea_ en_ ec_;(first | subst ea_ | (injection ea_ with ea_;subst ea_));subst ec_;clear en_))
              have GB61:=aMx13 gb61
              have GG61:=aMx13 HG61
              clear gb61 gl61 HG61
              obtain ⟨ce61,hcl61,hM61,hcc61,hfr61⟩:=Kd.R_elem HO259.out z36 ((ji57) : Int) p61 q61
              obtain rfl:=k36_openM hM61
              have hx61_0 : World.cell? _ ⟨go61,((ji57) : Int).toNat * 3,none⟩ = some (.int .i64 ((rd_T36 t257 (ji57)).f0)):=hcc61 0 _ rfl
              have hx61_1 : World.cell? _ ⟨go61,((ji57) : Int).toNat * 3+1,none⟩ = some (.int .i64 ((rd_T36 t257 (ji57)).f1)):=hcc61 1 _ rfl
              have hx61_2 : World.cell? _ ⟨go61,((ji57) : Int).toNat * 3+2,none⟩ = some (.int .i64 ((rd_T36 t257 (ji57)).f2)):=hcc61 2 _ rfl
              have hf61_0 : World.frozen? _ ⟨go61,((ji57) : Int).toNat * 3,none⟩ = false:=hfr61 0
              have hf61_1 : World.frozen? _ ⟨go61,((ji57) : Int).toNat * 3+1,none⟩ = false:=hfr61 1
              have hf61_2 : World.frozen? _ ⟨go61,((ji57) : Int).toNat * 3+2,none⟩ = false:=hfr61 2
              clear hcl61 hcc61 hfr61 hM61
              replace p61:=eq_true p61
              replace q61:=eq_true q61
              obtain ⟨ce73,hcl73,hM73,hcc73,hfr73⟩:=Kd.R_elem HO259.out z36 ((ji57) : Int) (of_decide_eq_true (by first | (with_reducible assumption) | assumption)) (by have h_ : ((ji57) : Int) < ((t257.length : Int) : Int):=of_decide_eq_true (by first | (with_reducible assumption) | assumption);first | exact h_ | (have e_:=(Kd.R_reads' HO259.out).1;omega) | simpa using h_)
              obtain rfl:=k36_openM hM73
              have HP73:=(Kd.R_seg HO259.out ((ji57) : Int) (of_decide_eq_true (by first | (with_reducible assumption) | assumption)) (by have h_ : ((ji57) : Int) < ((t257.length : Int) : Int):=of_decide_eq_true (by first | (with_reducible assumption) | assumption);first | exact h_ | (have e_:=(Kd.R_reads' HO259.out).1;omega) | simpa using h_) (seg:=[.int .i64 ((rd_T36 x249001_1 (ji57)).f0),.int .i64 ((rd_T36 x249001_1 (ji57)).f1),.int .i64 ((rd_T36 x249001_1 (ji57)).f2)]) (j:=0) hcl73 hcc73 (show 3 ≤ 3 from by decide) (x':=(⟨(rd_T36 x249001_1 (ji57)).f0,(rd_T36 x249001_1 (ji57)).f1,(rd_T36 x249001_1 (ji57)).f2⟩ : S36)) (k36_mkM _ _ _ (⟨(rd_T36 x249001_1 (ji57)).f0,(rd_T36 x249001_1 (ji57)).f1,(rd_T36 x249001_1 (ji57)).f2⟩ : S36) ) (fun _ hk => hk)).1
              rw [← Ny262.out] at HP73
              have HQ73:=aMx13 HP73
              clear hcl73 hcc73 hfr73 hM73 HP73
              refine start_ (n:=10) (S:=fun w' => w'.cell? ⟨gb260,0,none⟩ = some (.slice Ao66 t254.length co66) ∧ w'.cell? ⟨gb260,1,none⟩ = some (.slice (some ⟨go61,0,none⟩) t257.length co70) ∧ w'.cell? ⟨gb248,0,none⟩ = some (.slice Ao21 t242.length co21) ∧ w'.cell? ⟨gb248,1,none⟩ = some (.slice (some ad261) x249001_1.length co47) ∧ w'.cell? (ad261.add (((ji57)).toNat * 3)) = some (.int .i64 ((rd_T36 x249001_1 (ji57)).f0)) ∧ w'.cell? ⟨(ad261.add (((ji57)).toNat * 3)).block,(ad261.add (((ji57)).toNat * 3)).off+1,none⟩ = some (.int .i64 ((rd_T36 x249001_1 (ji57)).f1)) ∧ w'.cell? ⟨(ad261.add (((ji57)).toNat * 3)).block,(ad261.add (((ji57)).toNat * 3)).off+2,none⟩ = some (.int .i64 ((rd_T36 x249001_1 (ji57)).f2))) (ds:=[9]) #[false,false,false,false,false,false,false,false,false,false] (by kernel_rfl) rfl rfl ⟨(blk_cell BK260.out 0).trans rfl,(blk_cell BK260.out 1).trans rfl,(blk_cell BK248.out 0).trans rfl,(blk_cell BK248.out 1).trans rfl,hx261_0,hx261_1,hx261_2⟩ (fun hHeld => ?_);refine with_tabW lapidarylaw10_MeshFlips.tab18 lapidarylaw10_MeshFlips.bits18 (fun HT_ HW_ => ?_)
              generalize w71.drew = w72 at HO_249000 HO_249001 HO256 HO259 BK238 BK248 BK260 HB GG61 HQ73 hf61_0 hf61_1 hf61_2 hx261_0 hx261_1 hx261_2 hx61_0 hx61_1 hx61_2 hHeld ⊢
              refine pure_ (i:=0) (N:=some 71) (v:=?_) (a':=?_) #[true,false,false,false,false,false,false,false,false,false] rfl rfl (any_of HT_.out (by kernel_rfl)) (fun _ _ _ h => h) (Or.inl ⟨by rfl,?_⟩) ?_ ?_
              rotate_left
              ·intro w'
               go_simp
               with_reducible rfl
              rotate_left
              ·simp only [Act.put,sAx13,sBx13,sCx13,i64_w,i32_w]
               rfl
              refine pure_ (i:=2) (N:=some 73) (v:=?_) (a':=?_) #[true,false,true,false,false,false,false,false,false,false] rfl rfl (any_of HT_.out (by kernel_rfl)) (fun _ _ _ h => h) (Or.inl ⟨by rfl,?_⟩) ?_ ?_
              rotate_left
              ·intro w'
               go_simp
               with_reducible rfl
              rotate_left
              ·simp only [Act.put,sAx13,sBx13,sCx13,i64_w,i32_w]
               rfl
              refine pure_ (i:=3) (N:=some 74) (v:=?_) (a':=?_) #[true,false,true,true,false,false,false,false,false,false] rfl rfl (any_of HT_.out (by kernel_rfl)) (fun _ _ _ h => h) (Or.inl ⟨by rfl,?_⟩) ?_ ?_
              rotate_left
              ·intro w'
               go_simp
               with_reducible rfl
              rotate_left
              ·simp only [Act.put,sAx13,sBx13,sCx13,i64_w,i32_w]
               rfl
              refine pure_ (i:=5) (N:=some 76) (v:=?_) (a':=?_) #[true,false,true,true,false,true,false,false,false,false] rfl rfl (any_of HT_.out (by kernel_rfl)) (fun _ _ _ h => h) (Or.inl ⟨by rfl,?_⟩) ?_ ?_
              rotate_left
              ·intro w'
               go_simp
               with_reducible rfl
              rotate_left
              ·simp only [Act.put,sAx13,sBx13,sCx13,i64_w,i32_w]
               rfl
              refine take_ (i:=1) (N:=some 72) (v:=?_) (a':=?_) #[true,true,true,true,false,true,false,false,false,false] rfl rfl (take_ofW HT_.out HW_.out (by kernel_rfl)) (fun _ _ _ h => h) (Or.inl ⟨by rfl,?_⟩) hHeld ?_ ?_
              rotate_left
              ·rintro w' ⟨s0,s1,s2,s3,s4,s5,s6⟩
               go_simp
               with_reducible rfl
              rotate_left
              ·simp only [Act.put,sAx13,sBx13,sCx13,i64_w,i32_w]
               rfl
              refine take_ (i:=4) (N:=some 75) (v:=?_) (a':=?_) #[true,true,true,true,true,true,false,false,false,false] rfl rfl (take_ofW HT_.out HW_.out (by kernel_rfl)) (fun _ _ _ h => h) (Or.inl ⟨by rfl,?_⟩) hHeld ?_ ?_
              rotate_left
              ·rintro w' ⟨s0,s1,s2,s3,s4,s5,s6⟩
               go_simp
               with_reducible rfl
              rotate_left
              ·simp only [Act.put,sAx13,sBx13,sCx13,i64_w,i32_w]
               rfl
              refine pure_ (i:=6) (N:=some 77) (v:=?_) (a':=?_) #[true,true,true,true,true,true,true,false,false,false] rfl rfl (any_of HT_.out (by kernel_rfl)) (fun _ _ _ h => h) (Or.inl ⟨by rfl,?_⟩) ?_ ?_
              rotate_left
              ·intro w'
               go_simp
               with_reducible rfl
              rotate_left
              ·simp only [Act.put,sAx13,sBx13,sCx13,i64_w,i32_w]
               rfl
              refine take_ (i:=7) (N:=some 78) (v:=?_) (a':=?_) #[true,true,true,true,true,true,true,true,false,false] rfl rfl (take_ofW HT_.out HW_.out (by kernel_rfl)) (fun _ _ _ h => h) (Or.inl ⟨by rfl,?_⟩) hHeld ?_ ?_
              rotate_left
              ·rintro w' ⟨s0,s1,s2,s3,s4,s5,s6⟩
               go_simp
               with_reducible rfl
              rotate_left
              ·simp only [Act.put,sAx13,sBx13,sCx13,i64_w,i32_w]
               rfl
              refine pure_ (i:=8) (N:=some 79) (v:=?_) (a':=?_) #[true,true,true,true,true,true,true,true,true,false] rfl rfl (any_of HT_.out (by kernel_rfl)) (fun _ _ _ h => h) (Or.inl ⟨by rfl,?_⟩) ?_ ?_
              rotate_left
              ·intro w'
               go_simp
               with_reducible rfl
              rotate_left
              ·simp only [Act.put,sAx13,sBx13,sCx13,i64_w,i32_w]
               rfl
              refine last_ (i:=9) (N:=none) #[true,true,true,true,true,true,true,true,true,true] rfl rfl (one_of HT_.out (by kernel_rfl)) (by decide) (fun K hK => ?_)
              refine skip_ (w1:=?_) (by rfl) rfl ?_ ?_
              rotate_left
              ·go_simp
               rfl
              refine hK.out _ _ ?_
              clear hK K
              refine done_ (done_of HT_.out (by kernel_rfl)) ?_
              try go_wp2
              go_loopg [11,12] kj42 (fun kq v11 v12 w' => ∃ (x11_3 : Bool) (x12_3 : Int),v11 = .bool x11_3 ∧ v12 = .int .i64 x12_3 ∧ Aside0 (lapidarylaw10_MeshFlips.l1 kq ji57 x11_3 x12_3 l0_0 l0_1 t254 y262 = some r) ∧ Aside0 (kq ≤ kj42) ∧ Aside0 (Kd.R k55 55 w' w.heap.size (fun k_ => some k_ ≠ ((.slice Ao66 t254.length co66) : Value).ownBlock) (.slice Ao21 t242.length co21) t242) ∧ Aside0 (Kd.R k36 36 w' w.heap.size (fun k_ => some k_ ≠ ((.slice (some ⟨go61,0,none⟩) t257.length co70) : Value).ownBlock) (.slice (some ad261) x249001_1.length co47) x249001_1) ∧ Aside0 (Kd.R k55 55 w' w.heap.size (fun k_ => some k_ ≠ ((.slice Ao21 t242.length co21) : Value).ownBlock) (.slice Ao66 t254.length co66) t254) ∧ Aside0 (Kd.R k36 36 w' w.heap.size (fun k_ => some k_ ≠ ((.slice (some ad261) x249001_1.length co47) : Value).ownBlock) (.slice (some ⟨go61,0,none⟩) t257.length co70) y262) ∧ Aside0 (w'.heap[gb238]? = some (.cells #[(.slice A0_0 l0_0.length c0_0),(.slice A0_1 l0_1.length c0_1)] 25 (0,0))) ∧ Aside0 (w'.heap[gb248]? = some (.cells #[(.slice Ao21 t242.length co21),(.slice (some ad261) x249001_1.length co47)] 25 (0,0))) ∧ Aside0 (w'.heap[gb260]? = some (.cells #[(.slice Ao66 t254.length co66),(.slice (some ⟨go61,0,none⟩) t257.length co70)] 25 (0,0))) ∧ Aside0 (Below w.heap.size w w'))
              case atStart => exact ⟨(false),(0),(by first | rfl | (simp;done) | (simp [*];done) | (simp [wrap64];done)),(by first | rfl | (simp;done) | (simp [*];done) | (simp [wrap64];done)),H',⟨Nat.le_refl _⟩,⟨by (with_reducible repeat (first | apply Kd.R_alloc | apply Kd.R_drewN | apply Kd.R_drew));exact Kd.R_mono (Kd.R_far (p:=⟨go61,((ji57) : Int).toNat * 3+2,none⟩) (Kd.R_far (p:=⟨go61,((ji57) : Int).toNat * 3+1,none⟩) (Kd.R_far (p:=⟨go61,((ji57) : Int).toNat * 3,none⟩) (Kd.R_types HO_249000.out GG61.out (by decide)) (fun _ hk => hk.2) (.int .i64 ((rd_T36 x249001_1 (ji57)).f0))) (fun _ hk => hk.2) (.int .i64 ((rd_T36 x249001_1 (ji57)).f1))) (fun _ hk => hk.2) (.int .i64 ((rd_T36 x249001_1 (ji57)).f2))) (fun _ hk => hk.1)⟩,⟨by (with_reducible repeat (first | apply Kd.R_alloc | apply Kd.R_drewN | apply Kd.R_drew));exact Kd.R_mono (Kd.R_far (p:=⟨go61,((ji57) : Int).toNat * 3+2,none⟩) (Kd.R_far (p:=⟨go61,((ji57) : Int).toNat * 3+1,none⟩) (Kd.R_far (p:=⟨go61,((ji57) : Int).toNat * 3,none⟩) (Kd.R_mono HO_249001.out (fun k_ hk => (⟨hk,fun e_ => hk (by rw [e_];rfl)⟩ : _ ∧ k_ ≠ go61))) (fun _ hk => hk.2) (.int .i64 ((rd_T36 x249001_1 (ji57)).f0))) (fun _ hk => hk.2) (.int .i64 ((rd_T36 x249001_1 (ji57)).f1))) (fun _ hk => hk.2) (.int .i64 ((rd_T36 x249001_1 (ji57)).f2))) (fun _ hk => hk.1)⟩,⟨by (with_reducible repeat (first | apply Kd.R_alloc | apply Kd.R_drewN | apply Kd.R_drew));exact Kd.R_mono (Kd.R_far (p:=⟨go61,((ji57) : Int).toNat * 3+2,none⟩) (Kd.R_far (p:=⟨go61,((ji57) : Int).toNat * 3+1,none⟩) (Kd.R_far (p:=⟨go61,((ji57) : Int).toNat * 3,none⟩) (Kd.R_types HO256.out GG61.out (by decide)) (fun _ hk => hk.2) (.int .i64 ((rd_T36 x249001_1 (ji57)).f0))) (fun _ hk => hk.2) (.int .i64 ((rd_T36 x249001_1 (ji57)).f1))) (fun _ hk => hk.2) (.int .i64 ((rd_T36 x249001_1 (ji57)).f2))) (fun _ hk => hk.1)⟩,⟨by (with_reducible repeat (first | apply Kd.R_alloc | apply Kd.R_drewN | apply Kd.R_drew));exact HQ73.out⟩,⟨by (with_reducible repeat (first | refine blk_drewN ?_ _ | refine blk_drew ?_ | refine blk_alloc ?_ _));refine blk_far ?_ (by have h_:=Kd.R_ne HO259.out BK238.out (by decide);intro e_;exact h_ (by rw [e_];rfl)) _;(with_reducible repeat (first | refine blk_drewN ?_ _ | refine blk_drew ?_ | refine blk_alloc ?_ _));refine blk_far ?_ (by have h_:=Kd.R_ne HO259.out BK238.out (by decide);intro e_;exact h_ (by rw [e_];rfl)) _;(with_reducible repeat (first | refine blk_drewN ?_ _ | refine blk_drew ?_ | refine blk_alloc ?_ _));refine blk_far ?_ (by have h_:=Kd.R_ne HO259.out BK238.out (by decide);intro e_;exact h_ (by rw [e_];rfl)) _;(with_reducible repeat (first | refine blk_drewN ?_ _ | refine blk_drew ?_ | refine blk_alloc ?_ _));exact BK238.out⟩,⟨by (with_reducible repeat (first | refine blk_drewN ?_ _ | refine blk_drew ?_ | refine blk_alloc ?_ _));refine blk_far ?_ (by have h_:=Kd.R_ne HO259.out BK248.out (by decide);intro e_;exact h_ (by rw [e_];rfl)) _;(with_reducible repeat (first | refine blk_drewN ?_ _ | refine blk_drew ?_ | refine blk_alloc ?_ _));refine blk_far ?_ (by have h_:=Kd.R_ne HO259.out BK248.out (by decide);intro e_;exact h_ (by rw [e_];rfl)) _;(with_reducible repeat (first | refine blk_drewN ?_ _ | refine blk_drew ?_ | refine blk_alloc ?_ _));refine blk_far ?_ (by have h_:=Kd.R_ne HO259.out BK248.out (by decide);intro e_;exact h_ (by rw [e_];rfl)) _;(with_reducible repeat (first | refine blk_drewN ?_ _ | refine blk_drew ?_ | refine blk_alloc ?_ _));exact BK248.out⟩,⟨by (with_reducible repeat (first | refine blk_drewN ?_ _ | refine blk_drew ?_ | refine blk_alloc ?_ _));refine blk_far ?_ (by have h_:=Kd.R_ne HO259.out BK260.out (by decide);intro e_;exact h_ (by rw [e_];rfl)) _;(with_reducible repeat (first | refine blk_drewN ?_ _ | refine blk_drew ?_ | refine blk_alloc ?_ _));refine blk_far ?_ (by have h_:=Kd.R_ne HO259.out BK260.out (by decide);intro e_;exact h_ (by rw [e_];rfl)) _;(with_reducible repeat (first | refine blk_drewN ?_ _ | refine blk_drew ?_ | refine blk_alloc ?_ _));refine blk_far ?_ (by have h_:=Kd.R_ne HO259.out BK260.out (by decide);intro e_;exact h_ (by rw [e_];rfl)) _;(with_reducible repeat (first | refine blk_drewN ?_ _ | refine blk_drew ?_ | refine blk_alloc ?_ _));exact BK260.out⟩,⟨by repeat (first | (with_reducible first | exact HB.out | apply below_alloc | apply pw_below_drewN | apply below_drew1 | refine below_set ?_ GB61.out | refine below_set ?_ GB61.out | refine below_set ?_ GB61.out | refine below_set ?_ GE238.out | refine below_set ?_ GE248.out | refine below_set ?_ GE260.out) | exact HB.out)⟩⟩
              case round =>
               clear H'
               (try clear c1);(try clear c2);(try clear p2);(try clear q2);(try clear hx2);(try clear hf2);(try clear c3);(try clear hx3);(try clear hf3);(try clear c4);(try clear c5);(try clear c6);(try clear p6);(try clear q6);(try clear hx6);(try clear hf6);(try clear c7);(try clear c12);(try clear c12b0);(try clear c12b1);(try clear c12b2);(try clear c13);(try clear c14);(try clear c21);(try clear c22);(try clear p24);(try clear q24);(try clear hx24);(try clear c26);(try clear c26b0);(try clear p26);(try clear q26);(try clear hx26);(try clear c27);(try clear c27b0);(try clear c28);(try clear c28b0);(try clear c29);(try clear p29);(try clear q29);(try clear hx29);(try clear hf29);(try clear c30);(try clear c33);(try clear c34);(try clear c39);(try clear hx39);(try clear hf39);(try clear c42);(try clear c42b0);(try clear c42b1);(try clear c44);(try clear c49);(try clear c49b0);(try clear c49b1);(try clear c50);(try clear c52);(try clear c55);(try clear c55b0);(try clear c55b1);(try clear c55b2);(try clear c58);(try clear c58b0);(try clear c59);(try clear c59b0);(try clear c60);(try clear c60b0);(try clear c61);(try clear p61);(try clear q61);(try clear hx61);(try clear hf61);(try clear c62);(try clear p64);(try clear c67);(try clear c68);(try clear c73);(try clear hcz14_0);(try clear hcz14_1);(try clear hcz16_0);(try clear hcz16_1);(try clear hcz18_0);(try clear hcz18_1);(try clear hcz23_0);(try clear hcz23_1);(try clear hcz25_0);(try clear hcz25_1);(try clear hcz31_0);(try clear hcz31_1);(try clear hcz35_0);(try clear hcz35_1);(try clear hcz35_2);(try clear hcz37_0);(try clear hcz37_1);(try clear hcz38_0);(try clear hcz38_1);(try clear hcz38_2);(try clear hcz45_0);(try clear hcz45_1);(try clear hcz46_0);(try clear hcz46_1);(try clear hcz51_0);(try clear hcz51_1);(try clear hcz63_0);(try clear hcz63_1);(try clear hcz69_0);(try clear hcz69_1);(try clear hcz7_0);(try clear hcz7_1);(try clear hfz14_0);(try clear hfz14_1);(try clear hfz16_0);(try clear hfz16_1);(try clear hfz18_0);(try clear hfz18_1);(try clear hfz23_0);(try clear hfz23_1);(try clear hfz25_0);(try clear hfz25_1);(try clear hfz31_0);(try clear hfz31_1);(try clear hfz35_0);(try clear hfz35_1);(try clear hfz35_2);(try clear hfz37_0);(try clear hfz37_1);(try clear hfz38_0);(try clear hfz38_1);(try clear hfz38_2);(try clear hfz45_0);(try clear hfz45_1);(try clear hfz46_0);(try clear hfz46_1);(try clear hfz51_0);(try clear hfz51_1);(try clear hfz63_0);(try clear hfz63_1);(try clear hfz69_0);(try clear hfz69_1);(try clear hfz7_0);(try clear hfz7_1);(try clear hx249_0);(try clear hx249_1);(try clear hx249_2);(try clear hx261_0);(try clear hx261_1);(try clear hx261_2);(try clear hx29_0);(try clear hx29_1);(try clear hx29_2);(try clear hx39_0);(try clear hx39_1);(try clear hx39_2);(try clear hx61_0);(try clear hx61_1);(try clear hx61_2);(try clear p2);(try clear p24);(try clear p249);(try clear p261);(try clear p29);(try clear p6);(try clear p61);(try clear q2);(try clear q24);(try clear q249);(try clear q261);(try clear q29);(try clear q61)
               obtain ⟨x11_3,x12_3,rfl,rfl,HA,HK3,HO_249000,HO_249001,HO_261000,HO_261001,BK238,BK248,BK260,HB⟩:=hrel
               have hl261001_3:=(Kd.R_reads' HO_261001.out).1
               rw [hl261001_3] at HO_261001
               (try simp only [hl261001_3])
               (try simp only [hl261001_3] at BK238)
               (try simp only [hl261001_3] at BK248)
               (try simp only [hl261001_3] at BK260)
               (try simp only [hl261001_3] at HO_249000)
               (try simp only [hl261001_3] at HO_249001)
               (try simp only [hl261001_3] at HO_261000)
               cases gk with
               | zero => exact absurd HA.out (by simp [lapidarylaw10_MeshFlips.l1])
               | succ k3 =>
                have H:=HA.out
                clear HA
                simp only [lapidarylaw10_MeshFlips.l1] at H
                by_cases c74 : x12_3 < 3
                ·rw [if_pos c74] at H
                 have c74b0 : decide (x12_3 < 3) = true:=decide_eq_true c74
                 clear c74
                 by_cases c75 : x11_3 = true
                 ·subst c75
                  have H1 : (lapidarylaw10_MeshFlips.l1 k3 ji57 true (wrap64 (x12_3+1)) l0_0 l0_1 t254 y262) = some r:=by rw [if_pos rfl] at H;exact H
                  clear H
                  have H:=H1
                  clear H1
                  have H':=aMx13 H
                  clear H
                  try go_wp2
                  have n0_:=aMx13 (Kd.R_drew HO_249000.out)
                  have n1_:=aMx13 (Kd.R_drew HO_249001.out)
                  have n2_:=aMx13 (Kd.R_drew HO_261000.out)
                  have n3_:=aMx13 (Kd.R_drew HO_261001.out)
                  have n4_:=aMx13 (blk_drew BK238.out)
                  have n5_:=aMx13 (blk_drew BK248.out)
                  have n6_:=aMx13 (blk_drew BK260.out)
                  have n7_:=aMx13 (below_drew1 HB.out)
                  clear HO_249000
                  clear HO_249001
                  clear HO_261000
                  clear HO_261001
                  clear BK238
                  clear BK248
                  clear BK260
                  clear HB
                  have HO_249000:=n0_
                  have HO_249001:=n1_
                  have HO_261000:=n2_
                  have HO_261001:=n3_
                  have BK238:=n4_
                  have BK248:=n5_
                  have BK260:=n6_
                  have HB:=n7_
                  clear n0_ n1_ n2_ n3_ n4_ n5_ n6_ n7_
                  refine start_ (n:=24) (S:=fun w' => True) (ds:=[]) #[false,false,false,false,false,false,false,false,false,false,false,false,false,false,false,false,false,false,false,false,false,false,false,false] (by kernel_rfl) rfl rfl trivial (fun hHeld => ?_);refine with_tabW lapidarylaw10_MeshFlips.tab23 lapidarylaw10_MeshFlips.bits23 (fun HT_ HW_ => ?_)
                  generalize wr.drew = w76 at HO_249000 HO_249001 HO_261000 HO_261001 BK238 BK248 BK260 HB hHeld ⊢
                  refine pure_ (i:=0) (N:=some 84) (v:=?_) (a':=?_) #[true,false,false,false,false,false,false,false,false,false,false,false,false,false,false,false,false,false,false,false,false,false,false,false] rfl rfl (any_of HT_.out (by kernel_rfl)) (fun _ _ _ h => h) (Or.inl ⟨by rfl,?_⟩) ?_ ?_
                  rotate_left
                  ·intro w'
                   go_simp
                   with_reducible rfl
                  rotate_left
                  ·simp only [Act.put,sAx13,sBx13,sCx13,i64_w,i32_w]
                   rfl
                  refine pure_ (i:=1) (N:=some 85) (v:=?_) (a':=?_) #[true,true,false,false,false,false,false,false,false,false,false,false,false,false,false,false,false,false,false,false,false,false,false,false] rfl rfl (any_of HT_.out (by kernel_rfl)) (fun _ _ _ h => h) (Or.inl ⟨by rfl,?_⟩) ?_ ?_
                  rotate_left
                  ·intro w'
                   go_simp
                   with_reducible rfl
                  rotate_left
                  ·simp only [Act.put,sAx13,sBx13,sCx13,i64_w,i32_w]
                   rfl
                  refine pure_ (i:=2) (N:=some 86) (v:=undef) (a':=?_) #[true,true,true,false,false,false,false,false,false,false,false,false,false,false,false,false,false,false,false,false,false,false,false,false] rfl rfl (any_of HT_.out (by kernel_rfl)) (fun _ _ _ h => h) (Or.inr ⟨by rfl,rfl⟩) ?_ ?_
                  rotate_left
                  ·simp only [Act.put,sAx13,sBx13,sCx13,i64_w,i32_w]
                   rfl
                  refine pure_ (i:=3) (N:=some 87) (v:=undef) (a':=?_) #[true,true,true,true,false,false,false,false,false,false,false,false,false,false,false,false,false,false,false,false,false,false,false,false] rfl rfl (any_of HT_.out (by kernel_rfl)) (fun _ _ _ h => h) (Or.inr ⟨by rfl,rfl⟩) ?_ ?_
                  rotate_left
                  ·simp only [Act.put,sAx13,sBx13,sCx13,i64_w,i32_w]
                   rfl
                  refine pure_ (i:=4) (N:=some 88) (v:=undef) (a':=?_) #[true,true,true,true,true,false,false,false,false,false,false,false,false,false,false,false,false,false,false,false,false,false,false,false] rfl rfl (any_of HT_.out (by kernel_rfl)) (fun _ _ _ h => h) (Or.inr ⟨by rfl,rfl⟩) ?_ ?_
                  rotate_left
                  ·simp only [Act.put,sAx13,sBx13,sCx13,i64_w,i32_w]
                   rfl
                  refine pure_ (i:=5) (N:=some 89) (v:=undef) (a':=?_) #[true,true,true,true,true,true,false,false,false,false,false,false,false,false,false,false,false,false,false,false,false,false,false,false] rfl rfl (any_of HT_.out (by kernel_rfl)) (fun _ _ _ h => h) (Or.inr ⟨by rfl,rfl⟩) ?_ ?_
                  rotate_left
                  ·simp only [Act.put,sAx13,sBx13,sCx13,i64_w,i32_w]
                   rfl
                  refine pure_ (i:=6) (N:=some 90) (v:=undef) (a':=?_) #[true,true,true,true,true,true,true,false,false,false,false,false,false,false,false,false,false,false,false,false,false,false,false,false] rfl rfl (any_of HT_.out (by kernel_rfl)) (fun _ _ _ h => h) (Or.inr ⟨by rfl,rfl⟩) ?_ ?_
                  rotate_left
                  ·simp only [Act.put,sAx13,sBx13,sCx13,i64_w,i32_w]
                   rfl
                  refine pure_ (i:=7) (N:=some 91) (v:=undef) (a':=?_) #[true,true,true,true,true,true,true,true,false,false,false,false,false,false,false,false,false,false,false,false,false,false,false,false] rfl rfl (any_of HT_.out (by kernel_rfl)) (fun _ _ _ h => h) (Or.inr ⟨by rfl,rfl⟩) ?_ ?_
                  rotate_left
                  ·simp only [Act.put,sAx13,sBx13,sCx13,i64_w,i32_w]
                   rfl
                  refine pure_ (i:=8) (N:=some 92) (v:=undef) (a':=?_) #[true,true,true,true,true,true,true,true,true,false,false,false,false,false,false,false,false,false,false,false,false,false,false,false] rfl rfl (any_of HT_.out (by kernel_rfl)) (fun _ _ _ h => h) (Or.inr ⟨by rfl,rfl⟩) ?_ ?_
                  rotate_left
                  ·simp only [Act.put,sAx13,sBx13,sCx13,i64_w,i32_w]
                   rfl
                  refine pure_ (i:=9) (N:=some 93) (v:=undef) (a':=?_) #[true,true,true,true,true,true,true,true,true,true,false,false,false,false,false,false,false,false,false,false,false,false,false,false] rfl rfl (any_of HT_.out (by kernel_rfl)) (fun _ _ _ h => h) (Or.inr ⟨by rfl,rfl⟩) ?_ ?_
                  rotate_left
                  ·simp only [Act.put,sAx13,sBx13,sCx13,i64_w,i32_w]
                   rfl
                  refine pure_ (i:=10) (N:=some 94) (v:=undef) (a':=?_) #[true,true,true,true,true,true,true,true,true,true,true,false,false,false,false,false,false,false,false,false,false,false,false,false] rfl rfl (any_of HT_.out (by kernel_rfl)) (fun _ _ _ h => h) (Or.inr ⟨by rfl,rfl⟩) ?_ ?_
                  rotate_left
                  ·simp only [Act.put,sAx13,sBx13,sCx13,i64_w,i32_w]
                   rfl
                  refine pure_ (i:=11) (N:=some 95) (v:=undef) (a':=?_) #[true,true,true,true,true,true,true,true,true,true,true,true,false,false,false,false,false,false,false,false,false,false,false,false] rfl rfl (any_of HT_.out (by kernel_rfl)) (fun _ _ _ h => h) (Or.inr ⟨by rfl,rfl⟩) ?_ ?_
                  rotate_left
                  ·simp only [Act.put,sAx13,sBx13,sCx13,i64_w,i32_w]
                   rfl
                  refine pure_ (i:=12) (N:=some 96) (v:=undef) (a':=?_) #[true,true,true,true,true,true,true,true,true,true,true,true,true,false,false,false,false,false,false,false,false,false,false,false] rfl rfl (any_of HT_.out (by kernel_rfl)) (fun _ _ _ h => h) (Or.inr ⟨by rfl,rfl⟩) ?_ ?_
                  rotate_left
                  ·simp only [Act.put,sAx13,sBx13,sCx13,i64_w,i32_w]
                   rfl
                  refine pure_ (i:=13) (N:=some 97) (v:=undef) (a':=?_) #[true,true,true,true,true,true,true,true,true,true,true,true,true,true,false,false,false,false,false,false,false,false,false,false] rfl rfl (any_of HT_.out (by kernel_rfl)) (fun _ _ _ h => h) (Or.inr ⟨by rfl,rfl⟩) ?_ ?_
                  rotate_left
                  ·simp only [Act.put,sAx13,sBx13,sCx13,i64_w,i32_w]
                   rfl
                  refine pure_ (i:=14) (N:=some 98) (v:=undef) (a':=?_) #[true,true,true,true,true,true,true,true,true,true,true,true,true,true,true,false,false,false,false,false,false,false,false,false] rfl rfl (any_of HT_.out (by kernel_rfl)) (fun _ _ _ h => h) (Or.inr ⟨by rfl,rfl⟩) ?_ ?_
                  rotate_left
                  ·simp only [Act.put,sAx13,sBx13,sCx13,i64_w,i32_w]
                   rfl
                  refine pure_ (i:=15) (N:=some 99) (v:=undef) (a':=?_) #[true,true,true,true,true,true,true,true,true,true,true,true,true,true,true,true,false,false,false,false,false,false,false,false] rfl rfl (any_of HT_.out (by kernel_rfl)) (fun _ _ _ h => h) (Or.inr ⟨by rfl,rfl⟩) ?_ ?_
                  rotate_left
                  ·simp only [Act.put,sAx13,sBx13,sCx13,i64_w,i32_w]
                   rfl
                  refine pure_ (i:=16) (N:=some 100) (v:=undef) (a':=?_) #[true,true,true,true,true,true,true,true,true,true,true,true,true,true,true,true,true,false,false,false,false,false,false,false] rfl rfl (any_of HT_.out (by kernel_rfl)) (fun _ _ _ h => h) (Or.inr ⟨by rfl,rfl⟩) ?_ ?_
                  rotate_left
                  ·simp only [Act.put,sAx13,sBx13,sCx13,i64_w,i32_w]
                   rfl
                  refine pure_ (i:=17) (N:=some 101) (v:=undef) (a':=?_) #[true,true,true,true,true,true,true,true,true,true,true,true,true,true,true,true,true,true,false,false,false,false,false,false] rfl rfl (any_of HT_.out (by kernel_rfl)) (fun _ _ _ h => h) (Or.inr ⟨by rfl,rfl⟩) ?_ ?_
                  rotate_left
                  ·simp only [Act.put,sAx13,sBx13,sCx13,i64_w,i32_w]
                   rfl
                  refine pure_ (i:=18) (N:=some 102) (v:=undef) (a':=?_) #[true,true,true,true,true,true,true,true,true,true,true,true,true,true,true,true,true,true,true,false,false,false,false,false] rfl rfl (any_of HT_.out (by kernel_rfl)) (fun _ _ _ h => h) (Or.inr ⟨by rfl,rfl⟩) ?_ ?_
                  rotate_left
                  ·simp only [Act.put,sAx13,sBx13,sCx13,i64_w,i32_w]
                   rfl
                  refine pure_ (i:=19) (N:=some 103) (v:=undef) (a':=?_) #[true,true,true,true,true,true,true,true,true,true,true,true,true,true,true,true,true,true,true,true,false,false,false,false] rfl rfl (any_of HT_.out (by kernel_rfl)) (fun _ _ _ h => h) (Or.inr ⟨by rfl,rfl⟩) ?_ ?_
                  rotate_left
                  ·simp only [Act.put,sAx13,sBx13,sCx13,i64_w,i32_w]
                   rfl
                  refine pure_ (i:=20) (N:=some 104) (v:=undef) (a':=?_) #[true,true,true,true,true,true,true,true,true,true,true,true,true,true,true,true,true,true,true,true,true,false,false,false] rfl rfl (any_of HT_.out (by kernel_rfl)) (fun _ _ _ h => h) (Or.inr ⟨by rfl,rfl⟩) ?_ ?_
                  rotate_left
                  ·simp only [Act.put,sAx13,sBx13,sCx13,i64_w,i32_w]
                   rfl
                  refine pure_ (i:=21) (N:=some 105) (v:=undef) (a':=?_) #[true,true,true,true,true,true,true,true,true,true,true,true,true,true,true,true,true,true,true,true,true,true,false,false] rfl rfl (any_of HT_.out (by kernel_rfl)) (fun _ _ _ h => h) (Or.inr ⟨by rfl,rfl⟩) ?_ ?_
                  rotate_left
                  ·simp only [Act.put,sAx13,sBx13,sCx13,i64_w,i32_w]
                   rfl
                  refine pure_ (i:=22) (N:=some 106) (v:=?_) (a':=?_) #[true,true,true,true,true,true,true,true,true,true,true,true,true,true,true,true,true,true,true,true,true,true,true,false] rfl rfl (any_of HT_.out (by kernel_rfl)) (fun _ _ _ h => h) (Or.inl ⟨by rfl,?_⟩) ?_ ?_
                  rotate_left
                  ·intro w'
                   go_simp
                   with_reducible rfl
                  rotate_left
                  ·simp only [Act.put,sAx13,sBx13,sCx13,i64_w,i32_w]
                   rfl
                  refine pure_ (i:=23) (N:=some 11) (v:=?_) (a':=?_) #[true,true,true,true,true,true,true,true,true,true,true,true,true,true,true,true,true,true,true,true,true,true,true,true] rfl rfl (any_of HT_.out (by kernel_rfl)) (fun _ _ _ h => h) (Or.inl ⟨by rfl,?_⟩) ?_ ?_
                  rotate_left
                  ·intro w'
                   go_simp
                   with_reducible rfl
                  rotate_left
                  ·simp only [Act.put,sAx13,sBx13,sCx13,i64_w,i32_w]
                   rfl
                  refine done_ (done_of HT_.out (by kernel_rfl)) ?_
                  try go_wp2
                  (try simp only [← hl261001_3])
                  go_roundg k3
                  case measure => have:=HK1.out;have:=HJ42.out;have:=HK3.out;omega
                  case rel => exact ⟨(true),(wrap64 (x12_3+1)),(by first | rfl | (simp;done) | (simp [*];done) | (simp [wrap64];done)),(by first | rfl | (simp;done) | (simp [*];done) | (simp [wrap64];done)),H',⟨by have:=HK1.out;have:=HJ42.out;have:=HK3.out;omega⟩,⟨by (try simp only [hl261001_3]);(with_reducible repeat (first | apply Kd.R_alloc | apply Kd.R_drewN | apply Kd.R_drew));exact HO_249000.out⟩,⟨by (try simp only [hl261001_3]);(with_reducible repeat (first | apply Kd.R_alloc | apply Kd.R_drewN | apply Kd.R_drew));exact HO_249001.out⟩,⟨by (try simp only [hl261001_3]);(with_reducible repeat (first | apply Kd.R_alloc | apply Kd.R_drewN | apply Kd.R_drew));exact HO_261000.out⟩,⟨by (try simp only [hl261001_3]);(with_reducible repeat (first | apply Kd.R_alloc | apply Kd.R_drewN | apply Kd.R_drew));exact HO_261001.out⟩,⟨by (try simp only [hl261001_3]);(with_reducible repeat (first | refine blk_drewN ?_ _ | refine blk_drew ?_ | refine blk_alloc ?_ _));exact BK238.out⟩,⟨by (try simp only [hl261001_3]);(with_reducible repeat (first | refine blk_drewN ?_ _ | refine blk_drew ?_ | refine blk_alloc ?_ _));exact BK248.out⟩,⟨by (try simp only [hl261001_3]);(with_reducible repeat (first | refine blk_drewN ?_ _ | refine blk_drew ?_ | refine blk_alloc ?_ _));exact BK260.out⟩,⟨by repeat (first | (with_reducible first | exact HB.out | apply below_alloc | apply pw_below_drewN | apply below_drew1 | refine below_set ?_ GE238.out | refine below_set ?_ GE248.out | refine below_set ?_ GE260.out) | exact HB.out)⟩⟩
                 ·replace c75:=Bool.eq_false_iff.mpr c75
                  subst c75
                  have H1 : (if 0 ≤ ji57 then (if ji57 < (l0_1.length : Int) then (if x12_3 = 0 then ((lapidaryref10_Has.f k3 l0_1 ((rd_T36 l0_1 ji57).f1) ((rd_T36 l0_1 ji57).f0)).bind fun t265 => (lapidarylaw10_MeshFlips.l1 k3 ji57 (decide (t265 ≥ 0)) (wrap64 (x12_3+1)) l0_0 l0_1 t254 y262)) else (if x12_3 = 1 then ((lapidaryref10_Has.f k3 l0_1 ((rd_T36 l0_1 ji57).f2) ((rd_T36 l0_1 ji57).f1)).bind fun t267 => (lapidarylaw10_MeshFlips.l1 k3 ji57 (decide (t267 ≥ 0)) (wrap64 (x12_3+1)) l0_0 l0_1 t254 y262)) else (if x12_3 = 2 then ((lapidaryref10_Has.f k3 l0_1 ((rd_T36 l0_1 ji57).f0) ((rd_T36 l0_1 ji57).f2)).bind fun t269 => (lapidarylaw10_MeshFlips.l1 k3 ji57 (decide (t269 ≥ 0)) (wrap64 (x12_3+1)) l0_0 l0_1 t254 y262)) else (none)))) else (none)) else (none)) = some r:=by rw [if_neg (show ¬ (false = true) by decide)] at H;exact H
                  clear H
                  have H:=H1
                  clear H1
                  by_cases c77 : 0 ≤ ji57
                  ·rw [if_pos c77] at H
                   have c77b0 : decide (0 ≤ ji57) = true:=decide_eq_true c77
                   clear c77
                   by_cases c78 : ji57 < (l0_1.length : Int)
                   ·rw [if_pos c78] at H
                    have c78b0 : decide (ji57 < (l0_1.length : Int)) = true:=decide_eq_true c78
                    clear c78
                    by_cases c79 : x12_3 = 0
                    ·rw [if_pos c79] at H
                     subst c79
                     replace H:=Option.bind_eq_some_iff.mp H
                     obtain ⟨t265,A800,H⟩:=H
                     replace H : (lapidarylaw10_MeshFlips.l1 k3 ji57 (decide (t265 ≥ 0)) (wrap64 (0+1)) l0_0 l0_1 t254 y262) = some r:=H
                     have A80:=aMx13 A800
                     clear A800
                     have H':=aMx13 H
                     clear H
                     try go_wp2
                     have n0_:=aMx13 (Kd.R_drew HO_249000.out)
                     have n1_:=aMx13 (Kd.R_drew HO_249001.out)
                     have n2_:=aMx13 (Kd.R_drew HO_261000.out)
                     have n3_:=aMx13 (Kd.R_drew HO_261001.out)
                     have n4_:=aMx13 (blk_drew BK238.out)
                     have n5_:=aMx13 (blk_drew BK248.out)
                     have n6_:=aMx13 (blk_drew BK260.out)
                     have n7_:=aMx13 (below_drew1 HB.out)
                     clear HO_249000
                     clear HO_249001
                     clear HO_261000
                     clear HO_261001
                     clear BK238
                     clear BK248
                     clear BK260
                     clear HB
                     have HO_249000:=n0_
                     have HO_249001:=n1_
                     have HO_261000:=n2_
                     have HO_261001:=n3_
                     have BK238:=n4_
                     have BK248:=n5_
                     have BK260:=n6_
                     have HB:=n7_
                     clear n0_ n1_ n2_ n3_ n4_ n5_ n6_ n7_
                     have p263 : 0 ≤ (ji57 : Int):=of_decide_eq_true (by first | (with_reducible assumption) | assumption)
                     have q263 : ji57 < (l0_1.length : Int):=of_decide_eq_true (by first | (with_reducible assumption) | assumption)
                     obtain ⟨ad263,e263,hx263_0,hx263_1,hx263_2⟩:=at_T36 HR0_1.out ji57 p263 q263
                     have hw263_2:=hx263_2
                     have hw263_1:=hx263_1
                     have hw263_0:=hx263_0
                     cases e263
                     replace hx263_0:=(HB.out.cell (World.block_lt_of_cell? w _ hx263_0)).trans hx263_0
                     replace hx263_1:=(HB.out.cell (World.block_lt_of_cell? w _ hx263_1)).trans hx263_1
                     replace hx263_2:=(HB.out.cell (World.block_lt_of_cell? w _ hx263_2)).trans hx263_2
                     replace p263:=eq_true p263
                     replace q263:=eq_true q263
                     have p264 : 0 ≤ (ji57 : Int):=of_decide_eq_true (by first | (with_reducible assumption) | assumption)
                     have q264 : ji57 < (l0_1.length : Int):=of_decide_eq_true (by first | (with_reducible assumption) | assumption)
                     obtain ⟨ad264,e264,hx264_0,hx264_1,hx264_2⟩:=at_T36 HR0_1.out ji57 p264 q264
                     have hw264_2:=hx264_2
                     have hw264_1:=hx264_1
                     have hw264_0:=hx264_0
                     obtain rfl : ad263 = ad264:=(by injection e264)
                     replace hx264_0:=(HB.out.cell (World.block_lt_of_cell? w _ hx264_0)).trans hx264_0
                     replace hx264_1:=(HB.out.cell (World.block_lt_of_cell? w _ hx264_1)).trans hx264_1
                     replace hx264_2:=(HB.out.cell (World.block_lt_of_cell? w _ hx264_2)).trans hx264_2
                     replace p264:=eq_true p264
                     replace q264:=eq_true q264
                     refine start_ (n:=24) (S:=fun w' => w'.cell? ⟨gb238,0,none⟩ = some (.slice A0_0 l0_0.length c0_0) ∧ w'.cell? ⟨gb238,1,none⟩ = some (.slice (some ad263) l0_1.length c0_1) ∧ w'.cell? (ad263.add ((ji57).toNat * 3)) = some (.int .i64 ((rd_T36 l0_1 ji57).f0)) ∧ w'.cell? ⟨(ad263.add ((ji57).toNat * 3)).block,(ad263.add ((ji57).toNat * 3)).off+1,none⟩ = some (.int .i64 ((rd_T36 l0_1 ji57).f1)) ∧ w'.cell? ⟨(ad263.add ((ji57).toNat * 3)).block,(ad263.add ((ji57).toNat * 3)).off+2,none⟩ = some (.int .i64 ((rd_T36 l0_1 ji57).f2)) ∧ w'.cell? (ad263.add ((ji57).toNat * 3)) = some (.int .i64 ((rd_T36 l0_1 ji57).f0)) ∧ w'.cell? ⟨(ad263.add ((ji57).toNat * 3)).block,(ad263.add ((ji57).toNat * 3)).off+1,none⟩ = some (.int .i64 ((rd_T36 l0_1 ji57).f1)) ∧ w'.cell? ⟨(ad263.add ((ji57).toNat * 3)).block,(ad263.add ((ji57).toNat * 3)).off+2,none⟩ = some (.int .i64 ((rd_T36 l0_1 ji57).f2))) (ds:=[]) #[false,false,false,false,false,false,false,false,false,false,false,false,false,false,false,false,false,false,false,false,false,false,false,false] (by kernel_rfl) rfl rfl ⟨(blk_cell BK238.out 0).trans rfl,(blk_cell BK238.out 1).trans rfl,((HB.out.cell (World.block_lt_of_cell? w _ hw263_0)).trans hw263_0),((HB.out.cell (World.block_lt_of_cell? w _ hw263_1)).trans hw263_1),((HB.out.cell (World.block_lt_of_cell? w _ hw263_2)).trans hw263_2),((HB.out.cell (World.block_lt_of_cell? w _ hw264_0)).trans hw264_0),((HB.out.cell (World.block_lt_of_cell? w _ hw264_1)).trans hw264_1),((HB.out.cell (World.block_lt_of_cell? w _ hw264_2)).trans hw264_2)⟩ (fun hHeld => ?_);refine with_tabW lapidarylaw10_MeshFlips.tab23 lapidarylaw10_MeshFlips.bits23 (fun HT_ HW_ => ?_)
                     generalize wr.drew = w81 at HO_249000 HO_249001 HO_261000 HO_261001 BK238 BK248 BK260 HB hx263_0 hx263_1 hx263_2 hx264_0 hx264_1 hx264_2 hHeld ⊢
                     refine pure_ (i:=0) (N:=some 84) (v:=?_) (a':=?_) #[true,false,false,false,false,false,false,false,false,false,false,false,false,false,false,false,false,false,false,false,false,false,false,false] rfl rfl (any_of HT_.out (by kernel_rfl)) (fun _ _ _ h => h) (Or.inl ⟨by rfl,?_⟩) ?_ ?_
                     rotate_left
                     ·intro w'
                      go_simp
                      with_reducible rfl
                     rotate_left
                     ·simp only [Act.put,sAx13,sBx13,sCx13,i64_w,i32_w]
                      rfl
                     refine pure_ (i:=1) (N:=some 85) (v:=?_) (a':=?_) #[true,true,false,false,false,false,false,false,false,false,false,false,false,false,false,false,false,false,false,false,false,false,false,false] rfl rfl (any_of HT_.out (by kernel_rfl)) (fun _ _ _ h => h) (Or.inl ⟨by rfl,?_⟩) ?_ ?_
                     rotate_left
                     ·intro w'
                      go_simp
                      with_reducible rfl
                     rotate_left
                     ·simp only [Act.put,sAx13,sBx13,sCx13,i64_w,i32_w]
                      rfl
                     refine pure_ (i:=2) (N:=some 86) (v:=?_) (a':=?_) #[true,true,true,false,false,false,false,false,false,false,false,false,false,false,false,false,false,false,false,false,false,false,false,false] rfl rfl (any_of HT_.out (by kernel_rfl)) (fun _ _ _ h => h) (Or.inl ⟨by rfl,?_⟩) ?_ ?_
                     rotate_left
                     ·intro w'
                      go_simp
                      with_reducible rfl
                     rotate_left
                     ·simp only [Act.put,sAx13,sBx13,sCx13,i64_w,i32_w]
                      rfl
                     refine pure_ (i:=4) (N:=some 88) (v:=?_) (a':=?_) #[true,true,true,false,true,false,false,false,false,false,false,false,false,false,false,false,false,false,false,false,false,false,false,false] rfl rfl (any_of HT_.out (by kernel_rfl)) (fun _ _ _ h => h) (Or.inl ⟨by rfl,?_⟩) ?_ ?_
                     rotate_left
                     ·intro w'
                      go_simp
                      with_reducible rfl
                     rotate_left
                     ·simp only [Act.put,sAx13,sBx13,sCx13,i64_w,i32_w]
                      rfl
                     refine pure_ (i:=6) (N:=some 90) (v:=?_) (a':=?_) #[true,true,true,false,true,false,true,false,false,false,false,false,false,false,false,false,false,false,false,false,false,false,false,false] rfl rfl (any_of HT_.out (by kernel_rfl)) (fun _ _ _ h => h) (Or.inl ⟨by rfl,?_⟩) ?_ ?_
                     rotate_left
                     ·intro w'
                      go_simp
                      with_reducible rfl
                     rotate_left
                     ·simp only [Act.put,sAx13,sBx13,sCx13,i64_w,i32_w]
                      rfl
                     refine pure_ (i:=7) (N:=some 91) (v:=?_) (a':=?_) #[true,true,true,false,true,false,true,true,false,false,false,false,false,false,false,false,false,false,false,false,false,false,false,false] rfl rfl (any_of HT_.out (by kernel_rfl)) (fun _ _ _ h => h) (Or.inl ⟨by rfl,?_⟩) ?_ ?_
                     rotate_left
                     ·intro w'
                      go_simp
                      with_reducible rfl
                     rotate_left
                     ·simp only [Act.put,sAx13,sBx13,sCx13,i64_w,i32_w]
                      rfl
                     refine pure_ (i:=8) (N:=some 92) (v:=?_) (a':=?_) #[true,true,true,false,true,false,true,true,true,false,false,false,false,false,false,false,false,false,false,false,false,false,false,false] rfl rfl (any_of HT_.out (by kernel_rfl)) (fun _ _ _ h => h) (Or.inl ⟨by rfl,?_⟩) ?_ ?_
                     rotate_left
                     ·intro w'
                      go_simp
                      with_reducible rfl
                     rotate_left
                     ·simp only [Act.put,sAx13,sBx13,sCx13,i64_w,i32_w]
                      rfl
                     refine pure_ (i:=9) (N:=some 93) (v:=?_) (a':=?_) #[true,true,true,false,true,false,true,true,true,true,false,false,false,false,false,false,false,false,false,false,false,false,false,false] rfl rfl (any_of HT_.out (by kernel_rfl)) (fun _ _ _ h => h) (Or.inl ⟨by rfl,?_⟩) ?_ ?_
                     rotate_left
                     ·intro w'
                      go_simp
                      with_reducible rfl
                     rotate_left
                     ·simp only [Act.put,sAx13,sBx13,sCx13,i64_w,i32_w]
                      rfl
                     refine pure_ (i:=13) (N:=some 97) (v:=?_) (a':=?_) #[true,true,true,false,true,false,true,true,true,true,false,false,false,true,false,false,false,false,false,false,false,false,false,false] rfl rfl (any_of HT_.out (by kernel_rfl)) (fun _ _ _ h => h) (Or.inl ⟨by rfl,?_⟩) ?_ ?_
                     rotate_left
                     ·intro w'
                      go_simp
                      with_reducible rfl
                     rotate_left
                     ·simp only [Act.put,sAx13,sBx13,sCx13,i64_w,i32_w]
                      rfl
                     refine pure_ (i:=15) (N:=some 99) (v:=?_) (a':=?_) #[true,true,true,false,true,false,true,true,true,true,false,false,false,true,false,true,false,false,false,false,false,false,false,false] rfl rfl (any_of HT_.out (by kernel_rfl)) (fun _ _ _ h => h) (Or.inl ⟨by rfl,?_⟩) ?_ ?_
                     rotate_left
                     ·intro w'
                      go_simp
                      with_reducible rfl
                     rotate_left
                     ·simp only [Act.put,sAx13,sBx13,sCx13,i64_w,i32_w]
                      rfl
                     refine pure_ (i:=16) (N:=some 100) (v:=?_) (a':=?_) #[true,true,true,false,true,false,true,true,true,true,false,false,false,true,false,true,true,false,false,false,false,false,false,false] rfl rfl (any_of HT_.out (by kernel_rfl)) (fun _ _ _ h => h) (Or.inl ⟨by rfl,?_⟩) ?_ ?_
                     rotate_left
                     ·intro w'
                      go_simp
                      with_reducible rfl
                     rotate_left
                     ·simp only [Act.put,sAx13,sBx13,sCx13,i64_w,i32_w]
                      rfl
                     refine take_ (i:=3) (N:=some 87) (v:=?_) (a':=?_) #[true,true,true,true,true,false,true,true,true,true,false,false,false,true,false,true,true,false,false,false,false,false,false,false] rfl rfl (take_ofW HT_.out HW_.out (by kernel_rfl)) (fun _ _ _ h => h) (Or.inl ⟨by rfl,?_⟩) hHeld ?_ ?_
                     rotate_left
                     ·rintro w' ⟨s0,s1,s2,s3,s4,s5,s6,s7⟩
                      go_simp
                      with_reducible rfl
                     rotate_left
                     ·simp only [Act.put,sAx13,sBx13,sCx13,i64_w,i32_w]
                      rfl
                     refine take_ (i:=5) (N:=some 89) (v:=?_) (a':=?_) #[true,true,true,true,true,true,true,true,true,true,false,false,false,true,false,true,true,false,false,false,false,false,false,false] rfl rfl (take_ofW HT_.out HW_.out (by kernel_rfl)) (fun _ _ _ h => h) (Or.inl ⟨by rfl,?_⟩) hHeld ?_ ?_
                     rotate_left
                     ·rintro w' ⟨s0,s1,s2,s3,s4,s5,s6,s7⟩
                      go_simp
                      with_reducible rfl
                     rotate_left
                     ·simp only [Act.put,sAx13,sBx13,sCx13,i64_w,i32_w]
                      rfl
                     refine pure_ (i:=10) (N:=some 94) (v:=?_) (a':=?_) #[true,true,true,true,true,true,true,true,true,true,true,false,false,true,false,true,true,false,false,false,false,false,false,false] rfl rfl (any_of HT_.out (by kernel_rfl)) (fun _ _ _ h => h) (Or.inl ⟨by rfl,?_⟩) ?_ ?_
                     rotate_left
                     ·intro w'
                      go_simp
                      with_reducible rfl
                     rotate_left
                     ·simp only [Act.put,sAx13,sBx13,sCx13,i64_w,i32_w]
                      rfl
                     refine pure_ (i:=11) (N:=some 95) (v:=?_) (a':=?_) #[true,true,true,true,true,true,true,true,true,true,true,true,false,true,false,true,true,false,false,false,false,false,false,false] rfl rfl (any_of HT_.out (by kernel_rfl)) (fun _ _ _ h => h) (Or.inl ⟨by rfl,?_⟩) ?_ ?_
                     rotate_left
                     ·intro w'
                      go_simp
                      with_reducible rfl
                     rotate_left
                     ·simp only [Act.put,sAx13,sBx13,sCx13,i64_w,i32_w]
                      rfl
                     refine take_ (i:=12) (N:=some 96) (v:=?_) (a':=?_) #[true,true,true,true,true,true,true,true,true,true,true,true,true,true,false,true,true,false,false,false,false,false,false,false] rfl rfl (take_ofW HT_.out HW_.out (by kernel_rfl)) (fun _ _ _ h => h) (Or.inl ⟨by rfl,?_⟩) hHeld ?_ ?_
                     rotate_left
                     ·rintro w' ⟨s0,s1,s2,s3,s4,s5,s6,s7⟩
                      go_simp
                      with_reducible rfl
                     rotate_left
                     ·simp only [Act.put,sAx13,sBx13,sCx13,i64_w,i32_w]
                      rfl
                     refine take_ (i:=14) (N:=some 98) (v:=?_) (a':=?_) #[true,true,true,true,true,true,true,true,true,true,true,true,true,true,true,true,true,false,false,false,false,false,false,false] rfl rfl (take_ofW HT_.out HW_.out (by kernel_rfl)) (fun _ _ _ h => h) (Or.inl ⟨by rfl,?_⟩) hHeld ?_ ?_
                     rotate_left
                     ·rintro w' ⟨s0,s1,s2,s3,s4,s5,s6,s7⟩
                      go_simp
                      with_reducible rfl
                     rotate_left
                     ·simp only [Act.put,sAx13,sBx13,sCx13,i64_w,i32_w]
                      rfl
                     refine pure_ (i:=17) (N:=some 101) (v:=?_) (a':=?_) #[true,true,true,true,true,true,true,true,true,true,true,true,true,true,true,true,true,true,false,false,false,false,false,false] rfl rfl (any_of HT_.out (by kernel_rfl)) (fun _ _ _ h => h) (Or.inl ⟨by rfl,?_⟩) ?_ ?_
                     rotate_left
                     ·intro w'
                      go_simp
                      with_reducible rfl
                     rotate_left
                     ·simp only [Act.put,sAx13,sBx13,sCx13,i64_w,i32_w]
                      rfl
                     refine pure_ (i:=18) (N:=some 102) (v:=?_) (a':=?_) #[true,true,true,true,true,true,true,true,true,true,true,true,true,true,true,true,true,true,true,false,false,false,false,false] rfl rfl (any_of HT_.out (by kernel_rfl)) (fun _ _ _ h => h) (Or.inl ⟨by rfl,?_⟩) ?_ ?_
                     rotate_left
                     ·intro w'
                      go_simp
                      with_reducible rfl
                     rotate_left
                     ·simp only [Act.put,sAx13,sBx13,sCx13,i64_w,i32_w]
                      rfl
                     refine take_ (i:=19) (N:=some 103) (v:=?_) (a':=?_) #[true,true,true,true,true,true,true,true,true,true,true,true,true,true,true,true,true,true,true,true,false,false,false,false] rfl rfl (take_ofW HT_.out HW_.out (by kernel_rfl)) (fun _ _ _ h => h) (Or.inl ⟨by rfl,?_⟩) hHeld ?_ ?_
                     rotate_left
                     ·rintro w' ⟨s0,s1,s2,s3,s4,s5,s6,s7⟩
                      go_simp
                      with_reducible rfl
                     rotate_left
                     ·simp only [Act.put,sAx13,sBx13,sCx13,i64_w,i32_w]
                      rfl
                     refine one_ (i:=20) (N:=some 104) #[true,true,true,true,true,true,true,true,true,true,true,true,true,true,true,true,true,true,true,true,true,false,false,false] rfl rfl (one_of HT_.out (by kernel_rfl)) (by decide) (fun K hK => ?_)
                     refine goes_ Tryd.func22 (by kernel_rfl) rfl #[.slice (some ad263) l0_1.length c0_1,.int .i64 ((rd_T36 l0_1 ji57).f1),.int .i64 ((rd_T36 l0_1 ji57).f0)] (by rfl) rfl rfl (by (try simp only [List.map_toArray,List.map_cons,List.map_nil]);first | done | (simp only [hji57];rfl) | rfl | (simp only [List.length_drop,List.length_take];rfl)) ?_
                     with_reducible refine (lapidaryref10_Has.calls k3 _ _ l0_1 ((rd_T36 l0_1 ji57).f1) ((rd_T36 l0_1 ji57).f0) t265 _ ?side1 ?side2 A80.out).mono ?_
                     (case side1 => repeat (first|exact (Kd.C_below HR0_1.out HB.out)|(with_reducible first|refine Kd.C_alloc ?_ _|refine Kd.C_drewN ?_ _|refine Kd.C_drew ?_)))
                     (case side2 => exact HC0_1.out)
                     rintro e w' ⟨rfl,⟨nd,rfl⟩⟩
                     refine ⟨_,rfl,?_⟩
                     refine hK.out _ _ ⟨(blk_cell BK238.out 0).trans rfl,(blk_cell BK238.out 1).trans rfl,((HB.out.cell (World.block_lt_of_cell? w _ hw263_0)).trans hw263_0),((HB.out.cell (World.block_lt_of_cell? w _ hw263_1)).trans hw263_1),((HB.out.cell (World.block_lt_of_cell? w _ hw263_2)).trans hw263_2),((HB.out.cell (World.block_lt_of_cell? w _ hw264_0)).trans hw264_0),((HB.out.cell (World.block_lt_of_cell? w _ hw264_1)).trans hw264_1),((HB.out.cell (World.block_lt_of_cell? w _ hw264_2)).trans hw264_2)⟩ (fun hHeld => ?_)
                     clear hK K
                     refine norm_ (a':=?_) ?_ ?_
                     rotate_left
                     ·show Act.put _ (some 104) _ = _
                      simp only [Act.put,sAx13,sBx13,sCx13,i64_w,i32_w]
                      rfl
                     refine pure_ (i:=21) (N:=some 105) (v:=?_) (a':=?_) #[true,true,true,true,true,true,true,true,true,true,true,true,true,true,true,true,true,true,true,true,true,true,false,false] rfl rfl (any_of HT_.out (by kernel_rfl)) (fun _ _ _ h => h) (Or.inl ⟨by rfl,?_⟩) ?_ ?_
                     rotate_left
                     ·intro w'
                      go_simp
                      with_reducible rfl
                     rotate_left
                     ·simp only [Act.put,sAx13,sBx13,sCx13,i64_w,i32_w]
                      rfl
                     refine pure_ (i:=22) (N:=some 106) (v:=?_) (a':=?_) #[true,true,true,true,true,true,true,true,true,true,true,true,true,true,true,true,true,true,true,true,true,true,true,false] rfl rfl (any_of HT_.out (by kernel_rfl)) (fun _ _ _ h => h) (Or.inl ⟨by rfl,?_⟩) ?_ ?_
                     rotate_left
                     ·intro w'
                      go_simp
                      with_reducible rfl
                     rotate_left
                     ·simp only [Act.put,sAx13,sBx13,sCx13,i64_w,i32_w]
                      rfl
                     refine pure_ (i:=23) (N:=some 11) (v:=?_) (a':=?_) #[true,true,true,true,true,true,true,true,true,true,true,true,true,true,true,true,true,true,true,true,true,true,true,true] rfl rfl (any_of HT_.out (by kernel_rfl)) (fun _ _ _ h => h) (Or.inl ⟨by rfl,?_⟩) ?_ ?_
                     rotate_left
                     ·intro w'
                      go_simp
                      with_reducible rfl
                     rotate_left
                     ·simp only [Act.put,sAx13,sBx13,sCx13,i64_w,i32_w]
                      rfl
                     refine done_ (done_of HT_.out (by kernel_rfl)) ?_
                     try go_wp2
                     (try simp only [← hl261001_3])
                     go_roundg k3
                     case measure => have:=HK1.out;have:=HJ42.out;have:=HK3.out;omega
                     case rel => exact ⟨(decide (t265 ≥ 0)),(wrap64 (0+1)),(by first | rfl | (simp;done) | (simp [*];done) | (simp [wrap64];done)),(by first | rfl | (simp;done) | (simp [*];done) | (simp [wrap64];done)),H',⟨by have:=HK1.out;have:=HJ42.out;have:=HK3.out;omega⟩,⟨by (try simp only [hl261001_3]);(with_reducible repeat (first | apply Kd.R_alloc | apply Kd.R_drewN | apply Kd.R_drew));exact HO_249000.out⟩,⟨by (try simp only [hl261001_3]);(with_reducible repeat (first | apply Kd.R_alloc | apply Kd.R_drewN | apply Kd.R_drew));exact HO_249001.out⟩,⟨by (try simp only [hl261001_3]);(with_reducible repeat (first | apply Kd.R_alloc | apply Kd.R_drewN | apply Kd.R_drew));exact HO_261000.out⟩,⟨by (try simp only [hl261001_3]);(with_reducible repeat (first | apply Kd.R_alloc | apply Kd.R_drewN | apply Kd.R_drew));exact HO_261001.out⟩,⟨by (try simp only [hl261001_3]);(with_reducible repeat (first | refine blk_drewN ?_ _ | refine blk_drew ?_ | refine blk_alloc ?_ _));exact BK238.out⟩,⟨by (try simp only [hl261001_3]);(with_reducible repeat (first | refine blk_drewN ?_ _ | refine blk_drew ?_ | refine blk_alloc ?_ _));exact BK248.out⟩,⟨by (try simp only [hl261001_3]);(with_reducible repeat (first | refine blk_drewN ?_ _ | refine blk_drew ?_ | refine blk_alloc ?_ _));exact BK260.out⟩,⟨by repeat (first | (with_reducible first | exact HB.out | apply below_alloc | apply pw_below_drewN | apply below_drew1 | refine below_set ?_ GE238.out | refine below_set ?_ GE248.out | refine below_set ?_ GE260.out) | exact HB.out)⟩⟩
                    ·rw [if_neg c79] at H
                     by_cases c82 : x12_3 = 1
                     ·rw [if_pos c82] at H
                      subst c82
                      replace H:=Option.bind_eq_some_iff.mp H
                      obtain ⟨t267,A830,H⟩:=H
                      replace H : (lapidarylaw10_MeshFlips.l1 k3 ji57 (decide (t267 ≥ 0)) (wrap64 (1+1)) l0_0 l0_1 t254 y262) = some r:=H
                      have A83:=aMx13 A830
                      clear A830
                      have H':=aMx13 H
                      clear H
                      try go_wp2
                      have n0_:=aMx13 (Kd.R_drew HO_249000.out)
                      have n1_:=aMx13 (Kd.R_drew HO_249001.out)
                      have n2_:=aMx13 (Kd.R_drew HO_261000.out)
                      have n3_:=aMx13 (Kd.R_drew HO_261001.out)
                      have n4_:=aMx13 (blk_drew BK238.out)
                      have n5_:=aMx13 (blk_drew BK248.out)
                      have n6_:=aMx13 (blk_drew BK260.out)
                      have n7_:=aMx13 (below_drew1 HB.out)
                      clear HO_249000
                      clear HO_249001
                      clear HO_261000
                      clear HO_261001
                      clear BK238
                      clear BK248
                      clear BK260
                      clear HB
                      have HO_249000:=n0_
                      have HO_249001:=n1_
                      have HO_261000:=n2_
                      have HO_261001:=n3_
                      have BK238:=n4_
                      have BK248:=n5_
                      have BK260:=n6_
                      have HB:=n7_
                      clear n0_ n1_ n2_ n3_ n4_ n5_ n6_ n7_
                      have p263 : 0 ≤ (ji57 : Int):=of_decide_eq_true (by first | (with_reducible assumption) | assumption)
                      have q263 : ji57 < (l0_1.length : Int):=of_decide_eq_true (by first | (with_reducible assumption) | assumption)
                      obtain ⟨ad263,e263,hx263_0,hx263_1,hx263_2⟩:=at_T36 HR0_1.out ji57 p263 q263
                      have hw263_2:=hx263_2
                      have hw263_1:=hx263_1
                      have hw263_0:=hx263_0
                      cases e263
                      replace hx263_0:=(HB.out.cell (World.block_lt_of_cell? w _ hx263_0)).trans hx263_0
                      replace hx263_1:=(HB.out.cell (World.block_lt_of_cell? w _ hx263_1)).trans hx263_1
                      replace hx263_2:=(HB.out.cell (World.block_lt_of_cell? w _ hx263_2)).trans hx263_2
                      replace p263:=eq_true p263
                      replace q263:=eq_true q263
                      have p266 : 0 ≤ (ji57 : Int):=of_decide_eq_true (by first | (with_reducible assumption) | assumption)
                      have q266 : ji57 < (l0_1.length : Int):=of_decide_eq_true (by first | (with_reducible assumption) | assumption)
                      obtain ⟨ad266,e266,hx266_0,hx266_1,hx266_2⟩:=at_T36 HR0_1.out ji57 p266 q266
                      have hw266_2:=hx266_2
                      have hw266_1:=hx266_1
                      have hw266_0:=hx266_0
                      obtain rfl : ad263 = ad266:=(by injection e266)
                      replace hx266_0:=(HB.out.cell (World.block_lt_of_cell? w _ hx266_0)).trans hx266_0
                      replace hx266_1:=(HB.out.cell (World.block_lt_of_cell? w _ hx266_1)).trans hx266_1
                      replace hx266_2:=(HB.out.cell (World.block_lt_of_cell? w _ hx266_2)).trans hx266_2
                      replace p266:=eq_true p266
                      replace q266:=eq_true q266
                      refine start_ (n:=24) (S:=fun w' => w'.cell? ⟨gb238,0,none⟩ = some (.slice A0_0 l0_0.length c0_0) ∧ w'.cell? ⟨gb238,1,none⟩ = some (.slice (some ad263) l0_1.length c0_1) ∧ w'.cell? (ad263.add ((ji57).toNat * 3)) = some (.int .i64 ((rd_T36 l0_1 ji57).f0)) ∧ w'.cell? ⟨(ad263.add ((ji57).toNat * 3)).block,(ad263.add ((ji57).toNat * 3)).off+1,none⟩ = some (.int .i64 ((rd_T36 l0_1 ji57).f1)) ∧ w'.cell? ⟨(ad263.add ((ji57).toNat * 3)).block,(ad263.add ((ji57).toNat * 3)).off+2,none⟩ = some (.int .i64 ((rd_T36 l0_1 ji57).f2)) ∧ w'.cell? (ad263.add ((ji57).toNat * 3)) = some (.int .i64 ((rd_T36 l0_1 ji57).f0)) ∧ w'.cell? ⟨(ad263.add ((ji57).toNat * 3)).block,(ad263.add ((ji57).toNat * 3)).off+1,none⟩ = some (.int .i64 ((rd_T36 l0_1 ji57).f1)) ∧ w'.cell? ⟨(ad263.add ((ji57).toNat * 3)).block,(ad263.add ((ji57).toNat * 3)).off+2,none⟩ = some (.int .i64 ((rd_T36 l0_1 ji57).f2))) (ds:=[]) #[false,false,false,false,false,false,false,false,false,false,false,false,false,false,false,false,false,false,false,false,false,false,false,false] (by kernel_rfl) rfl rfl ⟨(blk_cell BK238.out 0).trans rfl,(blk_cell BK238.out 1).trans rfl,((HB.out.cell (World.block_lt_of_cell? w _ hw263_0)).trans hw263_0),((HB.out.cell (World.block_lt_of_cell? w _ hw263_1)).trans hw263_1),((HB.out.cell (World.block_lt_of_cell? w _ hw263_2)).trans hw263_2),((HB.out.cell (World.block_lt_of_cell? w _ hw266_0)).trans hw266_0),((HB.out.cell (World.block_lt_of_cell? w _ hw266_1)).trans hw266_1),((HB.out.cell (World.block_lt_of_cell? w _ hw266_2)).trans hw266_2)⟩ (fun hHeld => ?_);refine with_tabW lapidarylaw10_MeshFlips.tab23 lapidarylaw10_MeshFlips.bits23 (fun HT_ HW_ => ?_)
                      generalize wr.drew = w84 at HO_249000 HO_249001 HO_261000 HO_261001 BK238 BK248 BK260 HB hx263_0 hx263_1 hx263_2 hx266_0 hx266_1 hx266_2 hHeld ⊢
                      refine pure_ (i:=0) (N:=some 84) (v:=?_) (a':=?_) #[true,false,false,false,false,false,false,false,false,false,false,false,false,false,false,false,false,false,false,false,false,false,false,false] rfl rfl (any_of HT_.out (by kernel_rfl)) (fun _ _ _ h => h) (Or.inl ⟨by rfl,?_⟩) ?_ ?_
                      rotate_left
                      ·intro w'
                       go_simp
                       with_reducible rfl
                      rotate_left
                      ·simp only [Act.put,sAx13,sBx13,sCx13,i64_w,i32_w]
                       rfl
                      refine pure_ (i:=1) (N:=some 85) (v:=?_) (a':=?_) #[true,true,false,false,false,false,false,false,false,false,false,false,false,false,false,false,false,false,false,false,false,false,false,false] rfl rfl (any_of HT_.out (by kernel_rfl)) (fun _ _ _ h => h) (Or.inl ⟨by rfl,?_⟩) ?_ ?_
                      rotate_left
                      ·intro w'
                       go_simp
                       with_reducible rfl
                      rotate_left
                      ·simp only [Act.put,sAx13,sBx13,sCx13,i64_w,i32_w]
                       rfl
                      refine pure_ (i:=2) (N:=some 86) (v:=?_) (a':=?_) #[true,true,true,false,false,false,false,false,false,false,false,false,false,false,false,false,false,false,false,false,false,false,false,false] rfl rfl (any_of HT_.out (by kernel_rfl)) (fun _ _ _ h => h) (Or.inl ⟨by rfl,?_⟩) ?_ ?_
                      rotate_left
                      ·intro w'
                       go_simp
                       with_reducible rfl
                      rotate_left
                      ·simp only [Act.put,sAx13,sBx13,sCx13,i64_w,i32_w]
                       rfl
                      refine pure_ (i:=4) (N:=some 88) (v:=?_) (a':=?_) #[true,true,true,false,true,false,false,false,false,false,false,false,false,false,false,false,false,false,false,false,false,false,false,false] rfl rfl (any_of HT_.out (by kernel_rfl)) (fun _ _ _ h => h) (Or.inl ⟨by rfl,?_⟩) ?_ ?_
                      rotate_left
                      ·intro w'
                       go_simp
                       with_reducible rfl
                      rotate_left
                      ·simp only [Act.put,sAx13,sBx13,sCx13,i64_w,i32_w]
                       rfl
                      refine pure_ (i:=6) (N:=some 90) (v:=?_) (a':=?_) #[true,true,true,false,true,false,true,false,false,false,false,false,false,false,false,false,false,false,false,false,false,false,false,false] rfl rfl (any_of HT_.out (by kernel_rfl)) (fun _ _ _ h => h) (Or.inl ⟨by rfl,?_⟩) ?_ ?_
                      rotate_left
                      ·intro w'
                       go_simp
                       with_reducible rfl
                      rotate_left
                      ·simp only [Act.put,sAx13,sBx13,sCx13,i64_w,i32_w]
                       rfl
                      refine pure_ (i:=7) (N:=some 91) (v:=?_) (a':=?_) #[true,true,true,false,true,false,true,true,false,false,false,false,false,false,false,false,false,false,false,false,false,false,false,false] rfl rfl (any_of HT_.out (by kernel_rfl)) (fun _ _ _ h => h) (Or.inl ⟨by rfl,?_⟩) ?_ ?_
                      rotate_left
                      ·intro w'
                       go_simp
                       with_reducible rfl
                      rotate_left
                      ·simp only [Act.put,sAx13,sBx13,sCx13,i64_w,i32_w]
                       rfl
                      refine pure_ (i:=8) (N:=some 92) (v:=?_) (a':=?_) #[true,true,true,false,true,false,true,true,true,false,false,false,false,false,false,false,false,false,false,false,false,false,false,false] rfl rfl (any_of HT_.out (by kernel_rfl)) (fun _ _ _ h => h) (Or.inl ⟨by rfl,?_⟩) ?_ ?_
                      rotate_left
                      ·intro w'
                       go_simp
                       with_reducible rfl
                      rotate_left
                      ·simp only [Act.put,sAx13,sBx13,sCx13,i64_w,i32_w]
                       rfl
                      refine pure_ (i:=9) (N:=some 93) (v:=?_) (a':=?_) #[true,true,true,false,true,false,true,true,true,true,false,false,false,false,false,false,false,false,false,false,false,false,false,false] rfl rfl (any_of HT_.out (by kernel_rfl)) (fun _ _ _ h => h) (Or.inl ⟨by rfl,?_⟩) ?_ ?_
                      rotate_left
                      ·intro w'
                       go_simp
                       with_reducible rfl
                      rotate_left
                      ·simp only [Act.put,sAx13,sBx13,sCx13,i64_w,i32_w]
                       rfl
                      refine pure_ (i:=13) (N:=some 97) (v:=?_) (a':=?_) #[true,true,true,false,true,false,true,true,true,true,false,false,false,true,false,false,false,false,false,false,false,false,false,false] rfl rfl (any_of HT_.out (by kernel_rfl)) (fun _ _ _ h => h) (Or.inl ⟨by rfl,?_⟩) ?_ ?_
                      rotate_left
                      ·intro w'
                       go_simp
                       with_reducible rfl
                      rotate_left
                      ·simp only [Act.put,sAx13,sBx13,sCx13,i64_w,i32_w]
                       rfl
                      refine pure_ (i:=15) (N:=some 99) (v:=?_) (a':=?_) #[true,true,true,false,true,false,true,true,true,true,false,false,false,true,false,true,false,false,false,false,false,false,false,false] rfl rfl (any_of HT_.out (by kernel_rfl)) (fun _ _ _ h => h) (Or.inl ⟨by rfl,?_⟩) ?_ ?_
                      rotate_left
                      ·intro w'
                       go_simp
                       with_reducible rfl
                      rotate_left
                      ·simp only [Act.put,sAx13,sBx13,sCx13,i64_w,i32_w]
                       rfl
                      refine pure_ (i:=16) (N:=some 100) (v:=?_) (a':=?_) #[true,true,true,false,true,false,true,true,true,true,false,false,false,true,false,true,true,false,false,false,false,false,false,false] rfl rfl (any_of HT_.out (by kernel_rfl)) (fun _ _ _ h => h) (Or.inl ⟨by rfl,?_⟩) ?_ ?_
                      rotate_left
                      ·intro w'
                       go_simp
                       with_reducible rfl
                      rotate_left
                      ·simp only [Act.put,sAx13,sBx13,sCx13,i64_w,i32_w]
                       rfl
                      refine take_ (i:=3) (N:=some 87) (v:=?_) (a':=?_) #[true,true,true,true,true,false,true,true,true,true,false,false,false,true,false,true,true,false,false,false,false,false,false,false] rfl rfl (take_ofW HT_.out HW_.out (by kernel_rfl)) (fun _ _ _ h => h) (Or.inl ⟨by rfl,?_⟩) hHeld ?_ ?_
                      rotate_left
                      ·rintro w' ⟨s0,s1,s2,s3,s4,s5,s6,s7⟩
                       go_simp
                       with_reducible rfl
                      rotate_left
                      ·simp only [Act.put,sAx13,sBx13,sCx13,i64_w,i32_w]
                       rfl
                      refine take_ (i:=5) (N:=some 89) (v:=?_) (a':=?_) #[true,true,true,true,true,true,true,true,true,true,false,false,false,true,false,true,true,false,false,false,false,false,false,false] rfl rfl (take_ofW HT_.out HW_.out (by kernel_rfl)) (fun _ _ _ h => h) (Or.inl ⟨by rfl,?_⟩) hHeld ?_ ?_
                      rotate_left
                      ·rintro w' ⟨s0,s1,s2,s3,s4,s5,s6,s7⟩
                       go_simp
                       with_reducible rfl
                      rotate_left
                      ·simp only [Act.put,sAx13,sBx13,sCx13,i64_w,i32_w]
                       rfl
                      refine pure_ (i:=10) (N:=some 94) (v:=?_) (a':=?_) #[true,true,true,true,true,true,true,true,true,true,true,false,false,true,false,true,true,false,false,false,false,false,false,false] rfl rfl (any_of HT_.out (by kernel_rfl)) (fun _ _ _ h => h) (Or.inl ⟨by rfl,?_⟩) ?_ ?_
                      rotate_left
                      ·intro w'
                       go_simp
                       with_reducible rfl
                      rotate_left
                      ·simp only [Act.put,sAx13,sBx13,sCx13,i64_w,i32_w]
                       rfl
                      refine pure_ (i:=11) (N:=some 95) (v:=?_) (a':=?_) #[true,true,true,true,true,true,true,true,true,true,true,true,false,true,false,true,true,false,false,false,false,false,false,false] rfl rfl (any_of HT_.out (by kernel_rfl)) (fun _ _ _ h => h) (Or.inl ⟨by rfl,?_⟩) ?_ ?_
                      rotate_left
                      ·intro w'
                       go_simp
                       with_reducible rfl
                      rotate_left
                      ·simp only [Act.put,sAx13,sBx13,sCx13,i64_w,i32_w]
                       rfl
                      refine take_ (i:=12) (N:=some 96) (v:=?_) (a':=?_) #[true,true,true,true,true,true,true,true,true,true,true,true,true,true,false,true,true,false,false,false,false,false,false,false] rfl rfl (take_ofW HT_.out HW_.out (by kernel_rfl)) (fun _ _ _ h => h) (Or.inl ⟨by rfl,?_⟩) hHeld ?_ ?_
                      rotate_left
                      ·rintro w' ⟨s0,s1,s2,s3,s4,s5,s6,s7⟩
                       go_simp
                       with_reducible rfl
                      rotate_left
                      ·simp only [Act.put,sAx13,sBx13,sCx13,i64_w,i32_w]
                       rfl
                      refine take_ (i:=14) (N:=some 98) (v:=?_) (a':=?_) #[true,true,true,true,true,true,true,true,true,true,true,true,true,true,true,true,true,false,false,false,false,false,false,false] rfl rfl (take_ofW HT_.out HW_.out (by kernel_rfl)) (fun _ _ _ h => h) (Or.inl ⟨by rfl,?_⟩) hHeld ?_ ?_
                      rotate_left
                      ·rintro w' ⟨s0,s1,s2,s3,s4,s5,s6,s7⟩
                       go_simp
                       with_reducible rfl
                      rotate_left
                      ·simp only [Act.put,sAx13,sBx13,sCx13,i64_w,i32_w]
                       rfl
                      refine pure_ (i:=17) (N:=some 101) (v:=?_) (a':=?_) #[true,true,true,true,true,true,true,true,true,true,true,true,true,true,true,true,true,true,false,false,false,false,false,false] rfl rfl (any_of HT_.out (by kernel_rfl)) (fun _ _ _ h => h) (Or.inl ⟨by rfl,?_⟩) ?_ ?_
                      rotate_left
                      ·intro w'
                       go_simp
                       with_reducible rfl
                      rotate_left
                      ·simp only [Act.put,sAx13,sBx13,sCx13,i64_w,i32_w]
                       rfl
                      refine pure_ (i:=18) (N:=some 102) (v:=?_) (a':=?_) #[true,true,true,true,true,true,true,true,true,true,true,true,true,true,true,true,true,true,true,false,false,false,false,false] rfl rfl (any_of HT_.out (by kernel_rfl)) (fun _ _ _ h => h) (Or.inl ⟨by rfl,?_⟩) ?_ ?_
                      rotate_left
                      ·intro w'
                       go_simp
                       with_reducible rfl
                      rotate_left
                      ·simp only [Act.put,sAx13,sBx13,sCx13,i64_w,i32_w]
                       rfl
                      refine take_ (i:=19) (N:=some 103) (v:=?_) (a':=?_) #[true,true,true,true,true,true,true,true,true,true,true,true,true,true,true,true,true,true,true,true,false,false,false,false] rfl rfl (take_ofW HT_.out HW_.out (by kernel_rfl)) (fun _ _ _ h => h) (Or.inl ⟨by rfl,?_⟩) hHeld ?_ ?_
                      rotate_left
                      ·rintro w' ⟨s0,s1,s2,s3,s4,s5,s6,s7⟩
                       go_simp
                       with_reducible rfl
                      rotate_left
                      ·simp only [Act.put,sAx13,sBx13,sCx13,i64_w,i32_w]
                       rfl
                      refine one_ (i:=20) (N:=some 104) #[true,true,true,true,true,true,true,true,true,true,true,true,true,true,true,true,true,true,true,true,true,false,false,false] rfl rfl (one_of HT_.out (by kernel_rfl)) (by decide) (fun K hK => ?_)
                      refine goes_ Tryd.func22 (by kernel_rfl) rfl #[.slice (some ad263) l0_1.length c0_1,.int .i64 ((rd_T36 l0_1 ji57).f2),.int .i64 ((rd_T36 l0_1 ji57).f1)] (by rfl) rfl rfl (by (try simp only [List.map_toArray,List.map_cons,List.map_nil]);first | done | (simp only [hji57];rfl) | rfl | (simp only [List.length_drop,List.length_take];rfl)) ?_
                      with_reducible refine (lapidaryref10_Has.calls k3 _ _ l0_1 ((rd_T36 l0_1 ji57).f2) ((rd_T36 l0_1 ji57).f1) t267 _ ?side1 ?side2 A83.out).mono ?_
                      (case side1 => repeat (first|exact (Kd.C_below HR0_1.out HB.out)|(with_reducible first|refine Kd.C_alloc ?_ _|refine Kd.C_drewN ?_ _|refine Kd.C_drew ?_)))
                      (case side2 => exact HC0_1.out)
                      rintro e w' ⟨rfl,⟨nd,rfl⟩⟩
                      refine ⟨_,rfl,?_⟩
                      refine hK.out _ _ ⟨(blk_cell BK238.out 0).trans rfl,(blk_cell BK238.out 1).trans rfl,((HB.out.cell (World.block_lt_of_cell? w _ hw263_0)).trans hw263_0),((HB.out.cell (World.block_lt_of_cell? w _ hw263_1)).trans hw263_1),((HB.out.cell (World.block_lt_of_cell? w _ hw263_2)).trans hw263_2),((HB.out.cell (World.block_lt_of_cell? w _ hw266_0)).trans hw266_0),((HB.out.cell (World.block_lt_of_cell? w _ hw266_1)).trans hw266_1),((HB.out.cell (World.block_lt_of_cell? w _ hw266_2)).trans hw266_2)⟩ (fun hHeld => ?_)
                      clear hK K
                      refine norm_ (a':=?_) ?_ ?_
                      rotate_left
                      ·show Act.put _ (some 104) _ = _
                       simp only [Act.put,sAx13,sBx13,sCx13,i64_w,i32_w]
                       rfl
                      refine pure_ (i:=21) (N:=some 105) (v:=?_) (a':=?_) #[true,true,true,true,true,true,true,true,true,true,true,true,true,true,true,true,true,true,true,true,true,true,false,false] rfl rfl (any_of HT_.out (by kernel_rfl)) (fun _ _ _ h => h) (Or.inl ⟨by rfl,?_⟩) ?_ ?_
                      rotate_left
                      ·intro w'
                       go_simp
                       with_reducible rfl
                      rotate_left
                      ·simp only [Act.put,sAx13,sBx13,sCx13,i64_w,i32_w]
                       rfl
                      refine pure_ (i:=22) (N:=some 106) (v:=?_) (a':=?_) #[true,true,true,true,true,true,true,true,true,true,true,true,true,true,true,true,true,true,true,true,true,true,true,false] rfl rfl (any_of HT_.out (by kernel_rfl)) (fun _ _ _ h => h) (Or.inl ⟨by rfl,?_⟩) ?_ ?_
                      rotate_left
                      ·intro w'
                       go_simp
                       with_reducible rfl
                      rotate_left
                      ·simp only [Act.put,sAx13,sBx13,sCx13,i64_w,i32_w]
                       rfl
                      refine pure_ (i:=23) (N:=some 11) (v:=?_) (a':=?_) #[true,true,true,true,true,true,true,true,true,true,true,true,true,true,true,true,true,true,true,true,true,true,true,true] rfl rfl (any_of HT_.out (by kernel_rfl)) (fun _ _ _ h => h) (Or.inl ⟨by rfl,?_⟩) ?_ ?_
                      rotate_left
                      ·intro w'
                       go_simp
                       with_reducible rfl
                      rotate_left
                      ·simp only [Act.put,sAx13,sBx13,sCx13,i64_w,i32_w]
                       rfl
                      refine done_ (done_of HT_.out (by kernel_rfl)) ?_
                      try go_wp2
                      (try simp only [← hl261001_3])
                      go_roundg k3
                      case measure => have:=HK1.out;have:=HJ42.out;have:=HK3.out;omega
                      case rel => exact ⟨(decide (t267 ≥ 0)),(wrap64 (1+1)),(by first | rfl | (simp;done) | (simp [*];done) | (simp [wrap64];done)),(by first | rfl | (simp;done) | (simp [*];done) | (simp [wrap64];done)),H',⟨by have:=HK1.out;have:=HJ42.out;have:=HK3.out;omega⟩,⟨by (try simp only [hl261001_3]);(with_reducible repeat (first | apply Kd.R_alloc | apply Kd.R_drewN | apply Kd.R_drew));exact HO_249000.out⟩,⟨by (try simp only [hl261001_3]);(with_reducible repeat (first | apply Kd.R_alloc | apply Kd.R_drewN | apply Kd.R_drew));exact HO_249001.out⟩,⟨by (try simp only [hl261001_3]);(with_reducible repeat (first | apply Kd.R_alloc | apply Kd.R_drewN | apply Kd.R_drew));exact HO_261000.out⟩,⟨by (try simp only [hl261001_3]);(with_reducible repeat (first | apply Kd.R_alloc | apply Kd.R_drewN | apply Kd.R_drew));exact HO_261001.out⟩,⟨by (try simp only [hl261001_3]);(with_reducible repeat (first | refine blk_drewN ?_ _ | refine blk_drew ?_ | refine blk_alloc ?_ _));exact BK238.out⟩,⟨by (try simp only [hl261001_3]);(with_reducible repeat (first | refine blk_drewN ?_ _ | refine blk_drew ?_ | refine blk_alloc ?_ _));exact BK248.out⟩,⟨by (try simp only [hl261001_3]);(with_reducible repeat (first | refine blk_drewN ?_ _ | refine blk_drew ?_ | refine blk_alloc ?_ _));exact BK260.out⟩,⟨by repeat (first | (with_reducible first | exact HB.out | apply below_alloc | apply pw_below_drewN | apply below_drew1 | refine below_set ?_ GE238.out | refine below_set ?_ GE248.out | refine below_set ?_ GE260.out) | exact HB.out)⟩⟩
                     ·rw [if_neg c82] at H
                      by_cases c85 : x12_3 = 2
                      ·rw [if_pos c85] at H
                       subst c85
                       replace H:=Option.bind_eq_some_iff.mp H
                       obtain ⟨t269,A860,H⟩:=H
                       replace H : (lapidarylaw10_MeshFlips.l1 k3 ji57 (decide (t269 ≥ 0)) (wrap64 (2+1)) l0_0 l0_1 t254 y262) = some r:=H
                       have A86:=aMx13 A860
                       clear A860
                       have H':=aMx13 H
                       clear H
                       try go_wp2
                       have n0_:=aMx13 (Kd.R_drew HO_249000.out)
                       have n1_:=aMx13 (Kd.R_drew HO_249001.out)
                       have n2_:=aMx13 (Kd.R_drew HO_261000.out)
                       have n3_:=aMx13 (Kd.R_drew HO_261001.out)
                       have n4_:=aMx13 (blk_drew BK238.out)
                       have n5_:=aMx13 (blk_drew BK248.out)
                       have n6_:=aMx13 (blk_drew BK260.out)
                       have n7_:=aMx13 (below_drew1 HB.out)
                       clear HO_249000
                       clear HO_249001
                       clear HO_261000
                       clear HO_261001
                       clear BK238
                       clear BK248
                       clear BK260
                       clear HB
                       have HO_249000:=n0_
                       have HO_249001:=n1_
                       have HO_261000:=n2_
                       have HO_261001:=n3_
                       have BK238:=n4_
                       have BK248:=n5_
                       have BK260:=n6_
                       have HB:=n7_
                       clear n0_ n1_ n2_ n3_ n4_ n5_ n6_ n7_
                       have p263 : 0 ≤ (ji57 : Int):=of_decide_eq_true (by first | (with_reducible assumption) | assumption)
                       have q263 : ji57 < (l0_1.length : Int):=of_decide_eq_true (by first | (with_reducible assumption) | assumption)
                       obtain ⟨ad263,e263,hx263_0,hx263_1,hx263_2⟩:=at_T36 HR0_1.out ji57 p263 q263
                       have hw263_2:=hx263_2
                       have hw263_1:=hx263_1
                       have hw263_0:=hx263_0
                       cases e263
                       replace hx263_0:=(HB.out.cell (World.block_lt_of_cell? w _ hx263_0)).trans hx263_0
                       replace hx263_1:=(HB.out.cell (World.block_lt_of_cell? w _ hx263_1)).trans hx263_1
                       replace hx263_2:=(HB.out.cell (World.block_lt_of_cell? w _ hx263_2)).trans hx263_2
                       replace p263:=eq_true p263
                       replace q263:=eq_true q263
                       have p268 : 0 ≤ (ji57 : Int):=of_decide_eq_true (by first | (with_reducible assumption) | assumption)
                       have q268 : ji57 < (l0_1.length : Int):=of_decide_eq_true (by first | (with_reducible assumption) | assumption)
                       obtain ⟨ad268,e268,hx268_0,hx268_1,hx268_2⟩:=at_T36 HR0_1.out ji57 p268 q268
                       have hw268_2:=hx268_2
                       have hw268_1:=hx268_1
                       have hw268_0:=hx268_0
                       obtain rfl : ad263 = ad268:=(by injection e268)
                       replace hx268_0:=(HB.out.cell (World.block_lt_of_cell? w _ hx268_0)).trans hx268_0
                       replace hx268_1:=(HB.out.cell (World.block_lt_of_cell? w _ hx268_1)).trans hx268_1
                       replace hx268_2:=(HB.out.cell (World.block_lt_of_cell? w _ hx268_2)).trans hx268_2
                       replace p268:=eq_true p268
                       replace q268:=eq_true q268
                       refine start_ (n:=24) (S:=fun w' => w'.cell? ⟨gb238,0,none⟩ = some (.slice A0_0 l0_0.length c0_0) ∧ w'.cell? ⟨gb238,1,none⟩ = some (.slice (some ad263) l0_1.length c0_1) ∧ w'.cell? (ad263.add ((ji57).toNat * 3)) = some (.int .i64 ((rd_T36 l0_1 ji57).f0)) ∧ w'.cell? ⟨(ad263.add ((ji57).toNat * 3)).block,(ad263.add ((ji57).toNat * 3)).off+1,none⟩ = some (.int .i64 ((rd_T36 l0_1 ji57).f1)) ∧ w'.cell? ⟨(ad263.add ((ji57).toNat * 3)).block,(ad263.add ((ji57).toNat * 3)).off+2,none⟩ = some (.int .i64 ((rd_T36 l0_1 ji57).f2)) ∧ w'.cell? (ad263.add ((ji57).toNat * 3)) = some (.int .i64 ((rd_T36 l0_1 ji57).f0)) ∧ w'.cell? ⟨(ad263.add ((ji57).toNat * 3)).block,(ad263.add ((ji57).toNat * 3)).off+1,none⟩ = some (.int .i64 ((rd_T36 l0_1 ji57).f1)) ∧ w'.cell? ⟨(ad263.add ((ji57).toNat * 3)).block,(ad263.add ((ji57).toNat * 3)).off+2,none⟩ = some (.int .i64 ((rd_T36 l0_1 ji57).f2))) (ds:=[]) #[false,false,false,false,false,false,false,false,false,false,false,false,false,false,false,false,false,false,false,false,false,false,false,false] (by kernel_rfl) rfl rfl ⟨(blk_cell BK238.out 0).trans rfl,(blk_cell BK238.out 1).trans rfl,((HB.out.cell (World.block_lt_of_cell? w _ hw263_0)).trans hw263_0),((HB.out.cell (World.block_lt_of_cell? w _ hw263_1)).trans hw263_1),((HB.out.cell (World.block_lt_of_cell? w _ hw263_2)).trans hw263_2),((HB.out.cell (World.block_lt_of_cell? w _ hw268_0)).trans hw268_0),((HB.out.cell (World.block_lt_of_cell? w _ hw268_1)).trans hw268_1),((HB.out.cell (World.block_lt_of_cell? w _ hw268_2)).trans hw268_2)⟩ (fun hHeld => ?_);refine with_tabW lapidarylaw10_MeshFlips.tab23 lapidarylaw10_MeshFlips.bits23 (fun HT_ HW_ => ?_)
                       generalize wr.drew = w87 at HO_249000 HO_249001 HO_261000 HO_261001 BK238 BK248 BK260 HB hx263_0 hx263_1 hx263_2 hx268_0 hx268_1 hx268_2 hHeld ⊢
                       refine pure_ (i:=0) (N:=some 84) (v:=?_) (a':=?_) #[true,false,false,false,false,false,false,false,false,false,false,false,false,false,false,false,false,false,false,false,false,false,false,false] rfl rfl (any_of HT_.out (by kernel_rfl)) (fun _ _ _ h => h) (Or.inl ⟨by rfl,?_⟩) ?_ ?_
                       rotate_left
                       ·intro w'
                        go_simp
                        with_reducible rfl
                       rotate_left
                       ·simp only [Act.put,sAx13,sBx13,sCx13,i64_w,i32_w]
                        rfl
                       refine pure_ (i:=1) (N:=some 85) (v:=?_) (a':=?_) #[true,true,false,false,false,false,false,false,false,false,false,false,false,false,false,false,false,false,false,false,false,false,false,false] rfl rfl (any_of HT_.out (by kernel_rfl)) (fun _ _ _ h => h) (Or.inl ⟨by rfl,?_⟩) ?_ ?_
                       rotate_left
                       ·intro w'
                        go_simp
                        with_reducible rfl
                       rotate_left
                       ·simp only [Act.put,sAx13,sBx13,sCx13,i64_w,i32_w]
                        rfl
                       refine pure_ (i:=2) (N:=some 86) (v:=?_) (a':=?_) #[true,true,true,false,false,false,false,false,false,false,false,false,false,false,false,false,false,false,false,false,false,false,false,false] rfl rfl (any_of HT_.out (by kernel_rfl)) (fun _ _ _ h => h) (Or.inl ⟨by rfl,?_⟩) ?_ ?_
                       rotate_left
                       ·intro w'
                        go_simp
                        with_reducible rfl
                       rotate_left
                       ·simp only [Act.put,sAx13,sBx13,sCx13,i64_w,i32_w]
                        rfl
                       refine pure_ (i:=4) (N:=some 88) (v:=?_) (a':=?_) #[true,true,true,false,true,false,false,false,false,false,false,false,false,false,false,false,false,false,false,false,false,false,false,false] rfl rfl (any_of HT_.out (by kernel_rfl)) (fun _ _ _ h => h) (Or.inl ⟨by rfl,?_⟩) ?_ ?_
                       rotate_left
                       ·intro w'
                        go_simp
                        with_reducible rfl
                       rotate_left
                       ·simp only [Act.put,sAx13,sBx13,sCx13,i64_w,i32_w]
                        rfl
                       refine pure_ (i:=6) (N:=some 90) (v:=?_) (a':=?_) #[true,true,true,false,true,false,true,false,false,false,false,false,false,false,false,false,false,false,false,false,false,false,false,false] rfl rfl (any_of HT_.out (by kernel_rfl)) (fun _ _ _ h => h) (Or.inl ⟨by rfl,?_⟩) ?_ ?_
                       rotate_left
                       ·intro w'
                        go_simp
                        with_reducible rfl
                       rotate_left
                       ·simp only [Act.put,sAx13,sBx13,sCx13,i64_w,i32_w]
                        rfl
                       refine pure_ (i:=7) (N:=some 91) (v:=?_) (a':=?_) #[true,true,true,false,true,false,true,true,false,false,false,false,false,false,false,false,false,false,false,false,false,false,false,false] rfl rfl (any_of HT_.out (by kernel_rfl)) (fun _ _ _ h => h) (Or.inl ⟨by rfl,?_⟩) ?_ ?_
                       rotate_left
                       ·intro w'
                        go_simp
                        with_reducible rfl
                       rotate_left
                       ·simp only [Act.put,sAx13,sBx13,sCx13,i64_w,i32_w]
                        rfl
                       refine pure_ (i:=8) (N:=some 92) (v:=?_) (a':=?_) #[true,true,true,false,true,false,true,true,true,false,false,false,false,false,false,false,false,false,false,false,false,false,false,false] rfl rfl (any_of HT_.out (by kernel_rfl)) (fun _ _ _ h => h) (Or.inl ⟨by rfl,?_⟩) ?_ ?_
                       rotate_left
                       ·intro w'
                        go_simp
                        with_reducible rfl
                       rotate_left
                       ·simp only [Act.put,sAx13,sBx13,sCx13,i64_w,i32_w]
                        rfl
                       refine pure_ (i:=9) (N:=some 93) (v:=?_) (a':=?_) #[true,true,true,false,true,false,true,true,true,true,false,false,false,false,false,false,false,false,false,false,false,false,false,false] rfl rfl (any_of HT_.out (by kernel_rfl)) (fun _ _ _ h => h) (Or.inl ⟨by rfl,?_⟩) ?_ ?_
                       rotate_left
                       ·intro w'
                        go_simp
                        with_reducible rfl
                       rotate_left
                       ·simp only [Act.put,sAx13,sBx13,sCx13,i64_w,i32_w]
                        rfl
                       refine pure_ (i:=13) (N:=some 97) (v:=?_) (a':=?_) #[true,true,true,false,true,false,true,true,true,true,false,false,false,true,false,false,false,false,false,false,false,false,false,false] rfl rfl (any_of HT_.out (by kernel_rfl)) (fun _ _ _ h => h) (Or.inl ⟨by rfl,?_⟩) ?_ ?_
                       rotate_left
                       ·intro w'
                        go_simp
                        with_reducible rfl
                       rotate_left
                       ·simp only [Act.put,sAx13,sBx13,sCx13,i64_w,i32_w]
                        rfl
                       refine pure_ (i:=15) (N:=some 99) (v:=?_) (a':=?_) #[true,true,true,false,true,false,true,true,true,true,false,false,false,true,false,true,false,false,false,false,false,false,false,false] rfl rfl (any_of HT_.out (by kernel_rfl)) (fun _ _ _ h => h) (Or.inl ⟨by rfl,?_⟩) ?_ ?_
                       rotate_left
                       ·intro w'
                        go_simp
                        with_reducible rfl
                       rotate_left
                       ·simp only [Act.put,sAx13,sBx13,sCx13,i64_w,i32_w]
                        rfl
                       refine pure_ (i:=16) (N:=some 100) (v:=?_) (a':=?_) #[true,true,true,false,true,false,true,true,true,true,false,false,false,true,false,true,true,false,false,false,false,false,false,false] rfl rfl (any_of HT_.out (by kernel_rfl)) (fun _ _ _ h => h) (Or.inl ⟨by rfl,?_⟩) ?_ ?_
                       rotate_left
                       ·intro w'
                        go_simp
                        with_reducible rfl
                       rotate_left
                       ·simp only [Act.put,sAx13,sBx13,sCx13,i64_w,i32_w]
                        rfl
                       refine take_ (i:=3) (N:=some 87) (v:=?_) (a':=?_) #[true,true,true,true,true,false,true,true,true,true,false,false,false,true,false,true,true,false,false,false,false,false,false,false] rfl rfl (take_ofW HT_.out HW_.out (by kernel_rfl)) (fun _ _ _ h => h) (Or.inl ⟨by rfl,?_⟩) hHeld ?_ ?_
                       rotate_left
                       ·rintro w' ⟨s0,s1,s2,s3,s4,s5,s6,s7⟩
                        go_simp
                        with_reducible rfl
                       rotate_left
                       ·simp only [Act.put,sAx13,sBx13,sCx13,i64_w,i32_w]
                        rfl
                       refine take_ (i:=5) (N:=some 89) (v:=?_) (a':=?_) #[true,true,true,true,true,true,true,true,true,true,false,false,false,true,false,true,true,false,false,false,false,false,false,false] rfl rfl (take_ofW HT_.out HW_.out (by kernel_rfl)) (fun _ _ _ h => h) (Or.inl ⟨by rfl,?_⟩) hHeld ?_ ?_
                       rotate_left
                       ·rintro w' ⟨s0,s1,s2,s3,s4,s5,s6,s7⟩
                        go_simp
                        with_reducible rfl
                       rotate_left
                       ·simp only [Act.put,sAx13,sBx13,sCx13,i64_w,i32_w]
                        rfl
                       refine pure_ (i:=10) (N:=some 94) (v:=?_) (a':=?_) #[true,true,true,true,true,true,true,true,true,true,true,false,false,true,false,true,true,false,false,false,false,false,false,false] rfl rfl (any_of HT_.out (by kernel_rfl)) (fun _ _ _ h => h) (Or.inl ⟨by rfl,?_⟩) ?_ ?_
                       rotate_left
                       ·intro w'
                        go_simp
                        with_reducible rfl
                       rotate_left
                       ·simp only [Act.put,sAx13,sBx13,sCx13,i64_w,i32_w]
                        rfl
                       refine pure_ (i:=11) (N:=some 95) (v:=?_) (a':=?_) #[true,true,true,true,true,true,true,true,true,true,true,true,false,true,false,true,true,false,false,false,false,false,false,false] rfl rfl (any_of HT_.out (by kernel_rfl)) (fun _ _ _ h => h) (Or.inl ⟨by rfl,?_⟩) ?_ ?_
                       rotate_left
                       ·intro w'
                        go_simp
                        with_reducible rfl
                       rotate_left
                       ·simp only [Act.put,sAx13,sBx13,sCx13,i64_w,i32_w]
                        rfl
                       refine take_ (i:=12) (N:=some 96) (v:=?_) (a':=?_) #[true,true,true,true,true,true,true,true,true,true,true,true,true,true,false,true,true,false,false,false,false,false,false,false] rfl rfl (take_ofW HT_.out HW_.out (by kernel_rfl)) (fun _ _ _ h => h) (Or.inl ⟨by rfl,?_⟩) hHeld ?_ ?_
                       rotate_left
                       ·rintro w' ⟨s0,s1,s2,s3,s4,s5,s6,s7⟩
                        go_simp
                        with_reducible rfl
                       rotate_left
                       ·simp only [Act.put,sAx13,sBx13,sCx13,i64_w,i32_w]
                        rfl
                       refine take_ (i:=14) (N:=some 98) (v:=?_) (a':=?_) #[true,true,true,true,true,true,true,true,true,true,true,true,true,true,true,true,true,false,false,false,false,false,false,false] rfl rfl (take_ofW HT_.out HW_.out (by kernel_rfl)) (fun _ _ _ h => h) (Or.inl ⟨by rfl,?_⟩) hHeld ?_ ?_
                       rotate_left
                       ·rintro w' ⟨s0,s1,s2,s3,s4,s5,s6,s7⟩
                        go_simp
                        with_reducible rfl
                       rotate_left
                       ·simp only [Act.put,sAx13,sBx13,sCx13,i64_w,i32_w]
                        rfl
                       refine pure_ (i:=17) (N:=some 101) (v:=?_) (a':=?_) #[true,true,true,true,true,true,true,true,true,true,true,true,true,true,true,true,true,true,false,false,false,false,false,false] rfl rfl (any_of HT_.out (by kernel_rfl)) (fun _ _ _ h => h) (Or.inl ⟨by rfl,?_⟩) ?_ ?_
                       rotate_left
                       ·intro w'
                        go_simp
                        with_reducible rfl
                       rotate_left
                       ·simp only [Act.put,sAx13,sBx13,sCx13,i64_w,i32_w]
                        rfl
                       refine pure_ (i:=18) (N:=some 102) (v:=?_) (a':=?_) #[true,true,true,true,true,true,true,true,true,true,true,true,true,true,true,true,true,true,true,false,false,false,false,false] rfl rfl (any_of HT_.out (by kernel_rfl)) (fun _ _ _ h => h) (Or.inl ⟨by rfl,?_⟩) ?_ ?_
                       rotate_left
                       ·intro w'
                        go_simp
                        with_reducible rfl
                       rotate_left
                       ·simp only [Act.put,sAx13,sBx13,sCx13,i64_w,i32_w]
                        rfl
                       refine take_ (i:=19) (N:=some 103) (v:=?_) (a':=?_) #[true,true,true,true,true,true,true,true,true,true,true,true,true,true,true,true,true,true,true,true,false,false,false,false] rfl rfl (take_ofW HT_.out HW_.out (by kernel_rfl)) (fun _ _ _ h => h) (Or.inl ⟨by rfl,?_⟩) hHeld ?_ ?_
                       rotate_left
                       ·rintro w' ⟨s0,s1,s2,s3,s4,s5,s6,s7⟩
                        go_simp
                        with_reducible rfl
                       rotate_left
                       ·simp only [Act.put,sAx13,sBx13,sCx13,i64_w,i32_w]
                        rfl
                       refine one_ (i:=20) (N:=some 104) #[true,true,true,true,true,true,true,true,true,true,true,true,true,true,true,true,true,true,true,true,true,false,false,false] rfl rfl (one_of HT_.out (by kernel_rfl)) (by decide) (fun K hK => ?_)
                       refine goes_ Tryd.func22 (by kernel_rfl) rfl #[.slice (some ad263) l0_1.length c0_1,.int .i64 ((rd_T36 l0_1 ji57).f0),.int .i64 ((rd_T36 l0_1 ji57).f2)] (by rfl) rfl rfl (by (try simp only [List.map_toArray,List.map_cons,List.map_nil]);first | done | (simp only [hji57];rfl) | rfl | (simp only [List.length_drop,List.length_take];rfl)) ?_
                       with_reducible refine (lapidaryref10_Has.calls k3 _ _ l0_1 ((rd_T36 l0_1 ji57).f0) ((rd_T36 l0_1 ji57).f2) t269 _ ?side1 ?side2 A86.out).mono ?_
                       (case side1 => repeat (first|exact (Kd.C_below HR0_1.out HB.out)|(with_reducible first|refine Kd.C_alloc ?_ _|refine Kd.C_drewN ?_ _|refine Kd.C_drew ?_)))
                       (case side2 => exact HC0_1.out)
                       rintro e w' ⟨rfl,⟨nd,rfl⟩⟩
                       refine ⟨_,rfl,?_⟩
                       refine hK.out _ _ ⟨(blk_cell BK238.out 0).trans rfl,(blk_cell BK238.out 1).trans rfl,((HB.out.cell (World.block_lt_of_cell? w _ hw263_0)).trans hw263_0),((HB.out.cell (World.block_lt_of_cell? w _ hw263_1)).trans hw263_1),((HB.out.cell (World.block_lt_of_cell? w _ hw263_2)).trans hw263_2),((HB.out.cell (World.block_lt_of_cell? w _ hw268_0)).trans hw268_0),((HB.out.cell (World.block_lt_of_cell? w _ hw268_1)).trans hw268_1),((HB.out.cell (World.block_lt_of_cell? w _ hw268_2)).trans hw268_2)⟩ (fun hHeld => ?_)
                       clear hK K
                       refine norm_ (a':=?_) ?_ ?_
                       rotate_left
                       ·show Act.put _ (some 104) _ = _
                        simp only [Act.put,sAx13,sBx13,sCx13,i64_w,i32_w]
                        rfl
                       refine pure_ (i:=21) (N:=some 105) (v:=?_) (a':=?_) #[true,true,true,true,true,true,true,true,true,true,true,true,true,true,true,true,true,true,true,true,true,true,false,false] rfl rfl (any_of HT_.out (by kernel_rfl)) (fun _ _ _ h => h) (Or.inl ⟨by rfl,?_⟩) ?_ ?_
                       rotate_left
                       ·intro w'
                        go_simp
                        with_reducible rfl
                       rotate_left
                       ·simp only [Act.put,sAx13,sBx13,sCx13,i64_w,i32_w]
                        rfl
                       refine pure_ (i:=22) (N:=some 106) (v:=?_) (a':=?_) #[true,true,true,true,true,true,true,true,true,true,true,true,true,true,true,true,true,true,true,true,true,true,true,false] rfl rfl (any_of HT_.out (by kernel_rfl)) (fun _ _ _ h => h) (Or.inl ⟨by rfl,?_⟩) ?_ ?_
                       rotate_left
                       ·intro w'
                        go_simp
                        with_reducible rfl
                       rotate_left
                       ·simp only [Act.put,sAx13,sBx13,sCx13,i64_w,i32_w]
                        rfl
                       refine pure_ (i:=23) (N:=some 11) (v:=?_) (a':=?_) #[true,true,true,true,true,true,true,true,true,true,true,true,true,true,true,true,true,true,true,true,true,true,true,true] rfl rfl (any_of HT_.out (by kernel_rfl)) (fun _ _ _ h => h) (Or.inl ⟨by rfl,?_⟩) ?_ ?_
                       rotate_left
                       ·intro w'
                        go_simp
                        with_reducible rfl
                       rotate_left
                       ·simp only [Act.put,sAx13,sBx13,sCx13,i64_w,i32_w]
                        rfl
                       refine done_ (done_of HT_.out (by kernel_rfl)) ?_
                       try go_wp2
                       (try simp only [← hl261001_3])
                       go_roundg k3
                       case measure => have:=HK1.out;have:=HJ42.out;have:=HK3.out;omega
                       case rel => exact ⟨(decide (t269 ≥ 0)),(wrap64 (2+1)),(by first | rfl | (simp;done) | (simp [*];done) | (simp [wrap64];done)),(by first | rfl | (simp;done) | (simp [*];done) | (simp [wrap64];done)),H',⟨by have:=HK1.out;have:=HJ42.out;have:=HK3.out;omega⟩,⟨by (try simp only [hl261001_3]);(with_reducible repeat (first | apply Kd.R_alloc | apply Kd.R_drewN | apply Kd.R_drew));exact HO_249000.out⟩,⟨by (try simp only [hl261001_3]);(with_reducible repeat (first | apply Kd.R_alloc | apply Kd.R_drewN | apply Kd.R_drew));exact HO_249001.out⟩,⟨by (try simp only [hl261001_3]);(with_reducible repeat (first | apply Kd.R_alloc | apply Kd.R_drewN | apply Kd.R_drew));exact HO_261000.out⟩,⟨by (try simp only [hl261001_3]);(with_reducible repeat (first | apply Kd.R_alloc | apply Kd.R_drewN | apply Kd.R_drew));exact HO_261001.out⟩,⟨by (try simp only [hl261001_3]);(with_reducible repeat (first | refine blk_drewN ?_ _ | refine blk_drew ?_ | refine blk_alloc ?_ _));exact BK238.out⟩,⟨by (try simp only [hl261001_3]);(with_reducible repeat (first | refine blk_drewN ?_ _ | refine blk_drew ?_ | refine blk_alloc ?_ _));exact BK248.out⟩,⟨by (try simp only [hl261001_3]);(with_reducible repeat (first | refine blk_drewN ?_ _ | refine blk_drew ?_ | refine blk_alloc ?_ _));exact BK260.out⟩,⟨by repeat (first | (with_reducible first | exact HB.out | apply below_alloc | apply pw_below_drewN | apply below_drew1 | refine below_set ?_ GE238.out | refine below_set ?_ GE248.out | refine below_set ?_ GE260.out) | exact HB.out)⟩⟩
                      ·rw [if_neg c85] at H
                       exact absurd H (by simp)
                   ·rw [if_neg c78] at H
                    exact absurd H (by simp)
                  ·rw [if_neg c77] at H
                   exact absurd H (by simp)
                ·rw [if_neg c74] at H
                 have c74b0 : decide (x12_3 < 3) = false:=decide_eq_false c74
                 clear c74
                 replace H:=Option.bind_eq_some_iff.mp H
                 obtain ⟨t270,A880,H⟩:=H
                 replace H : (if ((t270 == 80) == x11_3) = true then ((lapidarylaw10_known.f).bind fun t271 => (some t271)) else (some false)) = some r:=H
                 have A88:=aMx13 A880
                 clear A880
                 by_cases c89 : ((t270 == 80) == x11_3) = true
                 ·rw [if_pos c89] at H
                  have c89b0 : ((t270 == 80) == x11_3) = true:=c89
                  (try (have c89b1 : decide ((t270 == 80) = x11_3) = true:=by simpa using c89))
                  (try (have c89b2 : ((t270 == 80) == x11_3) = true:=by simpa using c89))
                  clear c89
                  replace H:=Option.bind_eq_some_iff.mp H
                  obtain ⟨t271,A900,H⟩:=H
                  replace H : (some t271) = some r:=H
                  have A90:=aMx13 A900
                  clear A900
                  obtain rfl:=Option.some.inj H
                  have hnb91:=NB260_238.out
                  have hnc91:=NB238_260.out
                  have hnb92:=NB260_248.out
                  have hnc92:=NB248_260.out
                  have hcz93_0 : wr.cell? ⟨gb260,0,none⟩ = some (.slice Ao66 t254.length co66):=(blk_cell BK260.out 0).trans rfl
                  have hcz93_1 : wr.cell? ⟨gb260,1,none⟩ = some (.slice (some ⟨go61,0,none⟩) y262.length co70):=(blk_cell BK260.out 1).trans rfl
                  have hfz93_0:=blk_frozen BK260.out 0
                  have hfz93_1:=blk_frozen BK260.out 1
                  go_wp2_with (first|((with_reducible refine gate_callee (f:=14) rfl ?_);refine goesL_ (some 108) rfl rfl Tryd.func14 (by kernel_rfl) rfl #[.agg #[.slice Ao66 t254.length co66,.slice (some ⟨go61,0,none⟩) y262.length co70]] rfl (by (try simp only [List.map_toArray,List.map_cons,List.map_nil]);first|done|rfl|(simp only [List.length_drop,List.length_take];rfl)) ?_;(with_reducible refine (mesh_Check.calls k3 _ _ t254 _ _ y262 t270 _ ?side1 ?side2 ?side3 ?side4 ?sideG A88.out).mono ?_);(case sideG => exact Kd.C_below HG.out (by repeat (first|(with_reducible first|exact HB.out|apply below_alloc|apply pw_below_drewN|apply below_drew1|refine below_set ?_ GE238.out|refine below_set ?_ GE248.out|refine below_set ?_ GE260.out)|exact HB.out)));(case side1 => repeat (first|exact (Kd.R_reads' HO_261000.out).2.2|(with_reducible first|refine Kd.C_alloc ?_ _|refine Kd.C_drewN ?_ _|refine Kd.C_drew ?_)));(case side2 => exact (Kd.R_reads' HO_261000.out).2.1);(case side3 => repeat (first|exact (Kd.R_reads' HO_261001.out).2.2|(with_reducible first|refine Kd.C_alloc ?_ _|refine Kd.C_drewN ?_ _|refine Kd.C_drew ?_)));(case side4 => exact (Kd.R_reads' HO_261001.out).2.1);rintro e w94 ⟨rfl,hb⟩;refine ⟨_,rfl,?_⟩;have n0_:=aMx13 (Kd.R_below (by (with_reducible repeat (first|apply Kd.R_alloc|apply Kd.R_drewN|apply Kd.R_drew));exact HO_249000.out) hb);have n1_:=aMx13 (Kd.R_below (by (with_reducible repeat (first|apply Kd.R_alloc|apply Kd.R_drewN|apply Kd.R_drew));exact HO_249001.out) hb);have n2_:=aMx13 (Kd.R_below (by (with_reducible repeat (first|apply Kd.R_alloc|apply Kd.R_drewN|apply Kd.R_drew));exact HO_261000.out) hb);have n3_:=aMx13 (Kd.R_below (by (with_reducible repeat (first|apply Kd.R_alloc|apply Kd.R_drewN|apply Kd.R_drew));exact HO_261001.out) hb);have n4_:=aMx13 (blk_below (g:=gb238) (o:=.cells #[.slice A0_0 l0_0.length c0_0,.slice A0_1 l0_1.length c0_1] 25 (0,0)) (by (with_reducible repeat (first|refine blk_drewN ?_ _|refine blk_drew ?_|refine blk_alloc ?_ _));exact BK238.out) hb);have n5_:=aMx13 (blk_below (g:=gb248) (o:=.cells #[.slice Ao21 t242.length co21,.slice (some ad261) x249001_1.length co47] 25 (0,0)) (by (with_reducible repeat (first|refine blk_drewN ?_ _|refine blk_drew ?_|refine blk_alloc ?_ _));exact BK248.out) hb);have n6_:=aMx13 (blk_below (g:=gb260) (o:=.cells #[.slice Ao66 t254.length co66,.slice (some ⟨go61,0,none⟩) y262.length co70] 25 (0,0)) (by (with_reducible repeat (first|refine blk_drewN ?_ _|refine blk_drew ?_|refine blk_alloc ?_ _));exact BK260.out) hb);have n7_:=aMx13 (below_step (by repeat (first|(with_reducible first|exact HB.out|apply below_alloc|apply pw_below_drewN|apply below_drew1|refine below_set ?_ GE238.out|refine below_set ?_ GE248.out|refine below_set ?_ GE260.out)|exact HB.out)) hb);clear HO_249000;clear HO_249001;clear HO_261000;clear HO_261001;clear BK238;clear BK248;clear BK260;clear HB;have HO_249000:=n0_;have HO_249001:=n1_;have HO_261000:=n2_;have HO_261001:=n3_;have BK238:=n4_;have BK248:=n5_;have BK260:=n6_;have HB:=n7_;clear n0_ n1_ n2_ n3_ n4_ n5_ n6_ n7_;(try clear hb);(try clear hb2);(try clear hk);(try clear hi))|(go_at_call 13;(with_reducible refine (lapidarylaw10_known.calls  t271 _ ?sideG A90.out).mono ?_);(case sideG => exact Kd.C_below HG.out (by repeat (first|(with_reducible first|exact HB.out|apply below_alloc|apply pw_below_drewN|apply below_drew1|refine below_set ?_ GE238.out|refine below_set ?_ GE248.out|refine below_set ?_ GE260.out)|exact HB.out)));rintro e w95 ⟨rfl,hb⟩;have n0_:=aMx13 (Kd.R_below (by (with_reducible repeat (first|apply Kd.R_alloc|apply Kd.R_drewN|apply Kd.R_drew));exact HO_249000.out) hb);have n1_:=aMx13 (Kd.R_below (by (with_reducible repeat (first|apply Kd.R_alloc|apply Kd.R_drewN|apply Kd.R_drew));exact HO_249001.out) hb);have n2_:=aMx13 (Kd.R_below (by (with_reducible repeat (first|apply Kd.R_alloc|apply Kd.R_drewN|apply Kd.R_drew));exact HO_261000.out) hb);have n3_:=aMx13 (Kd.R_below (by (with_reducible repeat (first|apply Kd.R_alloc|apply Kd.R_drewN|apply Kd.R_drew));exact HO_261001.out) hb);have n4_:=aMx13 (blk_below (g:=gb238) (o:=.cells #[.slice A0_0 l0_0.length c0_0,.slice A0_1 l0_1.length c0_1] 25 (0,0)) (by (with_reducible repeat (first|refine blk_drewN ?_ _|refine blk_drew ?_|refine blk_alloc ?_ _));exact BK238.out) hb);have n5_:=aMx13 (blk_below (g:=gb248) (o:=.cells #[.slice Ao21 t242.length co21,.slice (some ad261) x249001_1.length co47] 25 (0,0)) (by (with_reducible repeat (first|refine blk_drewN ?_ _|refine blk_drew ?_|refine blk_alloc ?_ _));exact BK248.out) hb);have n6_:=aMx13 (blk_below (g:=gb260) (o:=.cells #[.slice Ao66 t254.length co66,.slice (some ⟨go61,0,none⟩) y262.length co70] 25 (0,0)) (by (with_reducible repeat (first|refine blk_drewN ?_ _|refine blk_drew ?_|refine blk_alloc ?_ _));exact BK260.out) hb);have n7_:=aMx13 (below_step (by repeat (first|(with_reducible first|exact HB.out|apply below_alloc|apply pw_below_drewN|apply below_drew1|refine below_set ?_ GE238.out|refine below_set ?_ GE248.out|refine below_set ?_ GE260.out)|exact HB.out)) hb);clear HO_249000;clear HO_249001;clear HO_261000;clear HO_261001;clear BK238;clear BK248;clear BK260;clear HB;have HO_249000:=n0_;have HO_249001:=n1_;have HO_261000:=n2_;have HO_261001:=n3_;have BK238:=n4_;have BK248:=n5_;have BK260:=n6_;have HB:=n7_;clear n0_ n1_ n2_ n3_ n4_ n5_ n6_ n7_;(try clear hb);(try clear hb2);(try clear hk);(try clear hi)))
                  go_ret
                  exact ⟨by first | rfl | (simp [errW_none,errW_some]<;>rfl) | (simp only [← hji57];first | rfl | (simp [errW_none,errW_some]<;>rfl)) | (simp [*,errW_none,errW_some]<;>rfl),by repeat (first | (with_reducible first | exact HB.out | apply below_alloc | apply pw_below_drewN | apply below_drew1 | refine below_set ?_ GE238.out | refine below_set ?_ GE248.out | refine below_set ?_ GE260.out) | exact HB.out)⟩
                 ·rw [if_neg c89] at H
                  first | exact absurd (Option.some.inj H) (by rw [HRT.out];decide) | exact absurd H (by simp)
             ·rw [if_neg c60] at H
              exact absurd H (by simp)
            ·rw [if_neg c59] at H
             first | exact absurd (Option.some.inj H) (by rw [HRT.out];decide) | exact absurd H (by simp)
           ·rw [if_neg c58] at H
            first | exact absurd (Option.some.inj H) (by rw [HRT.out];decide) | exact absurd H (by simp)
      ·rw [if_neg c42] at H
       first | exact absurd (Option.some.inj H) (by rw [HRT.out];decide) | exact absurd H (by simp)
  ·rw [if_neg c12] at H
   first | exact absurd (Option.some.inj H) (by rw [HRT.out];decide) | exact absurd H (by simp)
end Go.Proofs.YtckemiefcdpofaaDoor.PMsr
