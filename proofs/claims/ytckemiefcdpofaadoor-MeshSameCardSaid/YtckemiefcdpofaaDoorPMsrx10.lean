import Derived.Test.YtckemiefcdpofaaDoorPMsrx0
import Derived.Test.YtckemiefcdpofaaDoorPMsrx1
import Derived.Test.YtckemiefcdpofaaDoorPMsrx2
import Derived.Test.YtckemiefcdpofaaDoorPMsrx3
import Derived.Test.YtckemiefcdpofaaDoorPMsrx9
import Derived.Test.YtckemiefcdpofaaDoorKnownStub
import Derived.Test.YtckemiefcdpofaaDoorCheckStub
namespace Go.Proofs.YtckemiefcdpofaaDoor.PMsr
open Go Go.RowKit Go.Proofs.YtckemiefcdpofaaDoorW.PrintWords Go.Proofs.YtckemiefcdpofaaDoorW.PrintLast Go.Proofs.YtckemiefcdpofaaDoorW.PrintMore
attribute [local go_sem] max2_int min2_int max_two min_two max_three min_three max_four min_four
set_option linter.unusedVariables false
set_option maxRecDepth 100000
set_option linter.unusedSimpArgs false
attribute [local go_sem high] eqA36 eqA55
attribute [local go_sem] idx36_0_0 idx36_1_0 idx36_2_0 idx52_0_0 idx52_1_0
theorem sAx10 {α : Type _} {l : List α} {i : Nat} {a : α} : l.toArray.setIfInBounds i a = (l.set i a).toArray := List.setIfInBounds_toArray ..
theorem sBx10 {α : Type _} {x y : α} {l : List α} : (x :: l).set 0 y = y :: l := rfl
theorem sCx10 {α : Type _} {x y : α} {l : List α} {i : Nat} : (x :: l).set (i + 1) y = x :: l.set i y := rfl
theorem aMx10 {p : Prop} (h : p) : Aside0 p := ⟨h⟩
def lapidarylaw10_MeshChecks.f (k : Nat) (l0_0 : List (S55)) (l0_1 : List (S36)) : Option (Bool) := (lapidarylaw10_long.f l0_0 l0_1).bind fun t200 => (if t200 = true then ((lapidarylaw10_known.f).bind fun t201 => (some t201)) else ((mesh_Check.f k l0_0 l0_1).bind fun t202 => ((lapidaryref10_Check.f k l0_0 l0_1).bind fun t203 => (if t202 = t203 then ((lapidarylaw10_known.f).bind fun t204 => (some t204)) else (some false)))))
def lapidarylaw10_MeshChecks.T3 : Bool × List (List Nat × List Nat) := (true, [([], []), ([0], [0]), ([], []), ([2, 1], [2]), ([1, 3], [1, 3]), ([4, 3], [4]), ([5, 5], [5]), ([5, 6], [5, 6]), ([7, 6, 0, 1, 2, 3, 4, 5, 6, 7], [7])])
def lapidarylaw10_MeshChecks.B3 : List Nat := [0, 1, 0, 7, 15, 31, 63, 127, 255]
theorem lapidarylaw10_MeshChecks.tab3 : rtab .any (opsOf Tryd.f3 3) = lapidarylaw10_MeshChecks.T3 := by kernel_rfl
theorem lapidarylaw10_MeshChecks.bits3 : waitsOk lapidarylaw10_MeshChecks.T3.2 lapidarylaw10_MeshChecks.B3 = true := by kernel_rfl
set_option maxHeartbeats 8000000 in
set_option maxRecDepth 100000 in
theorem lapidarylaw10_MeshChecks.calls (k : Nat) (A0_0 : Option Addr) (c0_0 : Nat) (l0_0 : List (S55)) (A0_1 : Option Addr) (c0_1 : Nat) (l0_1 : List (S36)) (r : Bool) (w : World) (hr0_0 : Kd.C k55 w A0_0 l0_0.length l0_0) (hc0_0 : l0_0.length ≤ c0_0) (hr0_1 : Kd.C k36 w A0_1 l0_1.length l0_1) (hc0_1 : l0_1.length ≤ c0_1) (hG : Kd.C k36 w (some ⟨0, 0, none⟩) 1 [⟨1, 2, 0⟩]) (hrt : r = true) (h : lapidarylaw10_MeshChecks.f k l0_0 l0_1 = some r) :
  Calls Tryd.prog 3 #[.agg #[.slice A0_0 l0_0.length c0_0,.slice A0_1 l0_1.length c0_1]] w fun e w' => e = .returned (.bool r) ∧ Below w.heap.size w w':=by
 have HRT:=aMx10 hrt
 clear hrt
 have HG:=aMx10 hG
 clear hG
 have hu25:=Tryd.underlying25
 have HR0_0:=aMx10 hr0_0
 have HC0_0:=aMx10 hc0_0
 clear hr0_0 hc0_0
 have HR0_1:=aMx10 hr0_1
 have HC0_1:=aMx10 hc0_1
 clear hr0_1 hc0_1
 have HB:=aMx10 (Below.refl w.heap.size w)
 have H : ((lapidarylaw10_long.f l0_0 l0_1).bind fun t200 => (if t200 = true then ((lapidarylaw10_known.f).bind fun t201 => (some t201)) else ((mesh_Check.f k l0_0 l0_1).bind fun t202 => ((lapidaryref10_Check.f k l0_0 l0_1).bind fun t203 => (if t202 = t203 then ((lapidarylaw10_known.f).bind fun t204 => (some t204)) else (some false)))))) = some r:=h
 clear h
 replace H:=Option.bind_eq_some_iff.mp H
 obtain ⟨t200,A20,H⟩:=H
 replace H : (if t200 = true then ((lapidarylaw10_known.f).bind fun t201 => (some t201)) else ((mesh_Check.f k l0_0 l0_1).bind fun t202 => ((lapidaryref10_Check.f k l0_0 l0_1).bind fun t203 => (if t202 = t203 then ((lapidarylaw10_known.f).bind fun t204 => (some t204)) else (some false))))) = some r:=H
 have A2:=aMx10 A20
 clear A20
 by_cases c3 : t200 = true
 ·subst c3
  have H1 : ((lapidarylaw10_known.f).bind fun t201 => (some t201)) = some r:=by rw [if_pos rfl] at H;exact H
  clear H
  have H:=H1
  clear H1
  replace H:=Option.bind_eq_some_iff.mp H
  obtain ⟨t201,A40,H⟩:=H
  replace H : (some t201) = some r:=H
  have A4:=aMx10 A40
  clear A40
  obtain rfl:=Option.some.inj H
  go_enter Tryd.func3,Tryd.ntmps3
  go_wp2_with (first|((with_reducible refine gate_dst (N:=1) rfl ?_);refine box_event ?hg (N:=1) ?hd (cs:=#[.slice A0_0 l0_0.length c0_0,.slice A0_1 l0_1.length c0_1]) (t:=25) ?hr ?_;(case hd => rfl);(case hg => rfl);(case hr => first|(go_simp;done)|(go_simp;rfl));intro gb199 hg w5 hbox hb;have n0_:=aMx10 (below_step (by repeat (with_reducible first|exact HB.out|apply below_alloc|apply pw_below_drewN|apply below_drew1)) hb);have n1_:=aMx10 (hbox);have n2_:=aMx10 ((by rw [hg];exact (below_size (by repeat (with_reducible first|exact HB.out|apply below_alloc|apply pw_below_drewN|apply below_drew1))) : w.heap.size ≤ gb199));have n3_:=aMx10 ((by rw [hg];exact (below_size (by repeat (with_reducible first|exact HB.out|apply below_alloc|apply pw_below_drewN|apply below_drew1))) : w.heap.size ≤ gb199));clear HB;have HB:=n0_;have BK199:=n1_;have GW199:=n2_;have GE199:=n3_;clear n0_ n1_ n2_ n3_;clear hb hbox hg;have hcz6_0 : w5.cell? ⟨gb199,0,none⟩ = some (.slice A0_0 l0_0.length c0_0):=(blk_cell BK199.out 0).trans rfl;have hcz6_1 : w5.cell? ⟨gb199,1,none⟩ = some (.slice A0_1 l0_1.length c0_1):=(blk_cell BK199.out 1).trans rfl;have hfz6_0:=blk_frozen BK199.out 0;have hfz6_1:=blk_frozen BK199.out 1)|((with_reducible refine gate_callee (f:=12) rfl ?_);refine goesL_ (some 4) rfl rfl Tryd.func12 (by kernel_rfl) rfl #[.agg #[.slice A0_0 l0_0.length c0_0,.slice A0_1 l0_1.length c0_1]] rfl (by (try simp only [List.map_toArray,List.map_cons,List.map_nil]);first|done|rfl|(simp only [List.length_drop,List.length_take];rfl)) ?_;(with_reducible refine (lapidarylaw10_long.calls _ _ l0_0 _ _ l0_1 true _ ?side1 ?side2 ?side3 ?side4 A2.out).mono ?_);(case side1 => repeat (first|exact (Kd.C_below HR0_0.out HB.out)|(with_reducible first|refine Kd.C_alloc ?_ _|refine Kd.C_drewN ?_ _|refine Kd.C_drew ?_)));(case side2 => exact HC0_0.out);(case side3 => repeat (first|exact (Kd.C_below HR0_1.out HB.out)|(with_reducible first|refine Kd.C_alloc ?_ _|refine Kd.C_drewN ?_ _|refine Kd.C_drew ?_)));(case side4 => exact HC0_1.out);rintro e w7 ⟨rfl,hb⟩;refine ⟨_,rfl,?_⟩;have n0_:=aMx10 (blk_below (g:=gb199) (o:=.cells #[.slice A0_0 l0_0.length c0_0,.slice A0_1 l0_1.length c0_1] 25 (0,0)) (by (with_reducible repeat (first|refine blk_drewN ?_ _|refine blk_drew ?_|refine blk_alloc ?_ _));exact BK199.out) hb);have n1_:=aMx10 (below_step (by repeat (first|(with_reducible first|exact HB.out|apply below_alloc|apply pw_below_drewN|apply below_drew1|refine below_set ?_ GE199.out)|exact HB.out)) hb);clear BK199;clear HB;have BK199:=n0_;have HB:=n1_;clear n0_ n1_;(try clear hb);(try clear hb2);(try clear hk);(try clear hi))|((with_reducible refine gate_callee (f:=13) rfl ?_);refine goesL_ (some 5) rfl rfl Tryd.func13 (by kernel_rfl) rfl #[] rfl (by (try simp only [List.map_toArray,List.map_cons,List.map_nil]);first|done|rfl|(simp only [List.length_drop,List.length_take];rfl)) ?_;(with_reducible refine (lapidarylaw10_known.calls  t201 _ ?sideG A4.out).mono ?_);(case sideG => exact Kd.C_below HG.out (by repeat (first|(with_reducible first|exact HB.out|apply below_alloc|apply pw_below_drewN|apply below_drew1|refine below_set ?_ GE199.out)|exact HB.out)));rintro e w8 ⟨rfl,hb⟩;refine ⟨_,rfl,?_⟩;have n0_:=aMx10 (blk_below (g:=gb199) (o:=.cells #[.slice A0_0 l0_0.length c0_0,.slice A0_1 l0_1.length c0_1] 25 (0,0)) (by (with_reducible repeat (first|refine blk_drewN ?_ _|refine blk_drew ?_|refine blk_alloc ?_ _));exact BK199.out) hb);have n1_:=aMx10 (below_step (by repeat (first|(with_reducible first|exact HB.out|apply below_alloc|apply pw_below_drewN|apply below_drew1|refine below_set ?_ GE199.out)|exact HB.out)) hb);clear BK199;clear HB;have BK199:=n0_;have HB:=n1_;clear n0_ n1_;(try clear hb);(try clear hb2);(try clear hk);(try clear hi)))
  go_ret
  exact ⟨by first | rfl | (simp [errW_none,errW_some]<;>rfl) | (simp [*,errW_none,errW_some]<;>rfl),by repeat (first | (with_reducible first | exact HB.out | apply below_alloc | apply pw_below_drewN | apply below_drew1 | refine below_set ?_ GE199.out) | exact HB.out)⟩
 ·replace c3:=Bool.eq_false_iff.mpr c3
  subst c3
  have H1 : ((mesh_Check.f k l0_0 l0_1).bind fun t202 => ((lapidaryref10_Check.f k l0_0 l0_1).bind fun t203 => (if t202 = t203 then ((lapidarylaw10_known.f).bind fun t204 => (some t204)) else (some false)))) = some r:=by rw [if_neg (show ¬ (false = true) by decide)] at H;exact H
  clear H
  have H:=H1
  clear H1
  replace H:=Option.bind_eq_some_iff.mp H
  obtain ⟨t202,A90,H⟩:=H
  replace H : ((lapidaryref10_Check.f k l0_0 l0_1).bind fun t203 => (if t202 = t203 then ((lapidarylaw10_known.f).bind fun t204 => (some t204)) else (some false))) = some r:=H
  have A9:=aMx10 A90
  clear A90
  replace H:=Option.bind_eq_some_iff.mp H
  obtain ⟨t203,A100,H⟩:=H
  replace H : (if t202 = t203 then ((lapidarylaw10_known.f).bind fun t204 => (some t204)) else (some false)) = some r:=H
  have A10:=aMx10 A100
  clear A100
  by_cases c11 : t202 = t203
  ·rw [if_pos c11] at H
   have c11b0 : (t202 == t203) = true:=beq_iff_eq.mpr c11
   have c11b1 : (t202 != t203) = false:=bne_eq_false_iff_eq.mpr c11
   clear c11
   replace H:=Option.bind_eq_some_iff.mp H
   obtain ⟨t204,A120,H⟩:=H
   replace H : (some t204) = some r:=H
   have A12:=aMx10 A120
   clear A120
   obtain rfl:=Option.some.inj H
   go_enter Tryd.func3,Tryd.ntmps3
   try go_wp2_with (first|((with_reducible refine gate_dst (N:=1) rfl ?_);refine box_event ?hg (N:=1) ?hd (cs:=#[.slice A0_0 l0_0.length c0_0,.slice A0_1 l0_1.length c0_1]) (t:=25) ?hr ?_;(case hd => rfl);(case hg => rfl);(case hr => first|(go_simp;done)|(go_simp;rfl));intro gb199 hg w13 hbox hb;have n0_:=aMx10 (below_step (by repeat (with_reducible first|exact HB.out|apply below_alloc|apply pw_below_drewN|apply below_drew1)) hb);have n1_:=aMx10 (hbox);have n2_:=aMx10 ((by rw [hg];exact (below_size (by repeat (with_reducible first|exact HB.out|apply below_alloc|apply pw_below_drewN|apply below_drew1))) : w.heap.size ≤ gb199));have n3_:=aMx10 ((by rw [hg];exact (below_size (by repeat (with_reducible first|exact HB.out|apply below_alloc|apply pw_below_drewN|apply below_drew1))) : w.heap.size ≤ gb199));clear HB;have HB:=n0_;have BK199:=n1_;have GW199:=n2_;have GE199:=n3_;clear n0_ n1_ n2_ n3_;clear hb hbox hg;have hcz14_0 : w13.cell? ⟨gb199,0,none⟩ = some (.slice A0_0 l0_0.length c0_0):=(blk_cell BK199.out 0).trans rfl;have hcz14_1 : w13.cell? ⟨gb199,1,none⟩ = some (.slice A0_1 l0_1.length c0_1):=(blk_cell BK199.out 1).trans rfl;have hfz14_0:=blk_frozen BK199.out 0;have hfz14_1:=blk_frozen BK199.out 1)|((with_reducible refine gate_callee (f:=12) rfl ?_);refine goesL_ (some 4) rfl rfl Tryd.func12 (by kernel_rfl) rfl #[.agg #[.slice A0_0 l0_0.length c0_0,.slice A0_1 l0_1.length c0_1]] rfl (by (try simp only [List.map_toArray,List.map_cons,List.map_nil]);first|done|rfl|(simp only [List.length_drop,List.length_take];rfl)) ?_;(with_reducible refine (lapidarylaw10_long.calls _ _ l0_0 _ _ l0_1 false _ ?side1 ?side2 ?side3 ?side4 A2.out).mono ?_);(case side1 => repeat (first|exact (Kd.C_below HR0_0.out HB.out)|(with_reducible first|refine Kd.C_alloc ?_ _|refine Kd.C_drewN ?_ _|refine Kd.C_drew ?_)));(case side2 => exact HC0_0.out);(case side3 => repeat (first|exact (Kd.C_below HR0_1.out HB.out)|(with_reducible first|refine Kd.C_alloc ?_ _|refine Kd.C_drewN ?_ _|refine Kd.C_drew ?_)));(case side4 => exact HC0_1.out);rintro e w15 ⟨rfl,hb⟩;refine ⟨_,rfl,?_⟩;have n0_:=aMx10 (blk_below (g:=gb199) (o:=.cells #[.slice A0_0 l0_0.length c0_0,.slice A0_1 l0_1.length c0_1] 25 (0,0)) (by (with_reducible repeat (first|refine blk_drewN ?_ _|refine blk_drew ?_|refine blk_alloc ?_ _));exact BK199.out) hb);have n1_:=aMx10 (below_step (by repeat (first|(with_reducible first|exact HB.out|apply below_alloc|apply pw_below_drewN|apply below_drew1|refine below_set ?_ GE199.out)|exact HB.out)) hb);clear BK199;clear HB;have BK199:=n0_;have HB:=n1_;clear n0_ n1_;(try clear hb);(try clear hb2);(try clear hk);(try clear hi)))
   have n0_:=aMx10 (blk_drew BK199.out)
   have n1_:=aMx10 (below_drew1 HB.out)
   clear BK199
   clear HB
   have BK199:=n0_
   have HB:=n1_
   clear n0_ n1_
   refine start_ (n:=9) (S:=fun w' => w'.cell? ⟨gb199,0,none⟩ = some (.slice A0_0 l0_0.length c0_0) ∧ w'.cell? ⟨gb199,1,none⟩ = some (.slice A0_1 l0_1.length c0_1)) (ds:=[]) #[false,false,false,false,false,false,false,false,false] (by kernel_rfl) rfl rfl ⟨(blk_cell BK199.out 0).trans rfl,(blk_cell BK199.out 1).trans rfl⟩ (fun hHeld => ?_);refine with_tabW lapidarylaw10_MeshChecks.tab3 lapidarylaw10_MeshChecks.bits3 (fun HT_ HW_ => ?_)
   generalize w15.drew = w16 at BK199 HB hHeld ⊢
   refine take_ (i:=0) (N:=some 6) (v:=?_) (a':=?_) #[true,false,false,false,false,false,false,false,false] rfl rfl (take_ofW HT_.out HW_.out (by kernel_rfl)) (fun _ _ _ h => h) (Or.inl ⟨by rfl,?_⟩) hHeld ?_ ?_
   rotate_left
   ·rintro w' ⟨s0,s1⟩
    go_simp
    with_reducible rfl
   rotate_left
   ·simp only [Act.put,sAx10,sBx10,sCx10,i64_w,i32_w]
    rfl
   refine take_ (i:=2) (N:=some 8) (v:=?_) (a':=?_) #[true,false,true,false,false,false,false,false,false] rfl rfl (take_ofW HT_.out HW_.out (by kernel_rfl)) (fun _ _ _ h => h) (Or.inl ⟨by rfl,?_⟩) hHeld ?_ ?_
   rotate_left
   ·rintro w' ⟨s0,s1⟩
    go_simp
    with_reducible rfl
   rotate_left
   ·simp only [Act.put,sAx10,sBx10,sCx10,i64_w,i32_w]
    rfl
   refine one_ (i:=1) (N:=some 7) #[true,true,true,false,false,false,false,false,false] rfl rfl (one_of HT_.out (by kernel_rfl)) (by decide) (fun K hK => ?_)
   refine goes_ Tryd.func14 (by kernel_rfl) rfl #[.agg #[.slice A0_0 l0_0.length c0_0,.slice A0_1 l0_1.length c0_1]] (by rfl) rfl rfl (by (try simp only [List.map_toArray,List.map_cons,List.map_nil]);first | done | rfl | (simp only [List.length_drop,List.length_take];rfl)) ?_
   with_reducible refine (mesh_Check.calls k _ _ l0_0 _ _ l0_1 t202 _ ?side1 ?side2 ?side3 ?side4 ?sideG A9.out).mono ?_
   (case sideG => repeat (first|exact (Kd.C_below HG.out HB.out)|(with_reducible first|refine Kd.C_alloc ?_ _|refine Kd.C_drewN ?_ _|refine Kd.C_drew ?_)))
   (case side1 => repeat (first|exact (Kd.C_below HR0_0.out HB.out)|(with_reducible first|refine Kd.C_alloc ?_ _|refine Kd.C_drewN ?_ _|refine Kd.C_drew ?_)))
   (case side2 => exact HC0_0.out)
   (case side3 => repeat (first|exact (Kd.C_below HR0_1.out HB.out)|(with_reducible first|refine Kd.C_alloc ?_ _|refine Kd.C_drewN ?_ _|refine Kd.C_drew ?_)))
   (case side4 => exact HC0_1.out)
   rintro e w17 ⟨rfl,hb⟩
   refine ⟨_,rfl,?_⟩
   have n0_:=aMx10 (blk_below (g:=gb199) (o:=.cells #[.slice A0_0 l0_0.length c0_0,.slice A0_1 l0_1.length c0_1] 25 (0,0)) (by (with_reducible repeat (first | refine blk_drewN ?_ _ | refine blk_drew ?_ | refine blk_alloc ?_ _));exact BK199.out) hb)
   have n1_:=aMx10 (below_step (by repeat (first | (with_reducible first | exact HB.out | apply below_alloc | apply pw_below_drewN | apply below_drew1 | refine below_set ?_ GE199.out) | exact HB.out)) hb)
   clear BK199
   clear HB
   have BK199:=n0_
   have HB:=n1_
   clear n0_ n1_
   (try clear hb)
   (try clear hb2)
   (try clear hk)
   (try clear hi)
   refine hK.out _ _ ⟨(blk_cell BK199.out 0).trans rfl,(blk_cell BK199.out 1).trans rfl⟩ (fun hHeld => ?_)
   clear hK K
   refine norm_ (a':=?_) ?_ ?_
   rotate_left
   ·show Act.put _ (some 7) _ = _
    simp only [Act.put,sAx10,sBx10,sCx10,i64_w,i32_w]
    rfl
   refine one_ (i:=3) (N:=some 9) #[true,true,true,true,false,false,false,false,false] rfl rfl (one_of HT_.out (by kernel_rfl)) (by decide) (fun K hK => ?_)
   refine goes_ Tryd.func15 (by kernel_rfl) rfl #[.agg #[.slice A0_0 l0_0.length c0_0,.slice A0_1 l0_1.length c0_1]] (by rfl) rfl rfl (by (try simp only [List.map_toArray,List.map_cons,List.map_nil]);first | done | rfl | (simp only [List.length_drop,List.length_take];rfl)) ?_
   with_reducible refine (lapidaryref10_Check.calls k _ _ l0_0 _ _ l0_1 t203 _ ?side1 ?side2 ?side3 ?side4 A10.out).mono ?_
   (case side1 => repeat (first|exact (Kd.C_below HR0_0.out HB.out)|(with_reducible first|refine Kd.C_alloc ?_ _|refine Kd.C_drewN ?_ _|refine Kd.C_drew ?_)))
   (case side2 => exact HC0_0.out)
   (case side3 => repeat (first|exact (Kd.C_below HR0_1.out HB.out)|(with_reducible first|refine Kd.C_alloc ?_ _|refine Kd.C_drewN ?_ _|refine Kd.C_drew ?_)))
   (case side4 => exact HC0_1.out)
   rintro e w18 ⟨rfl,hb⟩
   refine ⟨_,rfl,?_⟩
   have n0_:=aMx10 (blk_below (g:=gb199) (o:=.cells #[.slice A0_0 l0_0.length c0_0,.slice A0_1 l0_1.length c0_1] 25 (0,0)) (by (with_reducible repeat (first | refine blk_drewN ?_ _ | refine blk_drew ?_ | refine blk_alloc ?_ _));exact BK199.out) hb)
   have n1_:=aMx10 (below_step (by repeat (first | (with_reducible first | exact HB.out | apply below_alloc | apply pw_below_drewN | apply below_drew1 | refine below_set ?_ GE199.out) | exact HB.out)) hb)
   clear BK199
   clear HB
   have BK199:=n0_
   have HB:=n1_
   clear n0_ n1_
   (try clear hb)
   (try clear hb2)
   (try clear hk)
   (try clear hi)
   refine hK.out _ _ ⟨(blk_cell BK199.out 0).trans rfl,(blk_cell BK199.out 1).trans rfl⟩ (fun hHeld => ?_)
   clear hK K
   refine norm_ (a':=?_) ?_ ?_
   rotate_left
   ·show Act.put _ (some 9) _ = _
    simp only [Act.put,sAx10,sBx10,sCx10,i64_w,i32_w]
    rfl
   refine pure_ (i:=4) (N:=some 10) (v:=?_) (a':=?_) #[true,true,true,true,true,false,false,false,false] rfl rfl (any_of HT_.out (by kernel_rfl)) (fun _ _ _ h => h) (Or.inl ⟨by rfl,?_⟩) ?_ ?_
   rotate_left
   ·intro w'
    go_simp
    with_reducible rfl
   rotate_left
   ·simp only [Act.put,sAx10,sBx10,sCx10,i64_w,i32_w]
    rfl
   refine pure_ (i:=5) (N:=some 11) (v:=?_) (a':=?_) #[true,true,true,true,true,true,false,false,false] rfl rfl (any_of HT_.out (by kernel_rfl)) (fun _ _ _ h => h) (Or.inl ⟨by rfl,?_⟩) ?_ ?_
   rotate_left
   ·intro w'
    go_simp
    with_reducible rfl
   rotate_left
   ·simp only [Act.put,sAx10,sBx10,sCx10,i64_w,i32_w]
    rfl
   refine one_ (i:=6) (N:=some 12) #[true,true,true,true,true,true,true,false,false] rfl rfl (one_of HT_.out (by kernel_rfl)) (by decide) (fun K hK => ?_)
   refine goes_ Tryd.func13 (by kernel_rfl) rfl #[] (by rfl) rfl rfl (by (try simp only [List.map_toArray,List.map_cons,List.map_nil]);first | done | rfl | (simp only [List.length_drop,List.length_take];rfl)) ?_
   with_reducible refine (lapidarylaw10_known.calls  t204 _ ?sideG A12.out).mono ?_
   (case sideG => repeat (first|exact (Kd.C_below HG.out HB.out)|(with_reducible first|refine Kd.C_alloc ?_ _|refine Kd.C_drewN ?_ _|refine Kd.C_drew ?_)))
   rintro e w19 ⟨rfl,hb⟩
   refine ⟨_,rfl,?_⟩
   have n0_:=aMx10 (blk_below (g:=gb199) (o:=.cells #[.slice A0_0 l0_0.length c0_0,.slice A0_1 l0_1.length c0_1] 25 (0,0)) (by (with_reducible repeat (first | refine blk_drewN ?_ _ | refine blk_drew ?_ | refine blk_alloc ?_ _));exact BK199.out) hb)
   have n1_:=aMx10 (below_step (by repeat (first | (with_reducible first | exact HB.out | apply below_alloc | apply pw_below_drewN | apply below_drew1 | refine below_set ?_ GE199.out) | exact HB.out)) hb)
   clear BK199
   clear HB
   have BK199:=n0_
   have HB:=n1_
   clear n0_ n1_
   (try clear hb)
   (try clear hb2)
   (try clear hk)
   (try clear hi)
   refine hK.out _ _ ⟨(blk_cell BK199.out 0).trans rfl,(blk_cell BK199.out 1).trans rfl⟩ (fun hHeld => ?_)
   clear hK K
   refine norm_ (a':=?_) ?_ ?_
   rotate_left
   ·show Act.put _ (some 12) _ = _
    simp only [Act.put,sAx10,sBx10,sCx10,i64_w,i32_w]
    rfl
   refine pure_ (i:=7) (N:=some 13) (v:=?_) (a':=?_) #[true,true,true,true,true,true,true,true,false] rfl rfl (any_of HT_.out (by kernel_rfl)) (fun _ _ _ h => h) (Or.inl ⟨by rfl,?_⟩) ?_ ?_
   rotate_left
   ·intro w'
    go_simp
    with_reducible rfl
   rotate_left
   ·simp only [Act.put,sAx10,sBx10,sCx10,i64_w,i32_w]
    rfl
   refine pure_ (i:=8) (N:=some 2) (v:=?_) (a':=?_) #[true,true,true,true,true,true,true,true,true] rfl rfl (any_of HT_.out (by kernel_rfl)) (fun _ _ _ h => h) (Or.inl ⟨by rfl,?_⟩) ?_ ?_
   rotate_left
   ·intro w'
    go_simp
    with_reducible rfl
   rotate_left
   ·simp only [Act.put,sAx10,sBx10,sCx10,i64_w,i32_w]
    rfl
   refine done_ (done_of HT_.out (by kernel_rfl)) ?_
   try go_wp2
   go_ret
   exact ⟨by first | rfl | (simp [errW_none,errW_some]<;>rfl) | (simp [*,errW_none,errW_some]<;>rfl),by repeat (first | (with_reducible first | exact HB.out | apply below_alloc | apply pw_below_drewN | apply below_drew1 | refine below_set ?_ GE199.out) | exact HB.out)⟩
  ·rw [if_neg c11] at H
   exact absurd (Option.some.inj H) (by rw [HRT.out];decide)
def api_Point_40.l0 : Nat → List (S55) → List (S55) → Int → Int → Option (Bool)
  | 0, _, _, _, _ => none
  | k + 1, x0, x1, x12, x13 => if x13 < x12 then (if 0 ≤ x13 then (if x13 < (x0.length : Int) then (if x13 < (x1.length : Int) then (if (!(((rd_T55 x0 x13).f0) == ((rd_T55 x1 x13).f0)) || (!(((rd_T55 x0 x13).f1) == ((rd_T55 x1 x13).f1)) || (!(((rd_T55 x0 x13).f2) == ((rd_T55 x1 x13).f2))))) = true then (some false) else (api_Point_40.l0 k x0 x1 x12 (wrap64 (x13 + 1)))) else (none)) else (none)) else (none)) else (some true)
def api_Point_40.f (k : Nat) (l0 : List (S55)) (l1 : List (S55)) : Option (Bool) := if (l0.length : Int) = (l1.length : Int) then (api_Point_40.l0 k l0 l1 (l0.length : Int) 0) else (some false)
set_option maxHeartbeats 8000000 in
set_option maxRecDepth 100000 in
theorem api_Point_40.calls (k : Nat) (A0 : Option Addr) (c0 : Nat) (l0 : List (S55)) (A1 : Option Addr) (c1 : Nat) (l1 : List (S55)) (r : Bool) (w : World) (hr0 : Kd.C k55 w A0 l0.length l0) (hc0 : l0.length ≤ c0) (hr1 : Kd.C k55 w A1 l1.length l1) (hc1 : l1.length ≤ c1) (h : api_Point_40.f k l0 l1 = some r) :
  Calls Tryd.prog 40 #[.slice A0 l0.length c0,.slice A1 l1.length c1] w fun e w' => e = .returned (.bool r) ∧ Drawn0 w w':=by
 have hu55:=Tryd.underlying55
 have HR0:=aMx10 hr0
 have HC0:=aMx10 hc0
 clear hr0 hc0
 have HR1:=aMx10 hr1
 have HC1:=aMx10 hc1
 clear hr1 hc1
 have H : (if (l0.length : Int) = (l1.length : Int) then (api_Point_40.l0 k l0 l1 (l0.length : Int) 0) else (some false)) = some r:=h
 clear h
 by_cases c3 : (l0.length : Int) = (l1.length : Int)
 ·rw [if_pos c3] at H
  have c3b0 : ((l0.length : Int) == (l1.length : Int)) = true:=beq_iff_eq.mpr c3
  have c3b1 : ((l0.length : Int) != (l1.length : Int)) = false:=bne_eq_false_iff_eq.mpr c3
  have c3b2 : (l0.length == l1.length) = true:=by first | simpa using c3 | (simp at c3 ⊢;omega)
  clear c3
  have H':=aMx10 H
  clear H
  go_enter Tryd.func40,Tryd.ntmps40
  go_wp2
  repeat (go_quiet (fail);try go_wp2)
  go_loopg [13] k (fun kq v13 w' => ∃ (x13_1 : Int),v13 = .int .i64 x13_1 ∧ Aside0 (api_Point_40.l0 kq l0 l1 (l0.length : Int) x13_1 = some r) ∧ Aside0 (kq ≤ k) ∧ Drawn0 w w')
  case atStart => exact ⟨(0),(by first | rfl | (simp;done) | (simp [*];done) | (simp [wrap64];done)),H',⟨Nat.le_refl _⟩,by repeat (first | exact Drawn0.refl _ | apply Drawn0.step)⟩
  case round =>
   clear H'
   (try clear c1);(try clear p2);(try clear c3);(try clear c3b0);(try clear c3b1);(try clear c3b2)
   obtain ⟨x13_1,rfl,HA,HK1,⟨m1,rfl⟩⟩:=hrel
   cases gk with
   | zero => exact absurd HA.out (by simp [api_Point_40.l0])
   | succ k1 =>
    have H:=HA.out
    clear HA
    simp only [api_Point_40.l0] at H
    by_cases c4 : x13_1 < (l0.length : Int)
    ·rw [if_pos c4] at H
     have c4b0 : decide (x13_1 < (l0.length : Int)) = true:=decide_eq_true c4
     clear c4
     by_cases c5 : 0 ≤ x13_1
     ·rw [if_pos c5] at H
      have c5b0 : decide (0 ≤ x13_1) = true:=decide_eq_true c5
      clear c5
      by_cases c6 : x13_1 < (l0.length : Int)
      ·rw [if_pos c6] at H
       have c6b0 : decide (x13_1 < (l0.length : Int)) = true:=decide_eq_true c6
       clear c6
       by_cases c7 : x13_1 < (l1.length : Int)
       ·rw [if_pos c7] at H
        have c7b0 : decide (x13_1 < (l1.length : Int)) = true:=decide_eq_true c7
        clear c7
        by_cases c8 : (!(((rd_T55 l0 x13_1).f0) == ((rd_T55 l1 x13_1).f0)) || (!(((rd_T55 l0 x13_1).f1) == ((rd_T55 l1 x13_1).f1)) || (!(((rd_T55 l0 x13_1).f2) == ((rd_T55 l1 x13_1).f2))))) = true
        ·rw [if_pos c8] at H
         have c8b0 : (!(((rd_T55 l0 x13_1).f0) == ((rd_T55 l1 x13_1).f0)) || (!(((rd_T55 l0 x13_1).f1) == ((rd_T55 l1 x13_1).f1)) || (!(((rd_T55 l0 x13_1).f2) == ((rd_T55 l1 x13_1).f2))))) = true:=c8
         clear c8
         obtain rfl:=Option.some.inj H
         have p205 : 0 ≤ (x13_1 : Int):=of_decide_eq_true (by first | (with_reducible assumption) | assumption)
         have q205 : x13_1 < (l0.length : Int):=of_decide_eq_true (by first | (with_reducible assumption) | assumption)
         obtain ⟨ad205,e205,hx205_0,hx205_1,hx205_2⟩:=at_T55 HR0.out x13_1 p205 q205
         cases e205
         replace p205:=eq_true p205
         replace q205:=eq_true q205
         have p206 : 0 ≤ (x13_1 : Int):=of_decide_eq_true (by first | (with_reducible assumption) | assumption)
         have q206 : x13_1 < (l1.length : Int):=of_decide_eq_true (by first | (with_reducible assumption) | assumption)
         obtain ⟨ad206,e206,hx206_0,hx206_1,hx206_2⟩:=at_T55 HR1.out x13_1 p206 q206
         cases e206
         replace p206:=eq_true p206
         replace q206:=eq_true q206
         go_wp2
         repeat (go_quiet (fail);try go_wp2)
         go_ret
         exact ⟨by first | rfl | (simp;done) | (simp [*];done) | (simp [wrap64];done),by repeat (first | exact Drawn0.refl _ | apply Drawn0.step)⟩
        ·rw [if_neg c8] at H
         have c8b0 : (!(((rd_T55 l0 x13_1).f0) == ((rd_T55 l1 x13_1).f0)) || (!(((rd_T55 l0 x13_1).f1) == ((rd_T55 l1 x13_1).f1)) || (!(((rd_T55 l0 x13_1).f2) == ((rd_T55 l1 x13_1).f2))))) = false:=by simpa using c8
         clear c8
         have H':=aMx10 H
         clear H
         have p205 : 0 ≤ (x13_1 : Int):=of_decide_eq_true (by first | (with_reducible assumption) | assumption)
         have q205 : x13_1 < (l0.length : Int):=of_decide_eq_true (by first | (with_reducible assumption) | assumption)
         obtain ⟨ad205,e205,hx205_0,hx205_1,hx205_2⟩:=at_T55 HR0.out x13_1 p205 q205
         cases e205
         replace p205:=eq_true p205
         replace q205:=eq_true q205
         have p206 : 0 ≤ (x13_1 : Int):=of_decide_eq_true (by first | (with_reducible assumption) | assumption)
         have q206 : x13_1 < (l1.length : Int):=of_decide_eq_true (by first | (with_reducible assumption) | assumption)
         obtain ⟨ad206,e206,hx206_0,hx206_1,hx206_2⟩:=at_T55 HR1.out x13_1 p206 q206
         cases e206
         replace p206:=eq_true p206
         replace q206:=eq_true q206
         go_wp2
         repeat (go_quiet (fail);try go_wp2)
         go_roundg k1
         case measure => have:=HK1.out;omega
         case rel => exact ⟨(wrap64 (x13_1+1)),(by first | rfl | (simp;done) | (simp [*];done) | (simp [wrap64];done)),H',⟨by have:=HK1.out;omega⟩,by repeat (first | exact Drawn0.refl _ | apply Drawn0.step)⟩
       ·rw [if_neg c7] at H
        exact absurd H (by simp)
      ·rw [if_neg c6] at H
       exact absurd H (by simp)
     ·rw [if_neg c5] at H
      exact absurd H (by simp)
    ·rw [if_neg c4] at H
     have c4b0 : decide (x13_1 < (l0.length : Int)) = false:=decide_eq_false c4
     clear c4
     obtain rfl:=Option.some.inj H
     go_wp2
     repeat (go_quiet (fail);try go_wp2)
     go_ret
     exact ⟨by first | rfl | (simp;done) | (simp [*];done) | (simp [wrap64];done),by repeat (first | exact Drawn0.refl _ | apply Drawn0.step)⟩
 ·rw [if_neg c3] at H
  have c3b0 : ((l0.length : Int) == (l1.length : Int)) = false:=beq_eq_false_iff_ne.mpr c3
  have c3b1 : ((l0.length : Int) != (l1.length : Int)) = true:=bne_iff_ne.mpr c3
  have c3b2 : (l0.length == l1.length) = false:=by first | simpa using c3 | (simp at c3 ⊢;omega)
  obtain rfl:=Option.some.inj H
  go_enter Tryd.func40,Tryd.ntmps40
  go_wp2
  repeat (go_quiet (fail);try go_wp2)
  go_ret
  exact ⟨by first | rfl | (simp;done) | (simp [*];done) | (simp [wrap64];done),by repeat (first | exact Drawn0.refl _ | apply Drawn0.step)⟩
def slices_Equal_3_int_3_int.l0 : Nat → List (S36) → List (S36) → Int → Int → Option (Bool)
  | 0, _, _, _, _ => none
  | k + 1, x0, x1, x12, x13 => if x13 < x12 then (if 0 ≤ x13 then (if x13 < (x0.length : Int) then (if x13 < (x1.length : Int) then (if (!(((rd_T36 x0 x13).f0) == ((rd_T36 x1 x13).f0)) || (!(((rd_T36 x0 x13).f1) == ((rd_T36 x1 x13).f1)) || (!(((rd_T36 x0 x13).f2) == ((rd_T36 x1 x13).f2))))) = true then (some false) else (slices_Equal_3_int_3_int.l0 k x0 x1 x12 (wrap64 (x13 + 1)))) else (none)) else (none)) else (none)) else (some true)
def slices_Equal_3_int_3_int.f (k : Nat) (l0 : List (S36)) (l1 : List (S36)) : Option (Bool) := if (l0.length : Int) = (l1.length : Int) then (slices_Equal_3_int_3_int.l0 k l0 l1 (l0.length : Int) 0) else (some false)
set_option maxHeartbeats 8000000 in
set_option maxRecDepth 100000 in
theorem slices_Equal_3_int_3_int.calls (k : Nat) (A0 : Option Addr) (c0 : Nat) (l0 : List (S36)) (A1 : Option Addr) (c1 : Nat) (l1 : List (S36)) (r : Bool) (w : World) (hr0 : Kd.C k36 w A0 l0.length l0) (hc0 : l0.length ≤ c0) (hr1 : Kd.C k36 w A1 l1.length l1) (hc1 : l1.length ≤ c1) (h : slices_Equal_3_int_3_int.f k l0 l1 = some r) :
  Calls Tryd.prog 41 #[.slice A0 l0.length c0,.slice A1 l1.length c1] w fun e w' => e = .returned (.bool r) ∧ Drawn0 w w':=by
 have hu36:=Tryd.underlying36
 have HR0:=aMx10 hr0
 have HC0:=aMx10 hc0
 clear hr0 hc0
 have HR1:=aMx10 hr1
 have HC1:=aMx10 hc1
 clear hr1 hc1
 have H : (if (l0.length : Int) = (l1.length : Int) then (slices_Equal_3_int_3_int.l0 k l0 l1 (l0.length : Int) 0) else (some false)) = some r:=h
 clear h
 by_cases c3 : (l0.length : Int) = (l1.length : Int)
 ·rw [if_pos c3] at H
  have c3b0 : ((l0.length : Int) == (l1.length : Int)) = true:=beq_iff_eq.mpr c3
  have c3b1 : ((l0.length : Int) != (l1.length : Int)) = false:=bne_eq_false_iff_eq.mpr c3
  have c3b2 : (l0.length == l1.length) = true:=by first | simpa using c3 | (simp at c3 ⊢;omega)
  clear c3
  have H':=aMx10 H
  clear H
  go_enter Tryd.func41,Tryd.ntmps41
  go_wp2
  repeat (go_quiet (fail);try go_wp2)
  go_loopg [13] k (fun kq v13 w' => ∃ (x13_1 : Int),v13 = .int .i64 x13_1 ∧ Aside0 (slices_Equal_3_int_3_int.l0 kq l0 l1 (l0.length : Int) x13_1 = some r) ∧ Aside0 (kq ≤ k) ∧ Drawn0 w w')
  case atStart => exact ⟨(0),(by first | rfl | (simp;done) | (simp [*];done) | (simp [wrap64];done)),H',⟨Nat.le_refl _⟩,by repeat (first | exact Drawn0.refl _ | apply Drawn0.step)⟩
  case round =>
   clear H'
   (try clear c1);(try clear p2);(try clear c3);(try clear c3b0);(try clear c3b1);(try clear c3b2)
   obtain ⟨x13_1,rfl,HA,HK1,⟨m1,rfl⟩⟩:=hrel
   cases gk with
   | zero => exact absurd HA.out (by simp [slices_Equal_3_int_3_int.l0])
   | succ k1 =>
    have H:=HA.out
    clear HA
    simp only [slices_Equal_3_int_3_int.l0] at H
    by_cases c4 : x13_1 < (l0.length : Int)
    ·rw [if_pos c4] at H
     have c4b0 : decide (x13_1 < (l0.length : Int)) = true:=decide_eq_true c4
     clear c4
     by_cases c5 : 0 ≤ x13_1
     ·rw [if_pos c5] at H
      have c5b0 : decide (0 ≤ x13_1) = true:=decide_eq_true c5
      clear c5
      by_cases c6 : x13_1 < (l0.length : Int)
      ·rw [if_pos c6] at H
       have c6b0 : decide (x13_1 < (l0.length : Int)) = true:=decide_eq_true c6
       clear c6
       by_cases c7 : x13_1 < (l1.length : Int)
       ·rw [if_pos c7] at H
        have c7b0 : decide (x13_1 < (l1.length : Int)) = true:=decide_eq_true c7
        clear c7
        by_cases c8 : (!(((rd_T36 l0 x13_1).f0) == ((rd_T36 l1 x13_1).f0)) || (!(((rd_T36 l0 x13_1).f1) == ((rd_T36 l1 x13_1).f1)) || (!(((rd_T36 l0 x13_1).f2) == ((rd_T36 l1 x13_1).f2))))) = true
        ·rw [if_pos c8] at H
         have c8b0 : (!(((rd_T36 l0 x13_1).f0) == ((rd_T36 l1 x13_1).f0)) || (!(((rd_T36 l0 x13_1).f1) == ((rd_T36 l1 x13_1).f1)) || (!(((rd_T36 l0 x13_1).f2) == ((rd_T36 l1 x13_1).f2))))) = true:=c8
         clear c8
         obtain rfl:=Option.some.inj H
         have p207 : 0 ≤ (x13_1 : Int):=of_decide_eq_true (by first | (with_reducible assumption) | assumption)
         have q207 : x13_1 < (l0.length : Int):=of_decide_eq_true (by first | (with_reducible assumption) | assumption)
         obtain ⟨ad207,e207,hx207_0,hx207_1,hx207_2⟩:=at_T36 HR0.out x13_1 p207 q207
         cases e207
         replace p207:=eq_true p207
         replace q207:=eq_true q207
         have p208 : 0 ≤ (x13_1 : Int):=of_decide_eq_true (by first | (with_reducible assumption) | assumption)
         have q208 : x13_1 < (l1.length : Int):=of_decide_eq_true (by first | (with_reducible assumption) | assumption)
         obtain ⟨ad208,e208,hx208_0,hx208_1,hx208_2⟩:=at_T36 HR1.out x13_1 p208 q208
         cases e208
         replace p208:=eq_true p208
         replace q208:=eq_true q208
         go_wp2
         repeat (go_quiet (fail);try go_wp2)
         go_ret
         exact ⟨by first | rfl | (simp;done) | (simp [*];done) | (simp [wrap64];done),by repeat (first | exact Drawn0.refl _ | apply Drawn0.step)⟩
        ·rw [if_neg c8] at H
         have c8b0 : (!(((rd_T36 l0 x13_1).f0) == ((rd_T36 l1 x13_1).f0)) || (!(((rd_T36 l0 x13_1).f1) == ((rd_T36 l1 x13_1).f1)) || (!(((rd_T36 l0 x13_1).f2) == ((rd_T36 l1 x13_1).f2))))) = false:=by simpa using c8
         clear c8
         have H':=aMx10 H
         clear H
         have p207 : 0 ≤ (x13_1 : Int):=of_decide_eq_true (by first | (with_reducible assumption) | assumption)
         have q207 : x13_1 < (l0.length : Int):=of_decide_eq_true (by first | (with_reducible assumption) | assumption)
         obtain ⟨ad207,e207,hx207_0,hx207_1,hx207_2⟩:=at_T36 HR0.out x13_1 p207 q207
         cases e207
         replace p207:=eq_true p207
         replace q207:=eq_true q207
         have p208 : 0 ≤ (x13_1 : Int):=of_decide_eq_true (by first | (with_reducible assumption) | assumption)
         have q208 : x13_1 < (l1.length : Int):=of_decide_eq_true (by first | (with_reducible assumption) | assumption)
         obtain ⟨ad208,e208,hx208_0,hx208_1,hx208_2⟩:=at_T36 HR1.out x13_1 p208 q208
         cases e208
         replace p208:=eq_true p208
         replace q208:=eq_true q208
         go_wp2
         repeat (go_quiet (fail);try go_wp2)
         go_roundg k1
         case measure => have:=HK1.out;omega
         case rel => exact ⟨(wrap64 (x13_1+1)),(by first | rfl | (simp;done) | (simp [*];done) | (simp [wrap64];done)),H',⟨by have:=HK1.out;omega⟩,by repeat (first | exact Drawn0.refl _ | apply Drawn0.step)⟩
       ·rw [if_neg c7] at H
        exact absurd H (by simp)
      ·rw [if_neg c6] at H
       exact absurd H (by simp)
     ·rw [if_neg c5] at H
      exact absurd H (by simp)
    ·rw [if_neg c4] at H
     have c4b0 : decide (x13_1 < (l0.length : Int)) = false:=decide_eq_false c4
     clear c4
     obtain rfl:=Option.some.inj H
     go_wp2
     repeat (go_quiet (fail);try go_wp2)
     go_ret
     exact ⟨by first | rfl | (simp;done) | (simp [*];done) | (simp [wrap64];done),by repeat (first | exact Drawn0.refl _ | apply Drawn0.step)⟩
 ·rw [if_neg c3] at H
  have c3b0 : ((l0.length : Int) == (l1.length : Int)) = false:=beq_eq_false_iff_ne.mpr c3
  have c3b1 : ((l0.length : Int) != (l1.length : Int)) = true:=bne_iff_ne.mpr c3
  have c3b2 : (l0.length == l1.length) = false:=by first | simpa using c3 | (simp at c3 ⊢;omega)
  obtain rfl:=Option.some.inj H
  go_enter Tryd.func41,Tryd.ntmps41
  go_wp2
  repeat (go_quiet (fail);try go_wp2)
  go_ret
  exact ⟨by first | rfl | (simp;done) | (simp [*];done) | (simp [wrap64];done),by repeat (first | exact Drawn0.refl _ | apply Drawn0.step)⟩
def mesh_Same.f (k : Nat) (l0_0 : List (S55)) (l0_1 : List (S36)) (l1_0 : List (S55)) (l1_1 : List (S36)) : Option (Bool) := (api_Point_40.f k l0_0 l1_0).bind fun t211 => (if t211 = true then ((slices_Equal_3_int_3_int.f k l0_1 l1_1).bind fun t212 => (some t212)) else (some false))
set_option maxHeartbeats 8000000 in
set_option maxRecDepth 100000 in
theorem mesh_Same.calls (k : Nat) (A0_0 : Option Addr) (c0_0 : Nat) (l0_0 : List (S55)) (A0_1 : Option Addr) (c0_1 : Nat) (l0_1 : List (S36)) (A1_0 : Option Addr) (c1_0 : Nat) (l1_0 : List (S55)) (A1_1 : Option Addr) (c1_1 : Nat) (l1_1 : List (S36)) (r : Bool) (w : World) (hr0_0 : Kd.C k55 w A0_0 l0_0.length l0_0) (hc0_0 : l0_0.length ≤ c0_0) (hr0_1 : Kd.C k36 w A0_1 l0_1.length l0_1) (hc0_1 : l0_1.length ≤ c0_1) (hr1_0 : Kd.C k55 w A1_0 l1_0.length l1_0) (hc1_0 : l1_0.length ≤ c1_0) (hr1_1 : Kd.C k36 w A1_1 l1_1.length l1_1) (hc1_1 : l1_1.length ≤ c1_1) (h : mesh_Same.f k l0_0 l0_1 l1_0 l1_1 = some r) :
  Calls Tryd.prog 23 #[.agg #[.slice A0_0 l0_0.length c0_0,.slice A0_1 l0_1.length c0_1],.agg #[.slice A1_0 l1_0.length c1_0,.slice A1_1 l1_1.length c1_1]] w fun e w' => e = .returned (.bool r) ∧ Below w.heap.size w w':=by
 have hu25:=Tryd.underlying25
 have HR0_0:=aMx10 hr0_0
 have HC0_0:=aMx10 hc0_0
 clear hr0_0 hc0_0
 have HR0_1:=aMx10 hr0_1
 have HC0_1:=aMx10 hc0_1
 clear hr0_1 hc0_1
 have HR1_0:=aMx10 hr1_0
 have HC1_0:=aMx10 hc1_0
 clear hr1_0 hc1_0
 have HR1_1:=aMx10 hr1_1
 have HC1_1:=aMx10 hc1_1
 clear hr1_1 hc1_1
 have HB:=aMx10 (Below.refl w.heap.size w)
 have H : ((api_Point_40.f k l0_0 l1_0).bind fun t211 => (if t211 = true then ((slices_Equal_3_int_3_int.f k l0_1 l1_1).bind fun t212 => (some t212)) else (some false))) = some r:=h
 clear h
 replace H:=Option.bind_eq_some_iff.mp H
 obtain ⟨t211,A30,H⟩:=H
 replace H : (if t211 = true then ((slices_Equal_3_int_3_int.f k l0_1 l1_1).bind fun t212 => (some t212)) else (some false)) = some r:=H
 have A3:=aMx10 A30
 clear A30
 by_cases c4 : t211 = true
 ·subst c4
  have H1 : ((slices_Equal_3_int_3_int.f k l0_1 l1_1).bind fun t212 => (some t212)) = some r:=by rw [if_pos rfl] at H;exact H
  clear H
  have H:=H1
  clear H1
  replace H:=Option.bind_eq_some_iff.mp H
  obtain ⟨t212,A50,H⟩:=H
  replace H : (some t212) = some r:=H
  have A5:=aMx10 A50
  clear A50
  obtain rfl:=Option.some.inj H
  go_enter Tryd.func23,Tryd.ntmps23
  go_wp2_with (first|((with_reducible refine gate_dst (N:=2) rfl ?_);refine box_event ?hg (N:=2) ?hd (cs:=#[.slice A0_0 l0_0.length c0_0,.slice A0_1 l0_1.length c0_1]) (t:=25) ?hr ?_;(case hd => rfl);(case hg => rfl);(case hr => first|(go_simp;done)|(go_simp;rfl));intro gb209 hg w6 hbox hb;have n0_:=aMx10 (below_step (by repeat (with_reducible first|exact HB.out|apply below_alloc|apply pw_below_drewN|apply below_drew1)) hb);have n1_:=aMx10 (hbox);have n2_:=aMx10 ((by rw [hg];exact (below_size (by repeat (with_reducible first|exact HB.out|apply below_alloc|apply pw_below_drewN|apply below_drew1))) : w.heap.size ≤ gb209));have n3_:=aMx10 ((by rw [hg];exact (below_size (by repeat (with_reducible first|exact HB.out|apply below_alloc|apply pw_below_drewN|apply below_drew1))) : w.heap.size ≤ gb209));clear HB;have HB:=n0_;have BK209:=n1_;have GW209:=n2_;have GE209:=n3_;clear n0_ n1_ n2_ n3_;clear hb hbox hg)|((with_reducible refine gate_dst (N:=3) rfl ?_);refine box_event ?hg (N:=3) ?hd (cs:=#[.slice A1_0 l1_0.length c1_0,.slice A1_1 l1_1.length c1_1]) (t:=25) ?hr ?_;(case hd => rfl);(case hg => rfl);(case hr => first|(go_simp;done)|(go_simp;rfl));intro gb210 hg w7 hbox hb;have n0_:=aMx10 (blk_below (g:=gb209) (o:=.cells #[.slice A0_0 l0_0.length c0_0,.slice A0_1 l0_1.length c0_1] 25 (0,0)) (by (with_reducible repeat (first|refine blk_drewN ?_ _|refine blk_drew ?_|refine blk_alloc ?_ _));exact BK209.out) hb);have n1_:=aMx10 (below_step (by repeat (first|(with_reducible first|exact HB.out|apply below_alloc|apply pw_below_drewN|apply below_drew1|refine below_set ?_ GE209.out)|exact HB.out)) hb);have n2_:=aMx10 (hbox);have n3_:=aMx10 ((by rw [hg];exact (below_size (by repeat (first|(with_reducible first|exact HB.out|apply below_alloc|apply pw_below_drewN|apply below_drew1|refine below_set ?_ GE209.out)|exact HB.out))) : w.heap.size ≤ gb210));have n4_:=aMx10 ((by rw [hg];exact (below_size (by repeat (first|(with_reducible first|exact HB.out|apply below_alloc|apply pw_below_drewN|apply below_drew1|refine below_set ?_ GE209.out)|exact HB.out))) : w.heap.size ≤ gb210));have n5_:=aMx10 ((by rw [hg];exact Nat.ne_of_lt (blk_lt (g:=gb209) (o:=.cells #[.slice A0_0 l0_0.length c0_0,.slice A0_1 l0_1.length c0_1] 25 (0,0)) (by (with_reducible repeat (first|refine blk_drewN ?_ _|refine blk_drew ?_|refine blk_alloc ?_ _));exact BK209.out)) : gb209 ≠ gb210));have n6_:=aMx10 ((by rw [hg];exact Nat.ne_of_gt (blk_lt (g:=gb209) (o:=.cells #[.slice A0_0 l0_0.length c0_0,.slice A0_1 l0_1.length c0_1] 25 (0,0)) (by (with_reducible repeat (first|refine blk_drewN ?_ _|refine blk_drew ?_|refine blk_alloc ?_ _));exact BK209.out)) : gb210 ≠ gb209));clear BK209;clear HB;have BK209:=n0_;have HB:=n1_;have BK210:=n2_;have GW210:=n3_;have GE210:=n4_;have NB209_210:=n5_;have NB210_209:=n6_;clear n0_ n1_ n2_ n3_ n4_ n5_ n6_;clear hb hbox hg;have hnb8:=NB209_210.out;have hnc8:=NB210_209.out;have hcz9_0 : w7.cell? ⟨gb209,0,none⟩ = some (.slice A0_0 l0_0.length c0_0):=(blk_cell BK209.out 0).trans rfl;have hcz9_1 : w7.cell? ⟨gb209,1,none⟩ = some (.slice A0_1 l0_1.length c0_1):=(blk_cell BK209.out 1).trans rfl;have hfz9_0:=blk_frozen BK209.out 0;have hfz9_1:=blk_frozen BK209.out 1;have hcz10_0 : w7.cell? ⟨gb210,0,none⟩ = some (.slice A1_0 l1_0.length c1_0):=(blk_cell BK210.out 0).trans rfl;have hcz10_1 : w7.cell? ⟨gb210,1,none⟩ = some (.slice A1_1 l1_1.length c1_1):=(blk_cell BK210.out 1).trans rfl;have hfz10_0:=blk_frozen BK210.out 0;have hfz10_1:=blk_frozen BK210.out 1)|((with_reducible refine gate_callee (f:=40) rfl ?_);refine goesL_ (some 9) rfl rfl Tryd.func40 (by kernel_rfl) rfl #[.slice A0_0 l0_0.length c0_0,.slice A1_0 l1_0.length c1_0] rfl (by (try simp only [List.map_toArray,List.map_cons,List.map_nil]);first|done|rfl|(simp only [List.length_drop,List.length_take];rfl)) ?_;(with_reducible refine (api_Point_40.calls k _ _ l0_0 _ _ l1_0 true _ ?side1 ?side2 ?side3 ?side4 A3.out).mono ?_);(case side1 => repeat (first|exact (Kd.C_below HR0_0.out HB.out)|(with_reducible first|refine Kd.C_alloc ?_ _|refine Kd.C_drewN ?_ _|refine Kd.C_drew ?_)));(case side2 => exact HC0_0.out);(case side3 => repeat (first|exact (Kd.C_below HR1_0.out HB.out)|(with_reducible first|refine Kd.C_alloc ?_ _|refine Kd.C_drewN ?_ _|refine Kd.C_drew ?_)));(case side4 => exact HC1_0.out);rintro e w' ⟨rfl,⟨nd,rfl⟩⟩;refine ⟨_,rfl,?_⟩)|(go_at_call 41;(with_reducible refine (slices_Equal_3_int_3_int.calls k _ _ l0_1 _ _ l1_1 t212 _ ?side1 ?side2 ?side3 ?side4 A5.out).mono ?_);(case side1 => repeat (first|exact (Kd.C_below HR0_1.out (by repeat (first|(with_reducible first|exact HB.out|apply below_alloc|apply pw_below_drewN|apply below_drew1|refine below_set ?_ GE209.out|refine below_set ?_ GE210.out)|exact HB.out)))|(with_reducible first|refine Kd.C_alloc ?_ _|refine Kd.C_drewN ?_ _|refine Kd.C_drew ?_)));(case side2 => exact HC0_1.out);(case side3 => repeat (first|exact (Kd.C_below HR1_1.out (by repeat (first|(with_reducible first|exact HB.out|apply below_alloc|apply pw_below_drewN|apply below_drew1|refine below_set ?_ GE209.out|refine below_set ?_ GE210.out)|exact HB.out)))|(with_reducible first|refine Kd.C_alloc ?_ _|refine Kd.C_drewN ?_ _|refine Kd.C_drew ?_)));(case side4 => exact HC1_1.out);rintro e w' ⟨rfl,⟨nd,rfl⟩⟩))
  go_ret
  exact ⟨by first | rfl | (simp [errW_none,errW_some]<;>rfl) | (simp [*,errW_none,errW_some]<;>rfl),by repeat (first | (with_reducible first | exact HB.out | apply below_alloc | apply pw_below_drewN | apply below_drew1 | refine below_set ?_ GE209.out | refine below_set ?_ GE210.out) | exact HB.out)⟩
 ·replace c4:=Bool.eq_false_iff.mpr c4
  subst c4
  have H1 : (some false) = some r:=by rw [if_neg (show ¬ (false = true) by decide)] at H;exact H
  clear H
  have H:=H1
  clear H1
  obtain rfl:=Option.some.inj H
  go_enter Tryd.func23,Tryd.ntmps23
  go_wp2_with (first|((with_reducible refine gate_dst (N:=2) rfl ?_);refine box_event ?hg (N:=2) ?hd (cs:=#[.slice A0_0 l0_0.length c0_0,.slice A0_1 l0_1.length c0_1]) (t:=25) ?hr ?_;(case hd => rfl);(case hg => rfl);(case hr => first|(go_simp;done)|(go_simp;rfl));intro gb209 hg w11 hbox hb;have n0_:=aMx10 (below_step (by repeat (with_reducible first|exact HB.out|apply below_alloc|apply pw_below_drewN|apply below_drew1)) hb);have n1_:=aMx10 (hbox);have n2_:=aMx10 ((by rw [hg];exact (below_size (by repeat (with_reducible first|exact HB.out|apply below_alloc|apply pw_below_drewN|apply below_drew1))) : w.heap.size ≤ gb209));have n3_:=aMx10 ((by rw [hg];exact (below_size (by repeat (with_reducible first|exact HB.out|apply below_alloc|apply pw_below_drewN|apply below_drew1))) : w.heap.size ≤ gb209));clear HB;have HB:=n0_;have BK209:=n1_;have GW209:=n2_;have GE209:=n3_;clear n0_ n1_ n2_ n3_;clear hb hbox hg)|((with_reducible refine gate_dst (N:=3) rfl ?_);refine box_event ?hg (N:=3) ?hd (cs:=#[.slice A1_0 l1_0.length c1_0,.slice A1_1 l1_1.length c1_1]) (t:=25) ?hr ?_;(case hd => rfl);(case hg => rfl);(case hr => first|(go_simp;done)|(go_simp;rfl));intro gb210 hg w12 hbox hb;have n0_:=aMx10 (blk_below (g:=gb209) (o:=.cells #[.slice A0_0 l0_0.length c0_0,.slice A0_1 l0_1.length c0_1] 25 (0,0)) (by (with_reducible repeat (first|refine blk_drewN ?_ _|refine blk_drew ?_|refine blk_alloc ?_ _));exact BK209.out) hb);have n1_:=aMx10 (below_step (by repeat (first|(with_reducible first|exact HB.out|apply below_alloc|apply pw_below_drewN|apply below_drew1|refine below_set ?_ GE209.out)|exact HB.out)) hb);have n2_:=aMx10 (hbox);have n3_:=aMx10 ((by rw [hg];exact (below_size (by repeat (first|(with_reducible first|exact HB.out|apply below_alloc|apply pw_below_drewN|apply below_drew1|refine below_set ?_ GE209.out)|exact HB.out))) : w.heap.size ≤ gb210));have n4_:=aMx10 ((by rw [hg];exact (below_size (by repeat (first|(with_reducible first|exact HB.out|apply below_alloc|apply pw_below_drewN|apply below_drew1|refine below_set ?_ GE209.out)|exact HB.out))) : w.heap.size ≤ gb210));have n5_:=aMx10 ((by rw [hg];exact Nat.ne_of_lt (blk_lt (g:=gb209) (o:=.cells #[.slice A0_0 l0_0.length c0_0,.slice A0_1 l0_1.length c0_1] 25 (0,0)) (by (with_reducible repeat (first|refine blk_drewN ?_ _|refine blk_drew ?_|refine blk_alloc ?_ _));exact BK209.out)) : gb209 ≠ gb210));have n6_:=aMx10 ((by rw [hg];exact Nat.ne_of_gt (blk_lt (g:=gb209) (o:=.cells #[.slice A0_0 l0_0.length c0_0,.slice A0_1 l0_1.length c0_1] 25 (0,0)) (by (with_reducible repeat (first|refine blk_drewN ?_ _|refine blk_drew ?_|refine blk_alloc ?_ _));exact BK209.out)) : gb210 ≠ gb209));clear BK209;clear HB;have BK209:=n0_;have HB:=n1_;have BK210:=n2_;have GW210:=n3_;have GE210:=n4_;have NB209_210:=n5_;have NB210_209:=n6_;clear n0_ n1_ n2_ n3_ n4_ n5_ n6_;clear hb hbox hg;have hnb13:=NB209_210.out;have hnc13:=NB210_209.out;have hcz14_0 : w12.cell? ⟨gb209,0,none⟩ = some (.slice A0_0 l0_0.length c0_0):=(blk_cell BK209.out 0).trans rfl;have hcz14_1 : w12.cell? ⟨gb209,1,none⟩ = some (.slice A0_1 l0_1.length c0_1):=(blk_cell BK209.out 1).trans rfl;have hfz14_0:=blk_frozen BK209.out 0;have hfz14_1:=blk_frozen BK209.out 1;have hcz15_0 : w12.cell? ⟨gb210,0,none⟩ = some (.slice A1_0 l1_0.length c1_0):=(blk_cell BK210.out 0).trans rfl;have hcz15_1 : w12.cell? ⟨gb210,1,none⟩ = some (.slice A1_1 l1_1.length c1_1):=(blk_cell BK210.out 1).trans rfl;have hfz15_0:=blk_frozen BK210.out 0;have hfz15_1:=blk_frozen BK210.out 1)|((with_reducible refine gate_callee (f:=40) rfl ?_);refine goesL_ (some 9) rfl rfl Tryd.func40 (by kernel_rfl) rfl #[.slice A0_0 l0_0.length c0_0,.slice A1_0 l1_0.length c1_0] rfl (by (try simp only [List.map_toArray,List.map_cons,List.map_nil]);first|done|rfl|(simp only [List.length_drop,List.length_take];rfl)) ?_;(with_reducible refine (api_Point_40.calls k _ _ l0_0 _ _ l1_0 false _ ?side1 ?side2 ?side3 ?side4 A3.out).mono ?_);(case side1 => repeat (first|exact (Kd.C_below HR0_0.out HB.out)|(with_reducible first|refine Kd.C_alloc ?_ _|refine Kd.C_drewN ?_ _|refine Kd.C_drew ?_)));(case side2 => exact HC0_0.out);(case side3 => repeat (first|exact (Kd.C_below HR1_0.out HB.out)|(with_reducible first|refine Kd.C_alloc ?_ _|refine Kd.C_drewN ?_ _|refine Kd.C_drew ?_)));(case side4 => exact HC1_0.out);rintro e w' ⟨rfl,⟨nd,rfl⟩⟩;refine ⟨_,rfl,?_⟩))
  go_ret
  exact ⟨by first | rfl | (simp [errW_none,errW_some]<;>rfl) | (simp [*,errW_none,errW_some]<;>rfl),by repeat (first | (with_reducible first | exact HB.out | apply below_alloc | apply pw_below_drewN | apply below_drew1 | refine below_set ?_ GE209.out | refine below_set ?_ GE210.out) | exact HB.out)⟩
end Go.Proofs.YtckemiefcdpofaaDoor.PMsr
