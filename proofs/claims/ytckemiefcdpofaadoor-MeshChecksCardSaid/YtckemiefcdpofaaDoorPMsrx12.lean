import Derived.Test.YtckemiefcdpofaaDoorPMsrx0
import Derived.Test.YtckemiefcdpofaaDoorPMsrx3
import Derived.Test.YtckemiefcdpofaaDoorPMsrx10
import Derived.Test.YtckemiefcdpofaaDoorPMsrx11
import Derived.Test.YtckemiefcdpofaaDoorKnownStub
import Derived.Test.YtckemiefcdpofaaDoorCopyStub
namespace Go.Proofs.YtckemiefcdpofaaDoor.PMsr
open Go Go.RowKit Go.Proofs.YtckemiefcdpofaaDoorW.PrintWords Go.Proofs.YtckemiefcdpofaaDoorW.PrintLast Go.Proofs.YtckemiefcdpofaaDoorW.PrintMore
attribute [local go_sem] max2_int min2_int max_two min_two max_three min_three max_four min_four
set_option linter.unusedVariables false
set_option maxRecDepth 100000
set_option linter.unusedSimpArgs false
attribute [local go_sem] idx36_0_0 idx36_1_0 idx36_2_0 idx52_0_0 idx52_1_0
theorem sAx12 {α : Type _} {l : List α} {i : Nat} {a : α} : l.toArray.setIfInBounds i a = (l.set i a).toArray := List.setIfInBounds_toArray ..
theorem sBx12 {α : Type _} {x y : α} {l : List α} : (x :: l).set 0 y = y :: l := rfl
theorem sCx12 {α : Type _} {x y : α} {l : List α} {i : Nat} : (x :: l).set (i + 1) y = x :: l.set i y := rfl
theorem aMx12 {p : Prop} (h : p) : Aside0 p := ⟨h⟩
mutual
def lapidarylaw10_MeshSame.j0 : Nat → Bool → List (S55) → List (S36) → List (S55) → List (S36) → Option (Bool)
  | 0, _, _, _, _, _ => none
  | k + 1, x13, x220000, x220001, x221000, x221001 => if x13 = true then ((lapidarylaw10_known.f).bind fun t223 => (some t223)) else ((mesh_Same.f k x220000 x220001 x221000 x221001).bind fun t224 => ((mesh_Copy.f x220000 x220001).bind fun bt225 => ((lapidaryref10_Same.f k x220000 x220001 x221000 x221001).bind fun t232 => (if (t224 != t232) = true then (lapidarylaw10_MeshSame.j1 k t224 true x220000 x220001 x221000 x221001 bt225.1 bt225.2) else ((lapidaryref10_Same.f k bt225.1 bt225.2 x220000 x220001).bind fun t233 => (lapidarylaw10_MeshSame.j1 k t224 (!t233) x220000 x220001 x221000 x221001 bt225.1 bt225.2))))))
def lapidarylaw10_MeshSame.j1 : Nat → Bool → Bool → List (S55) → List (S36) → List (S55) → List (S36) → List (S55) → List (S36) → Option (Bool)
  | 0, _, _, _, _, _, _, _, _ => none
  | k + 1, x5, x30, x220000, x220001, x221000, x221001, x232000, x232001 => if x30 = true then (some false) else (lapidarylaw10_MeshSame.l0 k x5 0 x220000 x220001 x221000 x221001 x232000 x232001)
def lapidarylaw10_MeshSame.l0 : Nat → Bool → Int → List (S55) → List (S36) → List (S55) → List (S36) → List (S55) → List (S36) → Option (Bool)
  | 0, _, _, _, _, _, _, _, _ => none
  | k + 1, x5, x7, x220000, x220001, x221000, x221001, x232000, x232001 => if x7 < (x232001.length : Int) then (if 0 ≤ x7 then (lapidarylaw10_MeshSame.l0 k x5 (wrap64 (x7 + 1)) x220000 x220001 x221000 x221001 x232000 (x232001.set (x7 : Int).toNat (⟨(-1), (-1), (-1)⟩ : S36))) else (none)) else ((mesh_Same.f k x220000 x220001 x221000 x221001).bind fun t235 => (if (t235 == x5) = true then ((mesh_Same.f k x220000 x220001 x220000 x220001).bind fun t236 => (if t236 = true then ((lapidarylaw10_known.f).bind fun t237 => (some t237)) else (some false))) else (some false)))
end
def lapidarylaw10_MeshSame.f (k : Nat) (l0_0 : List (S55)) (l0_1 : List (S36)) (l1_0 : List (S55)) (l1_1 : List (S36)) : Option (Bool) := (lapidarylaw10_long.f l0_0 l0_1).bind fun t221 => (if t221 = true then (lapidarylaw10_MeshSame.j0 k true l0_0 l0_1 l1_0 l1_1) else ((lapidarylaw10_long.f l1_0 l1_1).bind fun t222 => (lapidarylaw10_MeshSame.j0 k t222 l0_0 l0_1 l1_0 l1_1)))
set_option maxHeartbeats 8000000 in
set_option maxRecDepth 100000 in
theorem lapidarylaw10_MeshSame.calls (k : Nat) (A0_0 : Option Addr) (c0_0 : Nat) (l0_0 : List (S55)) (A0_1 : Option Addr) (c0_1 : Nat) (l0_1 : List (S36)) (A1_0 : Option Addr) (c1_0 : Nat) (l1_0 : List (S55)) (A1_1 : Option Addr) (c1_1 : Nat) (l1_1 : List (S36)) (r : Bool) (w : World) (hr0_0 : Kd.C k55 w A0_0 l0_0.length l0_0) (hc0_0 : l0_0.length ≤ c0_0) (hr0_1 : Kd.C k36 w A0_1 l0_1.length l0_1) (hc0_1 : l0_1.length ≤ c0_1) (hr1_0 : Kd.C k55 w A1_0 l1_0.length l1_0) (hc1_0 : l1_0.length ≤ c1_0) (hr1_1 : Kd.C k36 w A1_1 l1_1.length l1_1) (hc1_1 : l1_1.length ≤ c1_1) (hG : Kd.C k36 w (some ⟨0, 0, none⟩) 1 [⟨1, 2, 0⟩]) (hrt : r = true) (h : lapidarylaw10_MeshSame.f k l0_0 l0_1 l1_0 l1_1 = some r) :
  Calls Tryd.prog 7 #[.agg #[.slice A0_0 l0_0.length c0_0,.slice A0_1 l0_1.length c0_1],.agg #[.slice A1_0 l1_0.length c1_0,.slice A1_1 l1_1.length c1_1]] w fun e w' => e = .returned (.bool r) ∧ Below w.heap.size w w':=by
 have HRT:=aMx12 hrt
 clear hrt
 have HG:=aMx12 hG
 clear hG
 have hu25:=Tryd.underlying25
 have hu36:=Tryd.underlying36
 have HR0_0:=aMx12 hr0_0
 have HC0_0:=aMx12 hc0_0
 clear hr0_0 hc0_0
 have HR0_1:=aMx12 hr0_1
 have HC0_1:=aMx12 hc0_1
 clear hr0_1 hc0_1
 have HR1_0:=aMx12 hr1_0
 have HC1_0:=aMx12 hc1_0
 clear hr1_0 hc1_0
 have HR1_1:=aMx12 hr1_1
 have HC1_1:=aMx12 hc1_1
 clear hr1_1 hc1_1
 have HB:=aMx12 (Below.refl w.heap.size w)
 have H : ((lapidarylaw10_long.f l0_0 l0_1).bind fun t221 => (if t221 = true then (lapidarylaw10_MeshSame.j0 k true l0_0 l0_1 l1_0 l1_1) else ((lapidarylaw10_long.f l1_0 l1_1).bind fun t222 => (lapidarylaw10_MeshSame.j0 k t222 l0_0 l0_1 l1_0 l1_1)))) = some r:=h
 clear h
 have HC3:=aMx12 H
 clear H
 go_enter Tryd.func7,Tryd.ntmps7
 go_upto_region 1 with (first | ((with_reducible refine gate_dst (N:=2) rfl ?_);refine box_event ?hg (N:=2) ?hd (cs:=#[.slice A0_0 l0_0.length c0_0,.slice A0_1 l0_1.length c0_1]) (t:=25) ?hr ?_;(case hd => rfl);(case hg => rfl);(case hr => first | (go_simp;done) | (go_simp;rfl));intro gb219 hg w4 hbox hb;have n0_:=aMx12 (below_step (by repeat (first | (with_reducible first | exact HB.out | apply below_alloc | apply pw_below_drewN | apply below_drew1) | exact HB.out)) hb);have n1_:=aMx12 (hbox);have n2_:=aMx12 ((by rw [hg];exact (below_size (by repeat (first | (with_reducible first | exact HB.out | apply below_alloc | apply pw_below_drewN | apply below_drew1) | exact HB.out))) : w.heap.size ≤ gb219));have n3_:=aMx12 ((by rw [hg];exact (below_size (by repeat (first | (with_reducible first | exact HB.out | apply below_alloc | apply pw_below_drewN | apply below_drew1) | exact HB.out))) : w.heap.size ≤ gb219));clear HB;have HB:=n0_;have BK219:=n1_;have GW219:=n2_;have GE219:=n3_;clear n0_ n1_ n2_ n3_;clear hb hbox hg) | ((with_reducible refine gate_dst (N:=3) rfl ?_);refine box_event ?hg (N:=3) ?hd (cs:=#[.slice A1_0 l1_0.length c1_0,.slice A1_1 l1_1.length c1_1]) (t:=25) ?hr ?_;(case hd => rfl);(case hg => rfl);(case hr => first | (go_simp;done) | (go_simp;rfl));intro gb220 hg w5 hbox hb;have n0_:=aMx12 (blk_below (g:=gb219) (o:=.cells #[.slice A0_0 l0_0.length c0_0,.slice A0_1 l0_1.length c0_1] 25 (0,0)) (by (with_reducible repeat (first | refine blk_drewN ?_ _ | refine blk_drew ?_ | refine blk_alloc ?_ _));exact BK219.out) hb);have n1_:=aMx12 (below_step (by repeat (first | (with_reducible first | exact HB.out | apply below_alloc | apply pw_below_drewN | apply below_drew1 | refine below_set ?_ GE219.out) | exact HB.out)) hb);have n2_:=aMx12 (hbox);have n3_:=aMx12 ((by rw [hg];exact (below_size (by repeat (first | (with_reducible first | exact HB.out | apply below_alloc | apply pw_below_drewN | apply below_drew1 | refine below_set ?_ GE219.out) | exact HB.out))) : w.heap.size ≤ gb220));have n4_:=aMx12 ((by rw [hg];exact (below_size (by repeat (first | (with_reducible first | exact HB.out | apply below_alloc | apply pw_below_drewN | apply below_drew1 | refine below_set ?_ GE219.out) | exact HB.out))) : w.heap.size ≤ gb220));have n5_:=aMx12 ((by rw [hg];exact Nat.ne_of_lt (blk_lt (g:=gb219) (o:=.cells #[.slice A0_0 l0_0.length c0_0,.slice A0_1 l0_1.length c0_1] 25 (0,0)) (by (with_reducible repeat (first | refine blk_drewN ?_ _ | refine blk_drew ?_ | refine blk_alloc ?_ _));exact BK219.out)) : gb219 ≠ gb220));have n6_:=aMx12 ((by rw [hg];exact Nat.ne_of_gt (blk_lt (g:=gb219) (o:=.cells #[.slice A0_0 l0_0.length c0_0,.slice A0_1 l0_1.length c0_1] 25 (0,0)) (by (with_reducible repeat (first | refine blk_drewN ?_ _ | refine blk_drew ?_ | refine blk_alloc ?_ _));exact BK219.out)) : gb220 ≠ gb219));clear BK219;clear HB;have BK219:=n0_;have HB:=n1_;have BK220:=n2_;have GW220:=n3_;have GE220:=n4_;have NB219_220:=n5_;have NB220_219:=n6_;clear n0_ n1_ n2_ n3_ n4_ n5_ n6_;clear hb hbox hg))
 (try simp only [Act.put,sAx12,sBx12,sCx12])
 go_cut [13] (fun v13 wc => ∃ (kq : Nat) (x13_2 : Bool),v13 = .bool x13_2 ∧ Aside0 (lapidarylaw10_MeshSame.j0 kq x13_2 l0_0 l0_1 l1_0 l1_1 = some r) ∧ Aside0 (kq ≤ k) ∧ Aside0 (wc.heap[gb219]? = some (.cells #[(.slice A0_0 l0_0.length c0_0),(.slice A0_1 l0_1.length c0_1)] 25 (0,0))) ∧ Aside0 (wc.heap[gb220]? = some (.cells #[(.slice A1_0 l1_0.length c1_0),(.slice A1_1 l1_1.length c1_1)] 25 (0,0))) ∧ Aside0 (Below w.heap.size w wc))
 case first =>
  have H:=HC3.out
  clear HC3
  replace H:=Option.bind_eq_some_iff.mp H
  obtain ⟨t221,A60,H⟩:=H
  replace H : (if t221 = true then (lapidarylaw10_MeshSame.j0 k true l0_0 l0_1 l1_0 l1_1) else ((lapidarylaw10_long.f l1_0 l1_1).bind fun t222 => (lapidarylaw10_MeshSame.j0 k t222 l0_0 l0_1 l1_0 l1_1))) = some r:=H
  have A6:=aMx12 A60
  clear A60
  by_cases c7 : t221 = true
  ·subst c7
   have H1 : (lapidarylaw10_MeshSame.j0 k true l0_0 l0_1 l1_0 l1_1) = some r:=by rw [if_pos rfl] at H;exact H
   clear H
   have H:=H1
   clear H1
   have H':=aMx12 H
   clear H
   have hnb8:=NB219_220.out
   have hnc8:=NB220_219.out
   have hcz9_0 : w5.cell? ⟨gb219,0,none⟩ = some (.slice A0_0 l0_0.length c0_0):=(blk_cell BK219.out 0).trans rfl
   have hcz9_1 : w5.cell? ⟨gb219,1,none⟩ = some (.slice A0_1 l0_1.length c0_1):=(blk_cell BK219.out 1).trans rfl
   have hfz9_0:=blk_frozen BK219.out 0
   have hfz9_1:=blk_frozen BK219.out 1
   go_wp2_with (first|((with_reducible refine gate_callee (f:=12) rfl ?_);refine goesL_ (some 9) rfl rfl Tryd.func12 (by kernel_rfl) rfl #[.agg #[.slice A0_0 l0_0.length c0_0,.slice A0_1 l0_1.length c0_1]] rfl (by (try simp only [List.map_toArray,List.map_cons,List.map_nil]);first|done|rfl|(simp only [List.length_drop,List.length_take];rfl)) ?_;(with_reducible refine (lapidarylaw10_long.calls _ _ l0_0 _ _ l0_1 true _ ?side1 ?side2 ?side3 ?side4 A6.out).mono ?_);(case side1 => repeat (first|exact (Kd.C_below HR0_0.out HB.out)|(with_reducible first|refine Kd.C_alloc ?_ _|refine Kd.C_drewN ?_ _|refine Kd.C_drew ?_)));(case side2 => exact HC0_0.out);(case side3 => repeat (first|exact (Kd.C_below HR0_1.out HB.out)|(with_reducible first|refine Kd.C_alloc ?_ _|refine Kd.C_drewN ?_ _|refine Kd.C_drew ?_)));(case side4 => exact HC0_1.out);rintro e w10 ⟨rfl,hb⟩;refine ⟨_,rfl,?_⟩;have n0_:=aMx12 (blk_below (g:=gb219) (o:=.cells #[.slice A0_0 l0_0.length c0_0,.slice A0_1 l0_1.length c0_1] 25 (0,0)) (by (with_reducible repeat (first|refine blk_drewN ?_ _|refine blk_drew ?_|refine blk_alloc ?_ _));exact BK219.out) hb);have n1_:=aMx12 (blk_below (g:=gb220) (o:=.cells #[.slice A1_0 l1_0.length c1_0,.slice A1_1 l1_1.length c1_1] 25 (0,0)) (by (with_reducible repeat (first|refine blk_drewN ?_ _|refine blk_drew ?_|refine blk_alloc ?_ _));exact BK220.out) hb);have n2_:=aMx12 (below_step (by repeat (first|(with_reducible first|exact HB.out|apply below_alloc|apply pw_below_drewN|apply below_drew1|refine below_set ?_ GE219.out|refine below_set ?_ GE220.out)|exact HB.out)) hb);clear BK219;clear BK220;clear HB;have BK219:=n0_;have BK220:=n1_;have HB:=n2_;clear n0_ n1_ n2_;(try clear hb);(try clear hb2);(try clear hk);(try clear hi)))
   go_meet
   case rel => exact ⟨_,(true),(by first | rfl | (simp;done) | (simp [*];done) | (simp [wrap64];done)),H',⟨by first | omega | exact Nat.le_refl _⟩,⟨by (with_reducible repeat (first | refine blk_drewN ?_ _ | refine blk_drew ?_ | refine blk_alloc ?_ _));exact BK219.out⟩,⟨by (with_reducible repeat (first | refine blk_drewN ?_ _ | refine blk_drew ?_ | refine blk_alloc ?_ _));exact BK220.out⟩,⟨by repeat (first | (with_reducible first | exact HB.out | apply below_alloc | apply pw_below_drewN | apply below_drew1 | refine below_set ?_ GE219.out | refine below_set ?_ GE220.out) | exact HB.out)⟩⟩
  ·replace c7:=Bool.eq_false_iff.mpr c7
   subst c7
   have H1 : ((lapidarylaw10_long.f l1_0 l1_1).bind fun t222 => (lapidarylaw10_MeshSame.j0 k t222 l0_0 l0_1 l1_0 l1_1)) = some r:=by rw [if_neg (show ¬ (false = true) by decide)] at H;exact H
   clear H
   have H:=H1
   clear H1
   replace H:=Option.bind_eq_some_iff.mp H
   obtain ⟨t222,A110,H⟩:=H
   replace H : (lapidarylaw10_MeshSame.j0 k t222 l0_0 l0_1 l1_0 l1_1) = some r:=H
   have A11:=aMx12 A110
   clear A110
   have H':=aMx12 H
   clear H
   have hnb12:=NB219_220.out
   have hnc12:=NB220_219.out
   have hcz13_0 : w5.cell? ⟨gb219,0,none⟩ = some (.slice A0_0 l0_0.length c0_0):=(blk_cell BK219.out 0).trans rfl
   have hcz13_1 : w5.cell? ⟨gb219,1,none⟩ = some (.slice A0_1 l0_1.length c0_1):=(blk_cell BK219.out 1).trans rfl
   have hfz13_0:=blk_frozen BK219.out 0
   have hfz13_1:=blk_frozen BK219.out 1
   go_wp2_with (first|((with_reducible refine gate_callee (f:=12) rfl ?_);refine goesL_ (some 9) rfl rfl Tryd.func12 (by kernel_rfl) rfl #[.agg #[.slice A0_0 l0_0.length c0_0,.slice A0_1 l0_1.length c0_1]] rfl (by (try simp only [List.map_toArray,List.map_cons,List.map_nil]);first|done|rfl|(simp only [List.length_drop,List.length_take];rfl)) ?_;(with_reducible refine (lapidarylaw10_long.calls _ _ l0_0 _ _ l0_1 false _ ?side1 ?side2 ?side3 ?side4 A6.out).mono ?_);(case side1 => repeat (first|exact (Kd.C_below HR0_0.out HB.out)|(with_reducible first|refine Kd.C_alloc ?_ _|refine Kd.C_drewN ?_ _|refine Kd.C_drew ?_)));(case side2 => exact HC0_0.out);(case side3 => repeat (first|exact (Kd.C_below HR0_1.out HB.out)|(with_reducible first|refine Kd.C_alloc ?_ _|refine Kd.C_drewN ?_ _|refine Kd.C_drew ?_)));(case side4 => exact HC0_1.out);rintro e w14 ⟨rfl,hb⟩;refine ⟨_,rfl,?_⟩;have n0_:=aMx12 (blk_below (g:=gb219) (o:=.cells #[.slice A0_0 l0_0.length c0_0,.slice A0_1 l0_1.length c0_1] 25 (0,0)) (by (with_reducible repeat (first|refine blk_drewN ?_ _|refine blk_drew ?_|refine blk_alloc ?_ _));exact BK219.out) hb);have n1_:=aMx12 (blk_below (g:=gb220) (o:=.cells #[.slice A1_0 l1_0.length c1_0,.slice A1_1 l1_1.length c1_1] 25 (0,0)) (by (with_reducible repeat (first|refine blk_drewN ?_ _|refine blk_drew ?_|refine blk_alloc ?_ _));exact BK220.out) hb);have n2_:=aMx12 (below_step (by repeat (first|(with_reducible first|exact HB.out|apply below_alloc|apply pw_below_drewN|apply below_drew1|refine below_set ?_ GE219.out|refine below_set ?_ GE220.out)|exact HB.out)) hb);clear BK219;clear BK220;clear HB;have BK219:=n0_;have BK220:=n1_;have HB:=n2_;clear n0_ n1_ n2_;(try clear hb);(try clear hb2);(try clear hk);(try clear hi);have hcz15_0 : w14.cell? ⟨gb220,0,none⟩ = some (.slice A1_0 l1_0.length c1_0):=(blk_cell BK220.out 0).trans rfl;have hcz15_1 : w14.cell? ⟨gb220,1,none⟩ = some (.slice A1_1 l1_1.length c1_1):=(blk_cell BK220.out 1).trans rfl;have hfz15_0:=blk_frozen BK220.out 0;have hfz15_1:=blk_frozen BK220.out 1)|(go_at_call 12;(with_reducible refine (lapidarylaw10_long.calls _ _ l1_0 _ _ l1_1 t222 _ ?side1 ?side2 ?side3 ?side4 A11.out).mono ?_);(case side1 => repeat (first|exact (Kd.C_below HR1_0.out HB.out)|(with_reducible first|refine Kd.C_alloc ?_ _|refine Kd.C_drewN ?_ _|refine Kd.C_drew ?_)));(case side2 => exact HC1_0.out);(case side3 => repeat (first|exact (Kd.C_below HR1_1.out HB.out)|(with_reducible first|refine Kd.C_alloc ?_ _|refine Kd.C_drewN ?_ _|refine Kd.C_drew ?_)));(case side4 => exact HC1_1.out);rintro e w16 ⟨rfl,hb⟩;have n0_:=aMx12 (blk_below (g:=gb219) (o:=.cells #[.slice A0_0 l0_0.length c0_0,.slice A0_1 l0_1.length c0_1] 25 (0,0)) (by (with_reducible repeat (first|refine blk_drewN ?_ _|refine blk_drew ?_|refine blk_alloc ?_ _));exact BK219.out) hb);have n1_:=aMx12 (blk_below (g:=gb220) (o:=.cells #[.slice A1_0 l1_0.length c1_0,.slice A1_1 l1_1.length c1_1] 25 (0,0)) (by (with_reducible repeat (first|refine blk_drewN ?_ _|refine blk_drew ?_|refine blk_alloc ?_ _));exact BK220.out) hb);have n2_:=aMx12 (below_step (by repeat (first|(with_reducible first|exact HB.out|apply below_alloc|apply pw_below_drewN|apply below_drew1|refine below_set ?_ GE219.out|refine below_set ?_ GE220.out)|exact HB.out)) hb);clear BK219;clear BK220;clear HB;have BK219:=n0_;have BK220:=n1_;have HB:=n2_;clear n0_ n1_ n2_;(try clear hb);(try clear hb2);(try clear hk);(try clear hi)))
   go_meet
   case rel => exact ⟨_,(t222),(by first | rfl | (simp;done) | (simp [*];done) | (simp [wrap64];done)),H',⟨by first | omega | exact Nat.le_refl _⟩,⟨by (with_reducible repeat (first | refine blk_drewN ?_ _ | refine blk_drew ?_ | refine blk_alloc ?_ _));exact BK219.out⟩,⟨by (with_reducible repeat (first | refine blk_drewN ?_ _ | refine blk_drew ?_ | refine blk_alloc ?_ _));exact BK220.out⟩,⟨by repeat (first | (with_reducible first | exact HB.out | apply below_alloc | apply pw_below_drewN | apply below_drew1 | refine below_set ?_ GE219.out | refine below_set ?_ GE220.out) | exact HB.out)⟩⟩
 case rest =>
  clear HC3
  (try clear c1);(try clear p2);(try clear c7);(try clear c8);(try clear c12);(try clear hcz13_0);(try clear hcz13_1);(try clear hcz15_0);(try clear hcz15_1);(try clear hcz9_0);(try clear hcz9_1);(try clear hfz13_0);(try clear hfz13_1);(try clear hfz15_0);(try clear hfz15_1);(try clear hfz9_0);(try clear hfz9_1)
  obtain ⟨kq,x13_2,rfl,HA,HJ2,BK219,BK220,HB⟩:=hcut
  cases kq with
  | zero => exact absurd HA.out (by simp [lapidarylaw10_MeshSame.j0])
  | succ kj2 =>
   have H:=HA.out
   clear HA
   simp only [lapidarylaw10_MeshSame.j0] at H
   by_cases c17 : x13_2 = true
   ·subst c17
    have H1 : ((lapidarylaw10_known.f).bind fun t223 => (some t223)) = some r:=by rw [if_pos rfl] at H;exact H
    clear H
    have H:=H1
    clear H1
    replace H:=Option.bind_eq_some_iff.mp H
    obtain ⟨t223,A180,H⟩:=H
    replace H : (some t223) = some r:=H
    have A18:=aMx12 A180
    clear A180
    obtain rfl:=Option.some.inj H
    go_wp2_with (first|((with_reducible refine gate_callee (f:=13) rfl ?_);refine goesL_ (some 14) rfl rfl Tryd.func13 (by kernel_rfl) rfl #[] rfl (by (try simp only [List.map_toArray,List.map_cons,List.map_nil]);first|done|rfl|(simp only [List.length_drop,List.length_take];rfl)) ?_;(with_reducible refine (lapidarylaw10_known.calls  t223 _ ?sideG A18.out).mono ?_);(case sideG => exact Kd.C_below HG.out (by repeat (first|(with_reducible first|exact HB.out|apply below_alloc|apply pw_below_drewN|apply below_drew1|refine below_set ?_ GE219.out|refine below_set ?_ GE220.out)|exact HB.out)));rintro e w19 ⟨rfl,hb⟩;refine ⟨_,rfl,?_⟩;have n0_:=aMx12 (blk_below (g:=gb219) (o:=.cells #[.slice A0_0 l0_0.length c0_0,.slice A0_1 l0_1.length c0_1] 25 (0,0)) (by (with_reducible repeat (first|refine blk_drewN ?_ _|refine blk_drew ?_|refine blk_alloc ?_ _));exact BK219.out) hb);have n1_:=aMx12 (blk_below (g:=gb220) (o:=.cells #[.slice A1_0 l1_0.length c1_0,.slice A1_1 l1_1.length c1_1] 25 (0,0)) (by (with_reducible repeat (first|refine blk_drewN ?_ _|refine blk_drew ?_|refine blk_alloc ?_ _));exact BK220.out) hb);have n2_:=aMx12 (below_step (by repeat (first|(with_reducible first|exact HB.out|apply below_alloc|apply pw_below_drewN|apply below_drew1|refine below_set ?_ GE219.out|refine below_set ?_ GE220.out)|exact HB.out)) hb);clear BK219;clear BK220;clear HB;have BK219:=n0_;have BK220:=n1_;have HB:=n2_;clear n0_ n1_ n2_;(try clear hb);(try clear hb2);(try clear hk);(try clear hi)))
    go_ret
    exact ⟨by first | rfl | (simp [errW_none,errW_some]<;>rfl) | (simp [*,errW_none,errW_some]<;>rfl),by repeat (first | (with_reducible first | exact HB.out | apply below_alloc | apply pw_below_drewN | apply below_drew1 | refine below_set ?_ GE219.out | refine below_set ?_ GE220.out) | exact HB.out)⟩
   ·replace c17:=Bool.eq_false_iff.mpr c17
    subst c17
    have H1 : ((mesh_Same.f kj2 l0_0 l0_1 l1_0 l1_1).bind fun t224 => ((mesh_Copy.f l0_0 l0_1).bind fun bt225 => ((lapidaryref10_Same.f kj2 l0_0 l0_1 l1_0 l1_1).bind fun t232 => (if (t224 != t232) = true then (lapidarylaw10_MeshSame.j1 kj2 t224 true l0_0 l0_1 l1_0 l1_1 bt225.1 bt225.2) else ((lapidaryref10_Same.f kj2 bt225.1 bt225.2 l0_0 l0_1).bind fun t233 => (lapidarylaw10_MeshSame.j1 kj2 t224 (!t233) l0_0 l0_1 l1_0 l1_1 bt225.1 bt225.2)))))) = some r:=by rw [if_neg (show ¬ (false = true) by decide)] at H;exact H
    clear H
    have H:=H1
    clear H1
    replace H:=Option.bind_eq_some_iff.mp H
    obtain ⟨t224,A200,H⟩:=H
    replace H : ((mesh_Copy.f l0_0 l0_1).bind fun bt225 => ((lapidaryref10_Same.f kj2 l0_0 l0_1 l1_0 l1_1).bind fun t232 => (if (t224 != t232) = true then (lapidarylaw10_MeshSame.j1 kj2 t224 true l0_0 l0_1 l1_0 l1_1 bt225.1 bt225.2) else ((lapidaryref10_Same.f kj2 bt225.1 bt225.2 l0_0 l0_1).bind fun t233 => (lapidarylaw10_MeshSame.j1 kj2 t224 (!t233) l0_0 l0_1 l1_0 l1_1 bt225.1 bt225.2))))) = some r:=H
    have A20:=aMx12 A200
    clear A200
    replace H:=Option.bind_eq_some_iff.mp H
    obtain ⟨⟨t225,t228⟩,A210,H⟩:=H
    replace H : ((lapidaryref10_Same.f kj2 l0_0 l0_1 l1_0 l1_1).bind fun t232 => (if (t224 != t232) = true then (lapidarylaw10_MeshSame.j1 kj2 t224 true l0_0 l0_1 l1_0 l1_1 t225 t228) else ((lapidaryref10_Same.f kj2 t225 t228 l0_0 l0_1).bind fun t233 => (lapidarylaw10_MeshSame.j1 kj2 t224 (!t233) l0_0 l0_1 l1_0 l1_1 t225 t228)))) = some r:=H
    have A21:=aMx12 A210
    clear A210
    have HC22:=aMx12 H
    clear H
    have hnb23:=NB219_220.out
    have hnc23:=NB220_219.out
    have hcz24_0 : wc.cell? ⟨gb219,0,none⟩ = some (.slice A0_0 l0_0.length c0_0):=(blk_cell BK219.out 0).trans rfl
    have hcz24_1 : wc.cell? ⟨gb219,1,none⟩ = some (.slice A0_1 l0_1.length c0_1):=(blk_cell BK219.out 1).trans rfl
    have hfz24_0:=blk_frozen BK219.out 0
    have hfz24_1:=blk_frozen BK219.out 1
    have hcz25_0 : wc.cell? ⟨gb220,0,none⟩ = some (.slice A1_0 l1_0.length c1_0):=(blk_cell BK220.out 0).trans rfl
    have hcz25_1 : wc.cell? ⟨gb220,1,none⟩ = some (.slice A1_1 l1_1.length c1_1):=(blk_cell BK220.out 1).trans rfl
    have hfz25_0:=blk_frozen BK220.out 0
    have hfz25_1:=blk_frozen BK220.out 1
    go_upto_region 5 with (first | ((with_reducible refine gate_callee (f:=23) rfl ?_);refine goesL_ (some 17) rfl rfl Tryd.func23 (by kernel_rfl) rfl #[.agg #[.slice A0_0 l0_0.length c0_0,.slice A0_1 l0_1.length c0_1],.agg #[.slice A1_0 l1_0.length c1_0,.slice A1_1 l1_1.length c1_1]] rfl (by (try simp only [List.map_toArray,List.map_cons,List.map_nil]);first | done | rfl | (simp only [List.length_drop,List.length_take];rfl)) ?_;(with_reducible refine (mesh_Same.calls kj2 _ _ l0_0 _ _ l0_1 _ _ l1_0 _ _ l1_1 t224 _ ?side1 ?side2 ?side3 ?side4 ?side5 ?side6 ?side7 ?side8 A20.out).mono ?_);(case side1 => repeat (first | exact (Kd.C_below HR0_0.out HB.out) | (with_reducible refine Kd.C_alloc ?_ _) | (with_reducible refine Kd.C_drewN ?_ _) | (with_reducible refine Kd.C_drew ?_)));(case side2 => exact HC0_0.out);(case side3 => repeat (first | exact (Kd.C_below HR0_1.out HB.out) | (with_reducible refine Kd.C_alloc ?_ _) | (with_reducible refine Kd.C_drewN ?_ _) | (with_reducible refine Kd.C_drew ?_)));(case side4 => exact HC0_1.out);(case side5 => repeat (first | exact (Kd.C_below HR1_0.out HB.out) | (with_reducible refine Kd.C_alloc ?_ _) | (with_reducible refine Kd.C_drewN ?_ _) | (with_reducible refine Kd.C_drew ?_)));(case side6 => exact HC1_0.out);(case side7 => repeat (first | exact (Kd.C_below HR1_1.out HB.out) | (with_reducible refine Kd.C_alloc ?_ _) | (with_reducible refine Kd.C_drewN ?_ _) | (with_reducible refine Kd.C_drew ?_)));(case side8 => exact HC1_1.out);rintro e w26 ⟨rfl,hb⟩;refine ⟨_,rfl,?_⟩;have n0_:=aMx12 (blk_below (g:=gb219) (o:=.cells #[.slice A0_0 l0_0.length c0_0,.slice A0_1 l0_1.length c0_1] 25 (0,0)) (by (with_reducible repeat (first | refine blk_drewN ?_ _ | refine blk_drew ?_ | refine blk_alloc ?_ _));exact BK219.out) hb);have n1_:=aMx12 (blk_below (g:=gb220) (o:=.cells #[.slice A1_0 l1_0.length c1_0,.slice A1_1 l1_1.length c1_1] 25 (0,0)) (by (with_reducible repeat (first | refine blk_drewN ?_ _ | refine blk_drew ?_ | refine blk_alloc ?_ _));exact BK220.out) hb);have n2_:=aMx12 (below_step (by repeat (first | (with_reducible first | exact HB.out | apply below_alloc | apply pw_below_drewN | apply below_drew1 | refine below_set ?_ GE219.out | refine below_set ?_ GE220.out) | exact HB.out)) hb);clear BK219;clear BK220;clear HB;have BK219:=n0_;have BK220:=n1_;have HB:=n2_;clear n0_ n1_ n2_;(try clear hb);(try clear hb2);(try clear hk);(try clear hi);have hcz27_0 : w26.cell? ⟨gb219,0,none⟩ = some (.slice A0_0 l0_0.length c0_0):=(blk_cell BK219.out 0).trans rfl;have hcz27_1 : w26.cell? ⟨gb219,1,none⟩ = some (.slice A0_1 l0_1.length c0_1):=(blk_cell BK219.out 1).trans rfl;have hfz27_0:=blk_frozen BK219.out 0;have hfz27_1:=blk_frozen BK219.out 1) | ((with_reducible refine gate_callee (f:=21) rfl ?_);refine goesL_ (some 19) rfl rfl Tryd.func21 (by kernel_rfl) rfl #[.agg #[.slice A0_0 l0_0.length c0_0,.slice A0_1 l0_1.length c0_1]] rfl (by (try simp only [List.map_toArray,List.map_cons,List.map_nil]);first | done | rfl | (simp only [List.length_drop,List.length_take];rfl)) ?_;(with_reducible refine (mesh_Copy.calls _ _ l0_0 _ _ l0_1 t225 t228 _ ?side1 ?side2 ?side3 ?side4 A21.out).mono ?_);(case side1 => repeat (first | exact (Kd.C_below HR0_0.out HB.out) | (with_reducible refine Kd.C_alloc ?_ _) | (with_reducible refine Kd.C_drewN ?_ _) | (with_reducible refine Kd.C_drew ?_)));(case side2 => exact HC0_0.out);(case side3 => repeat (first | exact (Kd.C_below HR0_1.out HB.out) | (with_reducible refine Kd.C_alloc ?_ _) | (with_reducible refine Kd.C_drewN ?_ _) | (with_reducible refine Kd.C_drew ?_)));(case side4 => exact HC0_1.out);rintro e w28 ⟨v226,v229,rfl,ho0,ho1,hb⟩;refine ⟨_,rfl,?_⟩;have n0_:=aMx12 (Kd.R_lower ho0 (below_size (by repeat (first | (with_reducible first | exact HB.out | apply below_alloc | apply pw_below_drewN | apply below_drew1 | refine below_set ?_ GE219.out | refine below_set ?_ GE220.out) | exact HB.out))));have n1_:=aMx12 (Kd.R_lower ho1 (below_size (by repeat (first | (with_reducible first | exact HB.out | apply below_alloc | apply pw_below_drewN | apply below_drew1 | refine below_set ?_ GE219.out | refine below_set ?_ GE220.out) | exact HB.out))));have n2_:=aMx12 (blk_below (g:=gb219) (o:=.cells #[.slice A0_0 l0_0.length c0_0,.slice A0_1 l0_1.length c0_1] 25 (0,0)) (by (with_reducible repeat (first | refine blk_drewN ?_ _ | refine blk_drew ?_ | refine blk_alloc ?_ _));exact BK219.out) hb);have n3_:=aMx12 (blk_below (g:=gb220) (o:=.cells #[.slice A1_0 l1_0.length c1_0,.slice A1_1 l1_1.length c1_1] 25 (0,0)) (by (with_reducible repeat (first | refine blk_drewN ?_ _ | refine blk_drew ?_ | refine blk_alloc ?_ _));exact BK220.out) hb);have n4_:=aMx12 (below_step (by repeat (first | (with_reducible first | exact HB.out | apply below_alloc | apply pw_below_drewN | apply below_drew1 | refine below_set ?_ GE219.out | refine below_set ?_ GE220.out) | exact HB.out)) hb);clear BK219;clear BK220;clear HB;have HO227:=n0_;have HO230:=n1_;have BK219:=n2_;have BK220:=n3_;have HB:=n4_;clear n0_ n1_ n2_ n3_ n4_;(try clear hb);(try clear hb2);(try clear hk);(try clear hi);(try clear ho0);(try clear ho1)) | ((with_reducible refine gate_dst (N:=6) rfl ?_);refine box_event ?hg (N:=6) ?hd (cs:=#[.slice none 0 0,.slice none 0 0]) (t:=25) ?hr ?_;(case hd => rfl);(case hg => rfl);(case hr => first | (go_simp;done) | (go_simp;rfl));intro gb231 hg w29 hbox hb;have n0_:=aMx12 (Kd.R_below (by (with_reducible repeat (first | apply Kd.R_alloc | apply Kd.R_drewN | apply Kd.R_drew));exact HO227.out) hb);have n1_:=aMx12 (Kd.R_below (by (with_reducible repeat (first | apply Kd.R_alloc | apply Kd.R_drewN | apply Kd.R_drew));exact HO230.out) hb);have n2_:=aMx12 (blk_below (g:=gb219) (o:=.cells #[.slice A0_0 l0_0.length c0_0,.slice A0_1 l0_1.length c0_1] 25 (0,0)) (by (with_reducible repeat (first | refine blk_drewN ?_ _ | refine blk_drew ?_ | refine blk_alloc ?_ _));exact BK219.out) hb);have n3_:=aMx12 (blk_below (g:=gb220) (o:=.cells #[.slice A1_0 l1_0.length c1_0,.slice A1_1 l1_1.length c1_1] 25 (0,0)) (by (with_reducible repeat (first | refine blk_drewN ?_ _ | refine blk_drew ?_ | refine blk_alloc ?_ _));exact BK220.out) hb);have n4_:=aMx12 (below_step (by repeat (first | (with_reducible first | exact HB.out | apply below_alloc | apply pw_below_drewN | apply below_drew1 | refine below_set ?_ GE219.out | refine below_set ?_ GE220.out) | exact HB.out)) hb);have n5_:=aMx12 (hbox);have n6_:=aMx12 ((by rw [hg];exact (below_size (by repeat (first | (with_reducible first | exact HB.out | apply below_alloc | apply pw_below_drewN | apply below_drew1 | refine below_set ?_ GE219.out | refine below_set ?_ GE220.out) | exact HB.out))) : w.heap.size ≤ gb231));have n7_:=aMx12 ((by rw [hg];exact (below_size (by repeat (first | (with_reducible first | exact HB.out | apply below_alloc | apply pw_below_drewN | apply below_drew1 | refine below_set ?_ GE219.out | refine below_set ?_ GE220.out) | exact HB.out))) : w.heap.size ≤ gb231));have n8_:=aMx12 ((by rw [hg];exact Nat.ne_of_lt (blk_lt (g:=gb219) (o:=.cells #[.slice A0_0 l0_0.length c0_0,.slice A0_1 l0_1.length c0_1] 25 (0,0)) (by (with_reducible repeat (first | refine blk_drewN ?_ _ | refine blk_drew ?_ | refine blk_alloc ?_ _));exact BK219.out)) : gb219 ≠ gb231));have n9_:=aMx12 ((by rw [hg];exact Nat.ne_of_gt (blk_lt (g:=gb219) (o:=.cells #[.slice A0_0 l0_0.length c0_0,.slice A0_1 l0_1.length c0_1] 25 (0,0)) (by (with_reducible repeat (first | refine blk_drewN ?_ _ | refine blk_drew ?_ | refine blk_alloc ?_ _));exact BK219.out)) : gb231 ≠ gb219));have n10_:=aMx12 ((by rw [hg];exact Nat.ne_of_lt (blk_lt (g:=gb220) (o:=.cells #[.slice A1_0 l1_0.length c1_0,.slice A1_1 l1_1.length c1_1] 25 (0,0)) (by (with_reducible repeat (first | refine blk_drewN ?_ _ | refine blk_drew ?_ | refine blk_alloc ?_ _));exact BK220.out)) : gb220 ≠ gb231));have n11_:=aMx12 ((by rw [hg];exact Nat.ne_of_gt (blk_lt (g:=gb220) (o:=.cells #[.slice A1_0 l1_0.length c1_0,.slice A1_1 l1_1.length c1_1] 25 (0,0)) (by (with_reducible repeat (first | refine blk_drewN ?_ _ | refine blk_drew ?_ | refine blk_alloc ?_ _));exact BK220.out)) : gb231 ≠ gb220));clear HO227;clear HO230;clear BK219;clear BK220;clear HB;have HO227:=n0_;have HO230:=n1_;have BK219:=n2_;have BK220:=n3_;have HB:=n4_;have BK231:=n5_;have GW231:=n6_;have GE231:=n7_;have NB219_231:=n8_;have NB231_219:=n9_;have NB220_231:=n10_;have NB231_220:=n11_;clear n0_ n1_ n2_ n3_ n4_ n5_ n6_ n7_ n8_ n9_ n10_ n11_;clear hb hbox hg;obtain ⟨Ao30,co30,eo30⟩:=Kd.R_slice HO227.out;subst eo30;have hnb31:=NB231_219.out;have hnc31:=NB219_231.out;have hnb32:=NB231_220.out;have hnc32:=NB220_231.out;have hcz33_0 : w29.cell? ⟨gb231,0,none⟩ = some (.slice none 0 0):=(blk_cell BK231.out 0).trans rfl;have hcz33_1 : w29.cell? ⟨gb231,1,none⟩ = some (.slice none 0 0):=(blk_cell BK231.out 1).trans rfl;have hfz33_0:=blk_frozen BK231.out 0;have hfz33_1:=blk_frozen BK231.out 1;obtain ⟨Ao34,co34,eo34⟩:=Kd.R_slice HO230.out;subst eo34))
    (try simp only [Act.put,sAx12,sBx12,sCx12])
    go_cut [30] (fun v30 wc => ∃ (kq : Nat) (x30_21 : Bool),v30 = .bool x30_21 ∧ Aside0 (lapidarylaw10_MeshSame.j1 kq t224 x30_21 l0_0 l0_1 l1_0 l1_1 t225 t228 = some r) ∧ Aside0 (kq ≤ kj2) ∧ Aside0 (Kd.R k55 55 wc w.heap.size (fun _ => True) (.slice Ao30 t225.length co30) t225) ∧ Aside0 (Kd.R k36 36 wc w.heap.size (fun _ => True) (.slice Ao34 t228.length co34) t228) ∧ Aside0 (wc.heap[gb219]? = some (.cells #[(.slice A0_0 l0_0.length c0_0),(.slice A0_1 l0_1.length c0_1)] 25 (0,0))) ∧ Aside0 (wc.heap[gb220]? = some (.cells #[(.slice A1_0 l1_0.length c1_0),(.slice A1_1 l1_1.length c1_1)] 25 (0,0))) ∧ Aside0 (wc.heap[gb231]? = some (.cells #[(.slice Ao30 t225.length co30),(.slice Ao34 t228.length co34)] 25 (0,0))) ∧ Aside0 (Below w.heap.size w wc))
    case first =>
     have H:=HC22.out
     clear HC22
     replace H:=Option.bind_eq_some_iff.mp H
     obtain ⟨t232,A350,H⟩:=H
     replace H : (if (t224 != t232) = true then (lapidarylaw10_MeshSame.j1 kj2 t224 true l0_0 l0_1 l1_0 l1_1 t225 t228) else ((lapidaryref10_Same.f kj2 t225 t228 l0_0 l0_1).bind fun t233 => (lapidarylaw10_MeshSame.j1 kj2 t224 (!t233) l0_0 l0_1 l1_0 l1_1 t225 t228))) = some r:=H
     have A35:=aMx12 A350
     clear A350
     by_cases c36 : (t224 != t232) = true
     ·rw [if_pos c36] at H
      have c36b0 : (t224 != t232) = true:=c36
      (try (have c36b1 : decide (t224 = t232) = false:=by simpa using c36))
      (try (have c36b2 : (t224 == t232) = false:=by simpa using c36))
      (try (have c36b3 : ¬ (t224 = t232):=by simpa using c36))
      clear c36
      (first | rw [c36b0] | (simp only [i64_w,i32_w];rw [c36b0]) | skip)
      have H':=aMx12 H
      clear H
      have hnb37:=NB219_220.out
      have hnc37:=NB220_219.out
      have hnb38:=NB219_231.out
      have hnc38:=NB231_219.out
      have hcz39_0 : w29.cell? ⟨gb219,0,none⟩ = some (.slice A0_0 l0_0.length c0_0):=(blk_cell BK219.out 0).trans rfl
      have hcz39_1 : w29.cell? ⟨gb219,1,none⟩ = some (.slice A0_1 l0_1.length c0_1):=(blk_cell BK219.out 1).trans rfl
      have hfz39_0:=blk_frozen BK219.out 0
      have hfz39_1:=blk_frozen BK219.out 1
      have hnb40:=NB220_231.out
      have hnc40:=NB231_220.out
      have hcz41_0 : w29.cell? ⟨gb220,0,none⟩ = some (.slice A1_0 l1_0.length c1_0):=(blk_cell BK220.out 0).trans rfl
      have hcz41_1 : w29.cell? ⟨gb220,1,none⟩ = some (.slice A1_1 l1_1.length c1_1):=(blk_cell BK220.out 1).trans rfl
      have hfz41_0:=blk_frozen BK220.out 0
      have hfz41_1:=blk_frozen BK220.out 1
      go_wp2_with (first|((with_reducible refine gate_callee (f:=24) rfl ?_);refine goesL_ (some 23) rfl rfl Tryd.func24 (by kernel_rfl) rfl #[.agg #[.slice A0_0 l0_0.length c0_0,.slice A0_1 l0_1.length c0_1],.agg #[.slice A1_0 l1_0.length c1_0,.slice A1_1 l1_1.length c1_1]] rfl (by (try simp only [List.map_toArray,List.map_cons,List.map_nil]);first|done|rfl|(simp only [List.length_drop,List.length_take];rfl)) ?_;(with_reducible refine (lapidaryref10_Same.calls kj2 _ _ l0_0 _ _ l0_1 _ _ l1_0 _ _ l1_1 t232 _ ?side1 ?side2 ?side3 ?side4 ?side5 ?side6 ?side7 ?side8 A35.out).mono ?_);(case side1 => exact Kd.C_below HR0_0.out (by repeat (first|(with_reducible first|exact HB.out|apply below_alloc|apply pw_below_drewN|apply below_drew1|refine below_set ?_ GE219.out|refine below_set ?_ GE220.out|refine below_set ?_ GE231.out)|exact HB.out)));(case side2 => exact HC0_0.out);(case side3 => exact Kd.C_below HR0_1.out (by repeat (first|(with_reducible first|exact HB.out|apply below_alloc|apply pw_below_drewN|apply below_drew1|refine below_set ?_ GE219.out|refine below_set ?_ GE220.out|refine below_set ?_ GE231.out)|exact HB.out)));(case side4 => exact HC0_1.out);(case side5 => exact Kd.C_below HR1_0.out (by repeat (first|(with_reducible first|exact HB.out|apply below_alloc|apply pw_below_drewN|apply below_drew1|refine below_set ?_ GE219.out|refine below_set ?_ GE220.out|refine below_set ?_ GE231.out)|exact HB.out)));(case side6 => exact HC1_0.out);(case side7 => exact Kd.C_below HR1_1.out (by repeat (first|(with_reducible first|exact HB.out|apply below_alloc|apply pw_below_drewN|apply below_drew1|refine below_set ?_ GE219.out|refine below_set ?_ GE220.out|refine below_set ?_ GE231.out)|exact HB.out)));(case side8 => exact HC1_1.out);rintro e w42 ⟨rfl,hb⟩;refine ⟨_,rfl,?_⟩;have n0_:=aMx12 (Kd.R_below (by (with_reducible repeat (first|apply Kd.R_alloc|apply Kd.R_drewN|apply Kd.R_drew));exact (Kd.R_mono (Kd.R_far (p:=⟨gb231,1,none⟩) (Kd.R_far (p:=⟨gb231,0,none⟩) (Kd.R_types HO227.out BK231.out (by decide)) (fun _ hk => hk.2) (.slice Ao30 t225.length co30)) (fun _ hk => hk.2) (.slice Ao34 t228.length co34)) (fun _ h_ => h_.1))) hb);have n1_:=aMx12 (Kd.R_below (by (with_reducible repeat (first|apply Kd.R_alloc|apply Kd.R_drewN|apply Kd.R_drew));exact (Kd.R_mono (Kd.R_far (p:=⟨gb231,1,none⟩) (Kd.R_far (p:=⟨gb231,0,none⟩) (Kd.R_types HO230.out BK231.out (by decide)) (fun _ hk => hk.2) (.slice Ao30 t225.length co30)) (fun _ hk => hk.2) (.slice Ao34 t228.length co34)) (fun _ h_ => h_.1))) hb);have n2_:=aMx12 (blk_below (g:=gb219) (o:=.cells #[.slice A0_0 l0_0.length c0_0,.slice A0_1 l0_1.length c0_1] 25 (0,0)) (by (with_reducible repeat (first|refine blk_drewN ?_ _|refine blk_drew ?_|refine blk_alloc ?_ _));refine blk_far ?_ NB219_231.out _;(with_reducible repeat (first|refine blk_drewN ?_ _|refine blk_drew ?_|refine blk_alloc ?_ _));refine blk_far ?_ NB219_231.out _;(with_reducible repeat (first|refine blk_drewN ?_ _|refine blk_drew ?_|refine blk_alloc ?_ _));exact BK219.out) hb);have n3_:=aMx12 (blk_below (g:=gb220) (o:=.cells #[.slice A1_0 l1_0.length c1_0,.slice A1_1 l1_1.length c1_1] 25 (0,0)) (by (with_reducible repeat (first|refine blk_drewN ?_ _|refine blk_drew ?_|refine blk_alloc ?_ _));refine blk_far ?_ NB220_231.out _;(with_reducible repeat (first|refine blk_drewN ?_ _|refine blk_drew ?_|refine blk_alloc ?_ _));refine blk_far ?_ NB220_231.out _;(with_reducible repeat (first|refine blk_drewN ?_ _|refine blk_drew ?_|refine blk_alloc ?_ _));exact BK220.out) hb);have n4_:=aMx12 (blk_below (g:=gb231) (o:=.cells #[.slice Ao30 t225.length co30,.slice Ao34 t228.length co34] 25 (0,0)) (by (with_reducible repeat (first|refine blk_drewN ?_ _|refine blk_drew ?_|refine blk_alloc ?_ _));refine blk_put (cs:=#[.slice Ao30 t225.length co30,.slice none 0 0]) ?_ 1 _ rfl;(with_reducible repeat (first|refine blk_drewN ?_ _|refine blk_drew ?_|refine blk_alloc ?_ _));refine blk_put (cs:=#[.slice none 0 0,.slice none 0 0]) ?_ 0 _ rfl;(with_reducible repeat (first|refine blk_drewN ?_ _|refine blk_drew ?_|refine blk_alloc ?_ _));exact BK231.out) hb);have n5_:=aMx12 (below_step (by repeat (first|(with_reducible first|exact HB.out|apply below_alloc|apply pw_below_drewN|apply below_drew1|refine below_set ?_ GE219.out|refine below_set ?_ GE220.out|refine below_set ?_ GE231.out)|exact HB.out)) hb);clear HO227;clear HO230;clear BK219;clear BK220;clear BK231;clear HB;have HO227:=n0_;have HO230:=n1_;have BK219:=n2_;have BK220:=n3_;have BK231:=n4_;have HB:=n5_;clear n0_ n1_ n2_ n3_ n4_ n5_;(try clear hb);(try clear hb2);(try clear hk);(try clear hi)))
      go_meet
      case rel => exact ⟨_,(true),(by first | rfl | (simp;done) | (simp [*];done) | (simp [wrap64];done)),H',⟨by have:=HJ2.out;first | omega | exact Nat.le_refl _⟩,⟨by (with_reducible repeat (first | apply Kd.R_alloc | apply Kd.R_drewN | apply Kd.R_drew));exact HO227.out⟩,⟨by (with_reducible repeat (first | apply Kd.R_alloc | apply Kd.R_drewN | apply Kd.R_drew));exact HO230.out⟩,⟨by (with_reducible repeat (first | refine blk_drewN ?_ _ | refine blk_drew ?_ | refine blk_alloc ?_ _));exact BK219.out⟩,⟨by (with_reducible repeat (first | refine blk_drewN ?_ _ | refine blk_drew ?_ | refine blk_alloc ?_ _));exact BK220.out⟩,⟨by (with_reducible repeat (first | refine blk_drewN ?_ _ | refine blk_drew ?_ | refine blk_alloc ?_ _));exact BK231.out⟩,⟨by repeat (first | (with_reducible first | exact HB.out | apply below_alloc | apply pw_below_drewN | apply below_drew1 | refine below_set ?_ GE219.out | refine below_set ?_ GE220.out | refine below_set ?_ GE231.out) | exact HB.out)⟩⟩
     ·rw [if_neg c36] at H
      have c36b0 : (t224 != t232) = false:=by simpa using c36
      (try (have c36b1 : decide (t224 = t232) = true:=by simpa using c36))
      (try (have c36b2 : (t224 == t232) = true:=by simpa using c36))
      clear c36
      (first | rw [c36b0] | (simp only [i64_w,i32_w];rw [c36b0]) | skip)
      replace H:=Option.bind_eq_some_iff.mp H
      obtain ⟨t233,A430,H⟩:=H
      replace H : (lapidarylaw10_MeshSame.j1 kj2 t224 (!t233) l0_0 l0_1 l1_0 l1_1 t225 t228) = some r:=H
      have A43:=aMx12 A430
      clear A430
      have H':=aMx12 H
      clear H
      have hnb44:=NB219_220.out
      have hnc44:=NB220_219.out
      have hnb45:=NB219_231.out
      have hnc45:=NB231_219.out
      have hcz46_0 : w29.cell? ⟨gb219,0,none⟩ = some (.slice A0_0 l0_0.length c0_0):=(blk_cell BK219.out 0).trans rfl
      have hcz46_1 : w29.cell? ⟨gb219,1,none⟩ = some (.slice A0_1 l0_1.length c0_1):=(blk_cell BK219.out 1).trans rfl
      have hfz46_0:=blk_frozen BK219.out 0
      have hfz46_1:=blk_frozen BK219.out 1
      have hnb47:=NB220_231.out
      have hnc47:=NB231_220.out
      have hcz48_0 : w29.cell? ⟨gb220,0,none⟩ = some (.slice A1_0 l1_0.length c1_0):=(blk_cell BK220.out 0).trans rfl
      have hcz48_1 : w29.cell? ⟨gb220,1,none⟩ = some (.slice A1_1 l1_1.length c1_1):=(blk_cell BK220.out 1).trans rfl
      have hfz48_0:=blk_frozen BK220.out 0
      have hfz48_1:=blk_frozen BK220.out 1
      go_wp2_with (first|((with_reducible refine gate_callee (f:=24) rfl ?_);refine goesL_ (some 23) rfl rfl Tryd.func24 (by kernel_rfl) rfl #[.agg #[.slice A0_0 l0_0.length c0_0,.slice A0_1 l0_1.length c0_1],.agg #[.slice A1_0 l1_0.length c1_0,.slice A1_1 l1_1.length c1_1]] rfl (by (try simp only [List.map_toArray,List.map_cons,List.map_nil]);first|done|rfl|(simp only [List.length_drop,List.length_take];rfl)) ?_;(with_reducible refine (lapidaryref10_Same.calls kj2 _ _ l0_0 _ _ l0_1 _ _ l1_0 _ _ l1_1 t232 _ ?side1 ?side2 ?side3 ?side4 ?side5 ?side6 ?side7 ?side8 A35.out).mono ?_);(case side1 => exact Kd.C_below HR0_0.out (by repeat (first|(with_reducible first|exact HB.out|apply below_alloc|apply pw_below_drewN|apply below_drew1|refine below_set ?_ GE219.out|refine below_set ?_ GE220.out|refine below_set ?_ GE231.out)|exact HB.out)));(case side2 => exact HC0_0.out);(case side3 => exact Kd.C_below HR0_1.out (by repeat (first|(with_reducible first|exact HB.out|apply below_alloc|apply pw_below_drewN|apply below_drew1|refine below_set ?_ GE219.out|refine below_set ?_ GE220.out|refine below_set ?_ GE231.out)|exact HB.out)));(case side4 => exact HC0_1.out);(case side5 => exact Kd.C_below HR1_0.out (by repeat (first|(with_reducible first|exact HB.out|apply below_alloc|apply pw_below_drewN|apply below_drew1|refine below_set ?_ GE219.out|refine below_set ?_ GE220.out|refine below_set ?_ GE231.out)|exact HB.out)));(case side6 => exact HC1_0.out);(case side7 => exact Kd.C_below HR1_1.out (by repeat (first|(with_reducible first|exact HB.out|apply below_alloc|apply pw_below_drewN|apply below_drew1|refine below_set ?_ GE219.out|refine below_set ?_ GE220.out|refine below_set ?_ GE231.out)|exact HB.out)));(case side8 => exact HC1_1.out);rintro e w49 ⟨rfl,hb⟩;refine ⟨_,rfl,?_⟩;have n0_:=aMx12 (Kd.R_below (by (with_reducible repeat (first|apply Kd.R_alloc|apply Kd.R_drewN|apply Kd.R_drew));exact (Kd.R_mono (Kd.R_far (p:=⟨gb231,1,none⟩) (Kd.R_far (p:=⟨gb231,0,none⟩) (Kd.R_types HO227.out BK231.out (by decide)) (fun _ hk => hk.2) (.slice Ao30 t225.length co30)) (fun _ hk => hk.2) (.slice Ao34 t228.length co34)) (fun _ h_ => h_.1))) hb);have n1_:=aMx12 (Kd.R_below (by (with_reducible repeat (first|apply Kd.R_alloc|apply Kd.R_drewN|apply Kd.R_drew));exact (Kd.R_mono (Kd.R_far (p:=⟨gb231,1,none⟩) (Kd.R_far (p:=⟨gb231,0,none⟩) (Kd.R_types HO230.out BK231.out (by decide)) (fun _ hk => hk.2) (.slice Ao30 t225.length co30)) (fun _ hk => hk.2) (.slice Ao34 t228.length co34)) (fun _ h_ => h_.1))) hb);have n2_:=aMx12 (blk_below (g:=gb219) (o:=.cells #[.slice A0_0 l0_0.length c0_0,.slice A0_1 l0_1.length c0_1] 25 (0,0)) (by (with_reducible repeat (first|refine blk_drewN ?_ _|refine blk_drew ?_|refine blk_alloc ?_ _));refine blk_far ?_ NB219_231.out _;(with_reducible repeat (first|refine blk_drewN ?_ _|refine blk_drew ?_|refine blk_alloc ?_ _));refine blk_far ?_ NB219_231.out _;(with_reducible repeat (first|refine blk_drewN ?_ _|refine blk_drew ?_|refine blk_alloc ?_ _));exact BK219.out) hb);have n3_:=aMx12 (blk_below (g:=gb220) (o:=.cells #[.slice A1_0 l1_0.length c1_0,.slice A1_1 l1_1.length c1_1] 25 (0,0)) (by (with_reducible repeat (first|refine blk_drewN ?_ _|refine blk_drew ?_|refine blk_alloc ?_ _));refine blk_far ?_ NB220_231.out _;(with_reducible repeat (first|refine blk_drewN ?_ _|refine blk_drew ?_|refine blk_alloc ?_ _));refine blk_far ?_ NB220_231.out _;(with_reducible repeat (first|refine blk_drewN ?_ _|refine blk_drew ?_|refine blk_alloc ?_ _));exact BK220.out) hb);have n4_:=aMx12 (blk_below (g:=gb231) (o:=.cells #[.slice Ao30 t225.length co30,.slice Ao34 t228.length co34] 25 (0,0)) (by (with_reducible repeat (first|refine blk_drewN ?_ _|refine blk_drew ?_|refine blk_alloc ?_ _));refine blk_put (cs:=#[.slice Ao30 t225.length co30,.slice none 0 0]) ?_ 1 _ rfl;(with_reducible repeat (first|refine blk_drewN ?_ _|refine blk_drew ?_|refine blk_alloc ?_ _));refine blk_put (cs:=#[.slice none 0 0,.slice none 0 0]) ?_ 0 _ rfl;(with_reducible repeat (first|refine blk_drewN ?_ _|refine blk_drew ?_|refine blk_alloc ?_ _));exact BK231.out) hb);have n5_:=aMx12 (below_step (by repeat (first|(with_reducible first|exact HB.out|apply below_alloc|apply pw_below_drewN|apply below_drew1|refine below_set ?_ GE219.out|refine below_set ?_ GE220.out|refine below_set ?_ GE231.out)|exact HB.out)) hb);clear HO227;clear HO230;clear BK219;clear BK220;clear BK231;clear HB;have HO227:=n0_;have HO230:=n1_;have BK219:=n2_;have BK220:=n3_;have BK231:=n4_;have HB:=n5_;clear n0_ n1_ n2_ n3_ n4_ n5_;(try clear hb);(try clear hb2);(try clear hk);(try clear hi);have hcz50_0 : w49.cell? ⟨gb231,0,none⟩ = some (.slice Ao30 t225.length co30):=(blk_cell BK231.out 0).trans rfl;have hcz50_1 : w49.cell? ⟨gb231,1,none⟩ = some (.slice Ao34 t228.length co34):=(blk_cell BK231.out 1).trans rfl;have hfz50_0:=blk_frozen BK231.out 0;have hfz50_1:=blk_frozen BK231.out 1;have hcz51_0 : w49.cell? ⟨gb219,0,none⟩ = some (.slice A0_0 l0_0.length c0_0):=(blk_cell BK219.out 0).trans rfl;have hcz51_1 : w49.cell? ⟨gb219,1,none⟩ = some (.slice A0_1 l0_1.length c0_1):=(blk_cell BK219.out 1).trans rfl;have hfz51_0:=blk_frozen BK219.out 0;have hfz51_1:=blk_frozen BK219.out 1)|(go_at_call 24;(with_reducible refine (lapidaryref10_Same.calls kj2 _ _ t225 _ _ t228 _ _ l0_0 _ _ l0_1 t233 _ ?side1 ?side2 ?side3 ?side4 ?side5 ?side6 ?side7 ?side8 A43.out).mono ?_);(case side1 => repeat (first|exact (Kd.R_reads' HO227.out).2.2|(with_reducible first|refine Kd.C_alloc ?_ _|refine Kd.C_drewN ?_ _|refine Kd.C_drew ?_)));(case side2 => exact (Kd.R_reads' HO227.out).2.1);(case side3 => repeat (first|exact (Kd.R_reads' HO230.out).2.2|(with_reducible first|refine Kd.C_alloc ?_ _|refine Kd.C_drewN ?_ _|refine Kd.C_drew ?_)));(case side4 => exact (Kd.R_reads' HO230.out).2.1);(case side5 => repeat (first|exact (Kd.C_below HR0_0.out HB.out)|(with_reducible first|refine Kd.C_alloc ?_ _|refine Kd.C_drewN ?_ _|refine Kd.C_drew ?_)));(case side6 => exact HC0_0.out);(case side7 => repeat (first|exact (Kd.C_below HR0_1.out HB.out)|(with_reducible first|refine Kd.C_alloc ?_ _|refine Kd.C_drewN ?_ _|refine Kd.C_drew ?_)));(case side8 => exact HC0_1.out);rintro e w52 ⟨rfl,hb⟩;have n0_:=aMx12 (Kd.R_below (by (with_reducible repeat (first|apply Kd.R_alloc|apply Kd.R_drewN|apply Kd.R_drew));exact HO227.out) hb);have n1_:=aMx12 (Kd.R_below (by (with_reducible repeat (first|apply Kd.R_alloc|apply Kd.R_drewN|apply Kd.R_drew));exact HO230.out) hb);have n2_:=aMx12 (blk_below (g:=gb219) (o:=.cells #[.slice A0_0 l0_0.length c0_0,.slice A0_1 l0_1.length c0_1] 25 (0,0)) (by (with_reducible repeat (first|refine blk_drewN ?_ _|refine blk_drew ?_|refine blk_alloc ?_ _));exact BK219.out) hb);have n3_:=aMx12 (blk_below (g:=gb220) (o:=.cells #[.slice A1_0 l1_0.length c1_0,.slice A1_1 l1_1.length c1_1] 25 (0,0)) (by (with_reducible repeat (first|refine blk_drewN ?_ _|refine blk_drew ?_|refine blk_alloc ?_ _));exact BK220.out) hb);have n4_:=aMx12 (blk_below (g:=gb231) (o:=.cells #[.slice Ao30 t225.length co30,.slice Ao34 t228.length co34] 25 (0,0)) (by (with_reducible repeat (first|refine blk_drewN ?_ _|refine blk_drew ?_|refine blk_alloc ?_ _));exact BK231.out) hb);have n5_:=aMx12 (below_step (by repeat (first|(with_reducible first|exact HB.out|apply below_alloc|apply pw_below_drewN|apply below_drew1|refine below_set ?_ GE219.out|refine below_set ?_ GE220.out|refine below_set ?_ GE231.out)|exact HB.out)) hb);clear HO227;clear HO230;clear BK219;clear BK220;clear BK231;clear HB;have HO227:=n0_;have HO230:=n1_;have BK219:=n2_;have BK220:=n3_;have BK231:=n4_;have HB:=n5_;clear n0_ n1_ n2_ n3_ n4_ n5_;(try clear hb);(try clear hb2);(try clear hk);(try clear hi)))
      go_meet
      case rel => exact ⟨_,(!t233),(by first | rfl | (simp;done) | (simp [*];done) | (simp [wrap64];done)),H',⟨by have:=HJ2.out;first | omega | exact Nat.le_refl _⟩,⟨by (with_reducible repeat (first | apply Kd.R_alloc | apply Kd.R_drewN | apply Kd.R_drew));exact HO227.out⟩,⟨by (with_reducible repeat (first | apply Kd.R_alloc | apply Kd.R_drewN | apply Kd.R_drew));exact HO230.out⟩,⟨by (with_reducible repeat (first | refine blk_drewN ?_ _ | refine blk_drew ?_ | refine blk_alloc ?_ _));exact BK219.out⟩,⟨by (with_reducible repeat (first | refine blk_drewN ?_ _ | refine blk_drew ?_ | refine blk_alloc ?_ _));exact BK220.out⟩,⟨by (with_reducible repeat (first | refine blk_drewN ?_ _ | refine blk_drew ?_ | refine blk_alloc ?_ _));exact BK231.out⟩,⟨by repeat (first | (with_reducible first | exact HB.out | apply below_alloc | apply pw_below_drewN | apply below_drew1 | refine below_set ?_ GE219.out | refine below_set ?_ GE220.out | refine below_set ?_ GE231.out) | exact HB.out)⟩⟩
    case rest =>
     clear HC22
     (try clear c1);(try clear c2);(try clear p2);(try clear c3);(try clear c4);(try clear c7);(try clear c8);(try clear c12);(try clear c13);(try clear c17);(try clear c21);(try clear c23);(try clear c24);(try clear c31);(try clear c32);(try clear c36);(try clear c36b0);(try clear c36b1);(try clear c36b2);(try clear c37);(try clear c38);(try clear c40);(try clear c44);(try clear c45);(try clear c47);(try clear hcz13_0);(try clear hcz13_1);(try clear hcz15_0);(try clear hcz15_1);(try clear hcz24_0);(try clear hcz24_1);(try clear hcz25_0);(try clear hcz25_1);(try clear hcz27_0);(try clear hcz27_1);(try clear hcz33_0);(try clear hcz33_1);(try clear hcz39_0);(try clear hcz39_1);(try clear hcz41_0);(try clear hcz41_1);(try clear hcz46_0);(try clear hcz46_1);(try clear hcz48_0);(try clear hcz48_1);(try clear hcz50_0);(try clear hcz50_1);(try clear hcz51_0);(try clear hcz51_1);(try clear hcz9_0);(try clear hcz9_1);(try clear hfz13_0);(try clear hfz13_1);(try clear hfz15_0);(try clear hfz15_1);(try clear hfz24_0);(try clear hfz24_1);(try clear hfz25_0);(try clear hfz25_1);(try clear hfz27_0);(try clear hfz27_1);(try clear hfz33_0);(try clear hfz33_1);(try clear hfz39_0);(try clear hfz39_1);(try clear hfz41_0);(try clear hfz41_1);(try clear hfz46_0);(try clear hfz46_1);(try clear hfz48_0);(try clear hfz48_1);(try clear hfz50_0);(try clear hfz50_1);(try clear hfz51_0);(try clear hfz51_1);(try clear hfz9_0);(try clear hfz9_1);(try clear p2)
     obtain ⟨kq,x30_21,rfl,HA,HJ21,HO_232000,HO_232001,BK219,BK220,BK231,HB⟩:=hcut
     cases kq with
     | zero => exact absurd HA.out (by simp [lapidarylaw10_MeshSame.j1])
     | succ kj21 =>
      have H:=HA.out
      clear HA
      simp only [lapidarylaw10_MeshSame.j1] at H
      by_cases c53 : x30_21 = true
      ·subst c53
       have H1 : (some false) = some r:=by rw [if_pos rfl] at H;exact H
       exact absurd (Option.some.inj H1) (by rw [HRT.out];decide)
      ·replace c53:=Bool.eq_false_iff.mpr c53
       subst c53
       have H1 : (lapidarylaw10_MeshSame.l0 kj21 t224 0 l0_0 l0_1 l1_0 l1_1 t225 t228) = some r:=by rw [if_neg (show ¬ (false = true) by decide)] at H;exact H
       clear H
       have H:=H1
       clear H1
       have H':=aMx12 H
       clear H
       go_wp2
       go_loopg [7] kj21 (fun kq v7 w' => ∃ (x7_3 : Int) (x232001_3 : List (S36)) (u232001 : Value),v7 = .int .i64 x7_3 ∧ Aside0 (lapidarylaw10_MeshSame.l0 kq t224 x7_3 l0_0 l0_1 l1_0 l1_1 t225 x232001_3 = some r) ∧ Aside0 (kq ≤ kj21) ∧ Aside0 (Kd.R k55 55 w' w.heap.size (fun _ => True) (.slice Ao30 t225.length co30) t225) ∧ Aside0 (Kd.R k36 36 w' w.heap.size (fun _ => True) u232001 x232001_3) ∧ Aside0 (w'.heap[gb219]? = some (.cells #[(.slice A0_0 l0_0.length c0_0),(.slice A0_1 l0_1.length c0_1)] 25 (0,0))) ∧ Aside0 (w'.heap[gb220]? = some (.cells #[(.slice A1_0 l1_0.length c1_0),(.slice A1_1 l1_1.length c1_1)] 25 (0,0))) ∧ Aside0 (w'.heap[gb231]? = some (.cells #[(.slice Ao30 t225.length co30),u232001] 25 (0,0))) ∧ Aside0 (Below w.heap.size w w'))
       case atStart => exact ⟨(0),(t228),(.slice Ao34 t228.length co34),(by first | rfl | (simp;done) | (simp [*];done) | (simp [wrap64];done)),H',⟨Nat.le_refl _⟩,⟨by (with_reducible repeat (first | apply Kd.R_alloc | apply Kd.R_drewN | apply Kd.R_drew));exact HO_232000.out⟩,⟨by (with_reducible repeat (first | apply Kd.R_alloc | apply Kd.R_drewN | apply Kd.R_drew));exact HO_232001.out⟩,⟨by (with_reducible repeat (first | refine blk_drewN ?_ _ | refine blk_drew ?_ | refine blk_alloc ?_ _));exact BK219.out⟩,⟨by (with_reducible repeat (first | refine blk_drewN ?_ _ | refine blk_drew ?_ | refine blk_alloc ?_ _));exact BK220.out⟩,⟨by (with_reducible repeat (first | refine blk_drewN ?_ _ | refine blk_drew ?_ | refine blk_alloc ?_ _));exact BK231.out⟩,⟨by repeat (first | (with_reducible first | exact HB.out | apply below_alloc | apply pw_below_drewN | apply below_drew1 | refine below_set ?_ GE219.out | refine below_set ?_ GE220.out | refine below_set ?_ GE231.out) | exact HB.out)⟩⟩
       case round =>
        clear H'
        (try clear c1);(try clear c2);(try clear p2);(try clear c3);(try clear c4);(try clear c5);(try clear c7);(try clear c8);(try clear c12);(try clear c13);(try clear c17);(try clear c21);(try clear c23);(try clear c24);(try clear c31);(try clear c32);(try clear c36);(try clear c36b0);(try clear c36b1);(try clear c36b2);(try clear c37);(try clear c38);(try clear c40);(try clear c44);(try clear c45);(try clear c47);(try clear c53);(try clear hcz13_0);(try clear hcz13_1);(try clear hcz15_0);(try clear hcz15_1);(try clear hcz24_0);(try clear hcz24_1);(try clear hcz25_0);(try clear hcz25_1);(try clear hcz27_0);(try clear hcz27_1);(try clear hcz33_0);(try clear hcz33_1);(try clear hcz39_0);(try clear hcz39_1);(try clear hcz41_0);(try clear hcz41_1);(try clear hcz46_0);(try clear hcz46_1);(try clear hcz48_0);(try clear hcz48_1);(try clear hcz50_0);(try clear hcz50_1);(try clear hcz51_0);(try clear hcz51_1);(try clear hcz9_0);(try clear hcz9_1);(try clear hfz13_0);(try clear hfz13_1);(try clear hfz15_0);(try clear hfz15_1);(try clear hfz24_0);(try clear hfz24_1);(try clear hfz25_0);(try clear hfz25_1);(try clear hfz27_0);(try clear hfz27_1);(try clear hfz33_0);(try clear hfz33_1);(try clear hfz39_0);(try clear hfz39_1);(try clear hfz41_0);(try clear hfz41_1);(try clear hfz46_0);(try clear hfz46_1);(try clear hfz48_0);(try clear hfz48_1);(try clear hfz50_0);(try clear hfz50_1);(try clear hfz51_0);(try clear hfz51_1);(try clear hfz9_0);(try clear hfz9_1);(try clear p2)
        obtain ⟨x7_3,x232001_3,u232001,rfl,HA,HK3,HO_232000,HO_232001,BK219,BK220,BK231,HB⟩:=hrel
        cases gk with
        | zero => exact absurd HA.out (by simp [lapidarylaw10_MeshSame.l0])
        | succ k3 =>
         have H:=HA.out
         clear HA
         simp only [lapidarylaw10_MeshSame.l0] at H
         by_cases c54 : x7_3 < (x232001_3.length : Int)
         ·rw [if_pos c54] at H
          have c54b0 : decide (x7_3 < (x232001_3.length : Int)) = true:=decide_eq_true c54
          clear c54
          by_cases c55 : 0 ≤ x7_3
          ·rw [if_pos c55] at H
           have c55b0 : decide (0 ≤ x7_3) = true:=decide_eq_true c55
           clear c55
           obtain ⟨y234,hy234⟩ : ∃ y_ : List (S36),y_ = (x232001_3.set (x7_3 : Int).toNat (⟨(-1),(-1),(-1)⟩ : S36)):=⟨_,rfl⟩
           replace H : (lapidarylaw10_MeshSame.l0 k3 t224 (wrap64 (x7_3+1)) l0_0 l0_1 l1_0 l1_1 t225 y234) = some r:=by first | (rw [hy234];with_reducible exact H) | (have H2_:=(Option.bind_some _ _).symm.trans H;rw [hy234];with_reducible exact H2_) | (have H2_:=(Option.bind_some _ _).symm.trans H;with_reducible exact H2_) | with_reducible exact H | (rw [hy234];exact H) | exact H
           have Ny234:=aMx12 hy234
           clear hy234
           have H':=aMx12 H
           clear H
           have hnb57:=NB231_219.out
           have hnc57:=NB219_231.out
           have hnb58:=NB231_220.out
           have hnc58:=NB220_231.out
           have hcz59_0 : wr.cell? ⟨gb231,0,none⟩ = some (.slice Ao30 t225.length co30):=(blk_cell BK231.out 0).trans rfl
           have hcz59_1 : wr.cell? ⟨gb231,1,none⟩ = some (u232001):=(blk_cell BK231.out 1).trans rfl
           have hfz59_0:=blk_frozen BK231.out 0
           have hfz59_1:=blk_frozen BK231.out 1
           obtain ⟨Ao60,co60,eo60⟩:=Kd.R_slice HO_232001.out
           subst eo60
           have p56 : 0 ≤ (x7_3 : Int):=of_decide_eq_true (by first | (with_reducible assumption) | assumption)
           have q56 : (x7_3 : Int) < ((x232001_3.length : Int) : Int):=of_decide_eq_true (by first | (with_reducible assumption) | assumption)
           obtain ⟨go56,co56,eo56,gb56,gl56,cl56,HG56⟩:=Kd.R_form HO_232001.out (by omega)
           (first | cases eo56 | (injection eo56 with ea_ en_ ec_;(first | subst ea_ | (injection ea_ with ea_;subst ea_));subst ec_;clear en_))
           have GB56:=aMx12 gb56
           have GG56:=aMx12 HG56
           clear gb56 gl56 HG56
           obtain ⟨ce56,hcl56,hM56,hcc56,hfr56⟩:=Kd.R_elem HO_232001.out z36 (x7_3 : Int) p56 q56
           obtain rfl:=k36_openM hM56
           have hx56_0 : wr.cell? ⟨go56,(x7_3 : Int).toNat * 3,none⟩ = some (.int .i64 ((rd_T36 x232001_3 x7_3).f0)):=hcc56 0 _ rfl
           have hx56_1 : wr.cell? ⟨go56,(x7_3 : Int).toNat * 3+1,none⟩ = some (.int .i64 ((rd_T36 x232001_3 x7_3).f1)):=hcc56 1 _ rfl
           have hx56_2 : wr.cell? ⟨go56,(x7_3 : Int).toNat * 3+2,none⟩ = some (.int .i64 ((rd_T36 x232001_3 x7_3).f2)):=hcc56 2 _ rfl
           have hf56_0 : wr.frozen? ⟨go56,(x7_3 : Int).toNat * 3,none⟩ = false:=hfr56 0
           have hf56_1 : wr.frozen? ⟨go56,(x7_3 : Int).toNat * 3+1,none⟩ = false:=hfr56 1
           have hf56_2 : wr.frozen? ⟨go56,(x7_3 : Int).toNat * 3+2,none⟩ = false:=hfr56 2
           clear hcl56 hcc56 hfr56 hM56
           replace p56:=eq_true p56
           replace q56:=eq_true q56
           have HX61:=aMx12 (show Kd.R k36 36 wr w.heap.size (fun _ => True) (.slice (some ⟨go56,0,none⟩) x232001_3.length co60) x232001_3 from (by (with_reducible repeat (first | apply Kd.R_alloc | apply Kd.R_drewN | apply Kd.R_drew));exact HO_232001.out))
           obtain ⟨ce61,hcl61,hM61,hcc61,hfr61⟩:=Kd.R_elem HX61.out z36 (x7_3 : Int) (of_decide_eq_true (by first | (with_reducible assumption) | assumption)) (by have h_ : (x7_3 : Int) < ((x232001_3.length : Int) : Int):=of_decide_eq_true (by first | (with_reducible assumption) | assumption);first | exact h_ | (have e_:=(Kd.R_reads' HO_232001.out).1;omega) | simpa using h_)
           obtain rfl:=k36_openM hM61
           have HP61:=Kd.R_seg HX61.out (x7_3 : Int) (of_decide_eq_true (by first | (with_reducible assumption) | assumption)) (by have h_ : (x7_3 : Int) < ((x232001_3.length : Int) : Int):=of_decide_eq_true (by first | (with_reducible assumption) | assumption);first | exact h_ | (have e_:=(Kd.R_reads' HO_232001.out).1;omega) | simpa using h_) (seg:=[.int .i64 (-1),.int .i64 (-1),.int .i64 (-1)]) (j:=0) hcl61 hcc61 (show 3 ≤ 3 from by decide) (x':=(⟨(-1),(-1),(-1)⟩ : S36)) (k36_mkM _ _ _ (⟨(-1),(-1),(-1)⟩ : S36) ) (fun _ hk => hk)
           have hx61_0:=hcc61 0 _ rfl
           (try simp only [show (k36).sz = 3 from rfl,Nat.mul_one,Nat.add_zero] at hx61_0)
           have hf61_0:=hfr61 0
           (try simp only [show (k36).sz = 3 from rfl,Nat.mul_one,Nat.add_zero] at hf61_0)
           have hx61_1:=hcc61 1 _ rfl
           (try simp only [show (k36).sz = 3 from rfl,Nat.mul_one,Nat.add_zero] at hx61_1)
           have hf61_1:=hfr61 1
           (try simp only [show (k36).sz = 3 from rfl,Nat.mul_one,Nat.add_zero] at hf61_1)
           have hx61_2:=hcc61 2 _ rfl
           (try simp only [show (k36).sz = 3 from rfl,Nat.mul_one,Nat.add_zero] at hx61_2)
           have hf61_2:=hfr61 2
           (try simp only [show (k36).sz = 3 from rfl,Nat.mul_one,Nat.add_zero] at hf61_2)
           clear hcl61 hcc61 hfr61 hM61
           go_wp2_with (first|((with_reducible refine gate_store (t:=36) (p:=42) rfl ?_);refine store_event (t:=36) (p:=42) (v:=?vo_w62) (w1:=(((wr.setCell ⟨go56,(x7_3 : Int).toNat * 3,none⟩ (.int .i64 (-1))).setCell ⟨go56,(x7_3 : Int).toNat * 3+1,none⟩ (.int .i64 (-1))).setCell ⟨go56,(x7_3 : Int).toNat * 3+2,none⟩ (.int .i64 (-1)))) ?hg ?ho ?hn ?hr ?_;(case ho => rfl);(case hg => rfl);(case hn => rfl);(case hr => first|(go_simp;done)|(go_simp;rfl));intro w62 hw;have hg : wr.grownBy w62 (some go56):=(by rw [hw];exact HP61.2);have hp_ : Kd.R k36 36 w62 w.heap.size (fun _ => True) (.slice (some ⟨go56,0,none⟩) x232001_3.length co60) y234:=(by rw [hw,Ny234.out];exact HP61.1);clear HP61;have n0_:=aMx12 (Kd.R_over' (v:=(.slice (some ⟨go56,0,none⟩) x232001_3.length co60)) (by (with_reducible repeat (first|apply Kd.R_alloc|apply Kd.R_drewN|apply Kd.R_drew));exact HO_232000.out) (Kd.R_typed HO_232001.out) (by decide) hg);have n1_:=aMx12 (hp_);have n2_:=aMx12 (blk_grown (g:=gb219) (o:=.cells #[.slice A0_0 l0_0.length c0_0,.slice A0_1 l0_1.length c0_1] 25 (0,0)) (by (with_reducible repeat (first|refine blk_drewN ?_ _|refine blk_drew ?_|refine blk_alloc ?_ _));exact BK219.out) hg (Kd.R_ne HO_232001.out BK219.out (by decide)));have n3_:=aMx12 (blk_grown (g:=gb220) (o:=.cells #[.slice A1_0 l1_0.length c1_0,.slice A1_1 l1_1.length c1_1] 25 (0,0)) (by (with_reducible repeat (first|refine blk_drewN ?_ _|refine blk_drew ?_|refine blk_alloc ?_ _));exact BK220.out) hg (Kd.R_ne HO_232001.out BK220.out (by decide)));have n4_:=aMx12 (blk_grown (g:=gb231) (o:=.cells #[.slice Ao30 t225.length co30,.slice (some ⟨go56,0,none⟩) x232001_3.length co60] 25 (0,0)) (by (with_reducible repeat (first|refine blk_drewN ?_ _|refine blk_drew ?_|refine blk_alloc ?_ _));exact BK231.out) hg (Kd.R_ne HO_232001.out BK231.out (by decide)));have n5_:=aMx12 ((by rw [hw];exact below_set (below_set (below_set (HB.out) GB56.out) GB56.out) GB56.out : Below w.heap.size w w62));clear HO_232000;clear HO_232001;clear BK219;clear BK220;clear BK231;clear HB;have HO_232000:=n0_;have HO_232001:=n1_;have BK219:=n2_;have BK220:=n3_;have BK231:=n4_;have HB:=n5_;clear n0_ n1_ n2_ n3_ n4_ n5_;clear hg hw hp_))
           go_roundg k3
           case measure => have:=HJ2.out;have:=HJ21.out;have:=HK3.out;omega
           case rel => exact ⟨(wrap64 (x7_3+1)),(y234),(.slice (some ⟨go56,0,none⟩) x232001_3.length co60),(by first | rfl | (simp;done) | (simp [*];done) | (simp [wrap64];done)),H',⟨by have:=HJ2.out;have:=HJ21.out;have:=HK3.out;omega⟩,⟨by (with_reducible repeat (first | apply Kd.R_alloc | apply Kd.R_drewN | apply Kd.R_drew));exact HO_232000.out⟩,⟨by (with_reducible repeat (first | apply Kd.R_alloc | apply Kd.R_drewN | apply Kd.R_drew));exact HO_232001.out⟩,⟨by (with_reducible repeat (first | refine blk_drewN ?_ _ | refine blk_drew ?_ | refine blk_alloc ?_ _));exact BK219.out⟩,⟨by (with_reducible repeat (first | refine blk_drewN ?_ _ | refine blk_drew ?_ | refine blk_alloc ?_ _));exact BK220.out⟩,⟨by (with_reducible repeat (first | refine blk_drewN ?_ _ | refine blk_drew ?_ | refine blk_alloc ?_ _));exact BK231.out⟩,⟨by repeat (first | (with_reducible first | exact HB.out | apply below_alloc | apply pw_below_drewN | apply below_drew1 | refine below_set ?_ GE219.out | refine below_set ?_ GE220.out | refine below_set ?_ GE231.out) | exact HB.out)⟩⟩
          ·rw [if_neg c55] at H
           exact absurd H (by simp)
         ·rw [if_neg c54] at H
          have c54b0 : decide (x7_3 < (x232001_3.length : Int)) = false:=decide_eq_false c54
          clear c54
          replace H:=Option.bind_eq_some_iff.mp H
          obtain ⟨t235,A630,H⟩:=H
          replace H : (if (t235 == t224) = true then ((mesh_Same.f k3 l0_0 l0_1 l0_0 l0_1).bind fun t236 => (if t236 = true then ((lapidarylaw10_known.f).bind fun t237 => (some t237)) else (some false))) else (some false)) = some r:=H
          have A63:=aMx12 A630
          clear A630
          by_cases c64 : (t235 == t224) = true
          ·rw [if_pos c64] at H
           have c64b0 : (t235 == t224) = true:=c64
           (try (have c64b1 : decide (t235 = t224) = true:=by simpa using c64))
           (try (have c64b2 : (t235 == t224) = true:=by simpa using c64))
           clear c64
           replace H:=Option.bind_eq_some_iff.mp H
           obtain ⟨t236,A650,H⟩:=H
           replace H : (if t236 = true then ((lapidarylaw10_known.f).bind fun t237 => (some t237)) else (some false)) = some r:=H
           have A65:=aMx12 A650
           clear A650
           by_cases c66 : t236 = true
           ·subst c66
            have H1 : ((lapidarylaw10_known.f).bind fun t237 => (some t237)) = some r:=by rw [if_pos rfl] at H;exact H
            clear H
            have H:=H1
            clear H1
            replace H:=Option.bind_eq_some_iff.mp H
            obtain ⟨t237,A670,H⟩:=H
            replace H : (some t237) = some r:=H
            have A67:=aMx12 A670
            clear A670
            obtain rfl:=Option.some.inj H
            have hnb68:=NB231_219.out
            have hnc68:=NB219_231.out
            have hnb69:=NB231_220.out
            have hnc69:=NB220_231.out
            have hcz70_0 : wr.cell? ⟨gb231,0,none⟩ = some (.slice Ao30 t225.length co30):=(blk_cell BK231.out 0).trans rfl
            have hcz70_1 : wr.cell? ⟨gb231,1,none⟩ = some (u232001):=(blk_cell BK231.out 1).trans rfl
            have hfz70_0:=blk_frozen BK231.out 0
            have hfz70_1:=blk_frozen BK231.out 1
            obtain ⟨Ao71,co71,eo71⟩:=Kd.R_slice HO_232001.out
            subst eo71
            have hnb72:=NB219_220.out
            have hnc72:=NB220_219.out
            have hcz73_0 : wr.cell? ⟨gb219,0,none⟩ = some (.slice A0_0 l0_0.length c0_0):=(blk_cell BK219.out 0).trans rfl
            have hcz73_1 : wr.cell? ⟨gb219,1,none⟩ = some (.slice A0_1 l0_1.length c0_1):=(blk_cell BK219.out 1).trans rfl
            have hfz73_0:=blk_frozen BK219.out 0
            have hfz73_1:=blk_frozen BK219.out 1
            have hcz74_0 : wr.cell? ⟨gb220,0,none⟩ = some (.slice A1_0 l1_0.length c1_0):=(blk_cell BK220.out 0).trans rfl
            have hcz74_1 : wr.cell? ⟨gb220,1,none⟩ = some (.slice A1_1 l1_1.length c1_1):=(blk_cell BK220.out 1).trans rfl
            have hfz74_0:=blk_frozen BK220.out 0
            have hfz74_1:=blk_frozen BK220.out 1
            go_wp2_with (first|((with_reducible refine gate_callee (f:=23) rfl ?_);refine goesL_ (some 45) rfl rfl Tryd.func23 (by kernel_rfl) rfl #[.agg #[.slice A0_0 l0_0.length c0_0,.slice A0_1 l0_1.length c0_1],.agg #[.slice A1_0 l1_0.length c1_0,.slice A1_1 l1_1.length c1_1]] rfl (by (try simp only [List.map_toArray,List.map_cons,List.map_nil]);first|done|rfl|(simp only [List.length_drop,List.length_take];rfl)) ?_;(with_reducible refine (mesh_Same.calls k3 _ _ l0_0 _ _ l0_1 _ _ l1_0 _ _ l1_1 t235 _ ?side1 ?side2 ?side3 ?side4 ?side5 ?side6 ?side7 ?side8 A63.out).mono ?_);(case side1 => repeat (first|exact (Kd.C_below HR0_0.out HB.out)|(with_reducible first|refine Kd.C_alloc ?_ _|refine Kd.C_drewN ?_ _|refine Kd.C_drew ?_)));(case side2 => exact HC0_0.out);(case side3 => repeat (first|exact (Kd.C_below HR0_1.out HB.out)|(with_reducible first|refine Kd.C_alloc ?_ _|refine Kd.C_drewN ?_ _|refine Kd.C_drew ?_)));(case side4 => exact HC0_1.out);(case side5 => repeat (first|exact (Kd.C_below HR1_0.out HB.out)|(with_reducible first|refine Kd.C_alloc ?_ _|refine Kd.C_drewN ?_ _|refine Kd.C_drew ?_)));(case side6 => exact HC1_0.out);(case side7 => repeat (first|exact (Kd.C_below HR1_1.out HB.out)|(with_reducible first|refine Kd.C_alloc ?_ _|refine Kd.C_drewN ?_ _|refine Kd.C_drew ?_)));(case side8 => exact HC1_1.out);rintro e w75 ⟨rfl,hb⟩;refine ⟨_,rfl,?_⟩;have n0_:=aMx12 (Kd.R_below (by (with_reducible repeat (first|apply Kd.R_alloc|apply Kd.R_drewN|apply Kd.R_drew));exact HO_232000.out) hb);have n1_:=aMx12 (Kd.R_below (by (with_reducible repeat (first|apply Kd.R_alloc|apply Kd.R_drewN|apply Kd.R_drew));exact HO_232001.out) hb);have n2_:=aMx12 (blk_below (g:=gb219) (o:=.cells #[.slice A0_0 l0_0.length c0_0,.slice A0_1 l0_1.length c0_1] 25 (0,0)) (by (with_reducible repeat (first|refine blk_drewN ?_ _|refine blk_drew ?_|refine blk_alloc ?_ _));exact BK219.out) hb);have n3_:=aMx12 (blk_below (g:=gb220) (o:=.cells #[.slice A1_0 l1_0.length c1_0,.slice A1_1 l1_1.length c1_1] 25 (0,0)) (by (with_reducible repeat (first|refine blk_drewN ?_ _|refine blk_drew ?_|refine blk_alloc ?_ _));exact BK220.out) hb);have n4_:=aMx12 (blk_below (g:=gb231) (o:=.cells #[.slice Ao30 t225.length co30,.slice Ao71 x232001_3.length co71] 25 (0,0)) (by (with_reducible repeat (first|refine blk_drewN ?_ _|refine blk_drew ?_|refine blk_alloc ?_ _));exact BK231.out) hb);have n5_:=aMx12 (below_step (by repeat (first|(with_reducible first|exact HB.out|apply below_alloc|apply pw_below_drewN|apply below_drew1|refine below_set ?_ GE219.out|refine below_set ?_ GE220.out|refine below_set ?_ GE231.out)|exact HB.out)) hb);clear HO_232000;clear HO_232001;clear BK219;clear BK220;clear BK231;clear HB;have HO_232000:=n0_;have HO_232001:=n1_;have BK219:=n2_;have BK220:=n3_;have BK231:=n4_;have HB:=n5_;clear n0_ n1_ n2_ n3_ n4_ n5_;(try clear hb);(try clear hb2);(try clear hk);(try clear hi);have hcz76_0 : w75.cell? ⟨gb219,0,none⟩ = some (.slice A0_0 l0_0.length c0_0):=(blk_cell BK219.out 0).trans rfl;have hcz76_1 : w75.cell? ⟨gb219,1,none⟩ = some (.slice A0_1 l0_1.length c0_1):=(blk_cell BK219.out 1).trans rfl;have hfz76_0:=blk_frozen BK219.out 0;have hfz76_1:=blk_frozen BK219.out 1)|(go_at_call 23;(with_reducible refine (mesh_Same.calls k3 _ _ l0_0 _ _ l0_1 _ _ l0_0 _ _ l0_1 true _ ?side1 ?side2 ?side3 ?side4 ?side5 ?side6 ?side7 ?side8 A65.out).mono ?_);(case side1 => repeat (first|exact (Kd.C_below HR0_0.out HB.out)|(with_reducible first|refine Kd.C_alloc ?_ _|refine Kd.C_drewN ?_ _|refine Kd.C_drew ?_)));(case side2 => exact HC0_0.out);(case side3 => repeat (first|exact (Kd.C_below HR0_1.out HB.out)|(with_reducible first|refine Kd.C_alloc ?_ _|refine Kd.C_drewN ?_ _|refine Kd.C_drew ?_)));(case side4 => exact HC0_1.out);(case side5 => repeat (first|exact (Kd.C_below HR0_0.out HB.out)|(with_reducible first|refine Kd.C_alloc ?_ _|refine Kd.C_drewN ?_ _|refine Kd.C_drew ?_)));(case side6 => exact HC0_0.out);(case side7 => repeat (first|exact (Kd.C_below HR0_1.out HB.out)|(with_reducible first|refine Kd.C_alloc ?_ _|refine Kd.C_drewN ?_ _|refine Kd.C_drew ?_)));(case side8 => exact HC0_1.out);rintro e w77 ⟨rfl,hb⟩;have n0_:=aMx12 (Kd.R_below (by (with_reducible repeat (first|apply Kd.R_alloc|apply Kd.R_drewN|apply Kd.R_drew));exact HO_232000.out) hb);have n1_:=aMx12 (Kd.R_below (by (with_reducible repeat (first|apply Kd.R_alloc|apply Kd.R_drewN|apply Kd.R_drew));exact HO_232001.out) hb);have n2_:=aMx12 (blk_below (g:=gb219) (o:=.cells #[.slice A0_0 l0_0.length c0_0,.slice A0_1 l0_1.length c0_1] 25 (0,0)) (by (with_reducible repeat (first|refine blk_drewN ?_ _|refine blk_drew ?_|refine blk_alloc ?_ _));exact BK219.out) hb);have n3_:=aMx12 (blk_below (g:=gb220) (o:=.cells #[.slice A1_0 l1_0.length c1_0,.slice A1_1 l1_1.length c1_1] 25 (0,0)) (by (with_reducible repeat (first|refine blk_drewN ?_ _|refine blk_drew ?_|refine blk_alloc ?_ _));exact BK220.out) hb);have n4_:=aMx12 (blk_below (g:=gb231) (o:=.cells #[.slice Ao30 t225.length co30,.slice Ao71 x232001_3.length co71] 25 (0,0)) (by (with_reducible repeat (first|refine blk_drewN ?_ _|refine blk_drew ?_|refine blk_alloc ?_ _));exact BK231.out) hb);have n5_:=aMx12 (below_step (by repeat (first|(with_reducible first|exact HB.out|apply below_alloc|apply pw_below_drewN|apply below_drew1|refine below_set ?_ GE219.out|refine below_set ?_ GE220.out|refine below_set ?_ GE231.out)|exact HB.out)) hb);clear HO_232000;clear HO_232001;clear BK219;clear BK220;clear BK231;clear HB;have HO_232000:=n0_;have HO_232001:=n1_;have BK219:=n2_;have BK220:=n3_;have BK231:=n4_;have HB:=n5_;clear n0_ n1_ n2_ n3_ n4_ n5_;(try clear hb);(try clear hb2);(try clear hk);(try clear hi))|(go_at_call 13;(with_reducible refine (lapidarylaw10_known.calls  t237 _ ?sideG A67.out).mono ?_);(case sideG => exact Kd.C_below HG.out (by repeat (first|(with_reducible first|exact HB.out|apply below_alloc|apply pw_below_drewN|apply below_drew1|refine below_set ?_ GE219.out|refine below_set ?_ GE220.out|refine below_set ?_ GE231.out)|exact HB.out)));rintro e w78 ⟨rfl,hb⟩;have n0_:=aMx12 (Kd.R_below (by (with_reducible repeat (first|apply Kd.R_alloc|apply Kd.R_drewN|apply Kd.R_drew));exact HO_232000.out) hb);have n1_:=aMx12 (Kd.R_below (by (with_reducible repeat (first|apply Kd.R_alloc|apply Kd.R_drewN|apply Kd.R_drew));exact HO_232001.out) hb);have n2_:=aMx12 (blk_below (g:=gb219) (o:=.cells #[.slice A0_0 l0_0.length c0_0,.slice A0_1 l0_1.length c0_1] 25 (0,0)) (by (with_reducible repeat (first|refine blk_drewN ?_ _|refine blk_drew ?_|refine blk_alloc ?_ _));exact BK219.out) hb);have n3_:=aMx12 (blk_below (g:=gb220) (o:=.cells #[.slice A1_0 l1_0.length c1_0,.slice A1_1 l1_1.length c1_1] 25 (0,0)) (by (with_reducible repeat (first|refine blk_drewN ?_ _|refine blk_drew ?_|refine blk_alloc ?_ _));exact BK220.out) hb);have n4_:=aMx12 (blk_below (g:=gb231) (o:=.cells #[.slice Ao30 t225.length co30,.slice Ao71 x232001_3.length co71] 25 (0,0)) (by (with_reducible repeat (first|refine blk_drewN ?_ _|refine blk_drew ?_|refine blk_alloc ?_ _));exact BK231.out) hb);have n5_:=aMx12 (below_step (by repeat (first|(with_reducible first|exact HB.out|apply below_alloc|apply pw_below_drewN|apply below_drew1|refine below_set ?_ GE219.out|refine below_set ?_ GE220.out|refine below_set ?_ GE231.out)|exact HB.out)) hb);clear HO_232000;clear HO_232001;clear BK219;clear BK220;clear BK231;clear HB;have HO_232000:=n0_;have HO_232001:=n1_;have BK219:=n2_;have BK220:=n3_;have BK231:=n4_;have HB:=n5_;clear n0_ n1_ n2_ n3_ n4_ n5_;(try clear hb);(try clear hb2);(try clear hk);(try clear hi)))
            go_ret
            exact ⟨by first | rfl | (simp [errW_none,errW_some]<;>rfl) | (simp [*,errW_none,errW_some]<;>rfl),by repeat (first | (with_reducible first | exact HB.out | apply below_alloc | apply pw_below_drewN | apply below_drew1 | refine below_set ?_ GE219.out | refine below_set ?_ GE220.out | refine below_set ?_ GE231.out) | exact HB.out)⟩
           ·replace c66:=Bool.eq_false_iff.mpr c66
            subst c66
            have H1 : (some false) = some r:=by rw [if_neg (show ¬ (false = true) by decide)] at H;exact H
            exact absurd (Option.some.inj H1) (by rw [HRT.out];decide)
          ·rw [if_neg c64] at H
           exact absurd (Option.some.inj H) (by rw [HRT.out];decide)
end Go.Proofs.YtckemiefcdpofaaDoor.PMsr
