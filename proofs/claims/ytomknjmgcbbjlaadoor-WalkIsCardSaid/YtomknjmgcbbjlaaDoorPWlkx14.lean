import Derived.Test.YtomknjmgcbbjlaaDoorPWlkx0
import Derived.Test.YtomknjmgcbbjlaaDoorStepsStub
import Derived.Test.YtomknjmgcbbjlaaDoorPWlkx12
namespace Go.Proofs.YtomknjmgcbbjlaaDoor.PWlk
open Go Go.RowKit Go.Proofs.YtomknjmgcbbjlaaDoorW.PrintWords Go.Proofs.YtomknjmgcbbjlaaDoorW.PrintLast Go.Proofs.YtomknjmgcbbjlaaDoorW.PrintMore
attribute [local go_sem] max2_int min2_int max_two min_two max_three min_three max_four min_four
set_option linter.unusedVariables false
set_option maxRecDepth 100000
set_option linter.unusedSimpArgs false
attribute [local go_sem high] eqA46 eqA47
attribute [local go_sem] idx47_0_0 idx47_1_0 idx47_2_0 idx107_0_0 idx107_1_0
theorem tm1_x14 : (wrap64 1).tmod 3 = 1 := by first | rfl | decide | (unfold wrap64; rfl)
theorem tm2_x14 : (wrap64 2).tmod 3 = 2 := by first | rfl | decide | (unfold wrap64; rfl)
theorem tm3_x14 : (wrap64 3).tmod 3 = 0 := by first | rfl | decide | (unfold wrap64; rfl)
attribute [local go_sem] tm1_x14 tm2_x14 tm3_x14
theorem sAx14 {α : Type _} {l : List α} {i : Nat} {a : α} : l.toArray.setIfInBounds i a = (l.set i a).toArray := List.setIfInBounds_toArray ..
theorem sBx14 {α : Type _} {x y : α} {l : List α} : (x :: l).set 0 y = y :: l := rfl
theorem sCx14 {α : Type _} {x y : α} {l : List α} {i : Nat} : (x :: l).set (i + 1) y = x :: l.set i y := rfl
theorem aMx14 {p : Prop} (h : p) : Aside0 p := ⟨h⟩
def lapidaryref11_Canon.l0 : Nat → Int → List (S46) → List (S47) → List Int → List Int → List (S47) → List (S107) → List (S62) → List (S46) → List (S47) → Option ((List (S46)) × (List (S47)) × Int)
  | 0, _, _, _, _, _, _, _, _, _, _ => none
  | k + 1, x7, x441000, x441001, x459000, x459001, x459002, x459003, x459004, x460000, x460001 => if x7 < (x459000.length : Int) then (if 0 ≤ x7 then (if 0 ≤ (rd x459000 x7) then (if (rd x459000 x7) < (x441000.length : Int) then (if x460000.length < 5864062014805 then (lapidaryref11_Canon.l0 k (wrap64 (x7 + 1)) x441000 x441001 x459000 x459001 x459002 x459003 x459004 (x460000 ++ [(⟨(rd_T46 x441000 (rd x459000 x7)).f0, (rd_T46 x441000 (rd x459000 x7)).f1, (rd_T46 x441000 (rd x459000 x7)).f2⟩ : S46)]) x460001) else (none)) else (none)) else (none)) else (none)) else (some (x460000, x460001, 0))
def lapidaryref11_Canon.f (k : Nat) (l0_0 : List (S46)) (l0_1 : List (S47)) : Option ((List (S46)) × (List (S47)) × Int) := (lapidaryref11_Walk.f k l0_0 l0_1).bind fun bt442 => (if bt442.2.2.2.2.2 = 0 then (lapidaryref11_Canon.l0 k 0 l0_0 l0_1 bt442.1 bt442.2.1 bt442.2.2.1 bt442.2.2.2.1 bt442.2.2.2.2.1 ([] : List (S46)) bt442.2.2.1) else (some (([] : List (S46)), ([] : List (S47)), bt442.2.2.2.2.2)))
def lapidaryref11_Canon.T8 : Bool × List (List Nat × List Nat) := (true, [([], []), ([0], [0]), ([], []), ([2], [2]), ([], []), ([4], [4]), ([], []), ([5, 6], [5, 6]), ([7], [7]), ([3, 8], [3, 8]), ([9], [9]), ([10], [10]), ([1, 11], [1, 11]), ([0, 1, 2, 3, 4, 5, 6, 7, 8, 9, 10, 11, 12], []), ([13, 12, 12, 0, 1, 2, 3, 4, 5, 6, 7, 8, 9, 10, 11, 12], [12, 13])])
def lapidaryref11_Canon.B8 : List Nat := [0, 1, 0, 4, 0, 16, 0, 112, 240, 508, 1020, 2044, 4095, 8191, 16383]
theorem lapidaryref11_Canon.tab8 : rtab .any (opsOf Tryd.f29 8) = lapidaryref11_Canon.T8 := by kernel_rfl
theorem lapidaryref11_Canon.bits8 : waitsOk lapidaryref11_Canon.T8.2 lapidaryref11_Canon.B8 = true := by kernel_rfl
set_option maxHeartbeats 8000000 in
set_option maxRecDepth 100000 in
theorem lapidaryref11_Canon.calls (k : Nat) (A0_0 : Option Addr) (c0_0 : Nat) (l0_0 : List (S46)) (A0_1 : Option Addr) (c0_1 : Nat) (l0_1 : List (S47)) (r1 : List (S46)) (r2 : List (S47)) (r3 : Int) (w : World) (hr0_0 : Kd.C k46 w A0_0 l0_0.length l0_0) (hc0_0 : l0_0.length ≤ c0_0) (hr0_1 : Kd.C k47 w A0_1 l0_1.length l0_1) (hc0_1 : l0_1.length ≤ c0_1) (h : lapidaryref11_Canon.f k l0_0 l0_1 = some (r1, r2, r3)) :
  Calls Tryd.prog 29 #[.agg #[.slice A0_0 l0_0.length c0_0,.slice A0_1 l0_1.length c0_1]] w fun e w' => ∃ v0_ v1_ : Value,e = .returned (.tuple #[.agg #[v0_,v1_],.int .i64 r3]) ∧ Kd.R k46 46 w' w.heap.size (fun _ => True) v0_ r1 ∧ Kd.R k47 47 w' w.heap.size (fun _ => True) v1_ r2 ∧ Below w.heap.size w w':=by
 have hu25:=Tryd.underlying25
 have hu37:=Tryd.underlying37
 have hu46:=Tryd.underlying46
 have HR0_0:=aMx14 hr0_0
 have HC0_0:=aMx14 hc0_0
 clear hr0_0 hc0_0
 have HR0_1:=aMx14 hr0_1
 have HC0_1:=aMx14 hc0_1
 clear hr0_1 hc0_1
 have HB:=aMx14 (Below.refl w.heap.size w)
 have H : ((lapidaryref11_Walk.f k l0_0 l0_1).bind fun bt442 => (if bt442.2.2.2.2.2 = 0 then (lapidaryref11_Canon.l0 k 0 l0_0 l0_1 bt442.1 bt442.2.1 bt442.2.2.1 bt442.2.2.2.1 bt442.2.2.2.2.1 ([] : List (S46)) bt442.2.2.1) else (some (([] : List (S46)),([] : List (S47)),bt442.2.2.2.2.2)))) = some (r1,r2,r3):=h
 clear h
 replace H:=Option.bind_eq_some_iff.mp H
 obtain ⟨⟨t442,t445,t448,t451,t454,t457⟩,A20,H⟩:=H
 replace H : (if t457 = 0 then (lapidaryref11_Canon.l0 k 0 l0_0 l0_1 t442 t445 t448 t451 t454 ([] : List (S46)) t448) else (some (([] : List (S46)),([] : List (S47)),t457))) = some (r1,r2,r3):=H
 have A2:=aMx14 A20
 clear A20
 by_cases c3 : t457 = 0
 ·rw [if_pos c3] at H
  have c3b0 : (t457 == 0) = true:=beq_iff_eq.mpr c3
  have c3b1 : (t457 != 0) = false:=bne_eq_false_iff_eq.mpr c3
  clear c3
  have H':=aMx14 H
  clear H
  go_enter Tryd.func29,Tryd.ntmps29
  go_wp2_with (first|((with_reducible refine gate_dst (N:=1) rfl ?_);refine box_event ?hg (N:=1) ?hd (cs:=#[.slice A0_0 l0_0.length c0_0,.slice A0_1 l0_1.length c0_1]) (t:=25) ?hr ?_;(case hd => rfl);(case hg => rfl);(case hr => first|(go_simp;done)|(go_simp;rfl));intro gb440 hg w4 hbox hb;have n0_:=aMx14 (below_step (by repeat (with_reducible first|exact HB.out|apply below_alloc|apply pw_below_drewN|apply below_drew1)) hb);have n1_:=aMx14 (hbox);have n2_:=aMx14 ((by rw [hg];exact (below_size (by repeat (with_reducible first|exact HB.out|apply below_alloc|apply pw_below_drewN|apply below_drew1))) : w.heap.size ≤ gb440));have n3_:=aMx14 ((by rw [hg];exact (below_size (by repeat (with_reducible first|exact HB.out|apply below_alloc|apply pw_below_drewN|apply below_drew1))) : w.heap.size ≤ gb440));clear HB;have HB:=n0_;have BK440:=n1_;have GW440:=n2_;have GE440:=n3_;clear n0_ n1_ n2_ n3_;clear hb hbox hg)|((with_reducible refine gate_dst (N:=2) rfl ?_);refine box_event ?hg (N:=2) ?hd (cs:=#[.slice none 0 0,.slice none 0 0]) (t:=25) ?hr ?_;(case hd => rfl);(case hg => rfl);(case hr => first|(go_simp;done)|(go_simp;rfl));intro gb441 hg w5 hbox hb;have n0_:=aMx14 (blk_below (g:=gb440) (o:=.cells #[.slice A0_0 l0_0.length c0_0,.slice A0_1 l0_1.length c0_1] 25 (0,0)) (by (with_reducible repeat (first|refine blk_drewN ?_ _|refine blk_drew ?_|refine blk_alloc ?_ _));exact BK440.out) hb);have n1_:=aMx14 (below_step (by repeat (first|(with_reducible first|exact HB.out|apply below_alloc|apply pw_below_drewN|apply below_drew1|refine below_set ?_ GE440.out)|exact HB.out)) hb);have n2_:=aMx14 (hbox);have n3_:=aMx14 ((by rw [hg];exact (below_size (by repeat (first|(with_reducible first|exact HB.out|apply below_alloc|apply pw_below_drewN|apply below_drew1|refine below_set ?_ GE440.out)|exact HB.out))) : w.heap.size ≤ gb441));have n4_:=aMx14 ((by rw [hg];exact (below_size (by repeat (first|(with_reducible first|exact HB.out|apply below_alloc|apply pw_below_drewN|apply below_drew1|refine below_set ?_ GE440.out)|exact HB.out))) : w.heap.size ≤ gb441));have n5_:=aMx14 ((by rw [hg];exact Nat.ne_of_lt (blk_lt (g:=gb440) (o:=.cells #[.slice A0_0 l0_0.length c0_0,.slice A0_1 l0_1.length c0_1] 25 (0,0)) (by (with_reducible repeat (first|refine blk_drewN ?_ _|refine blk_drew ?_|refine blk_alloc ?_ _));exact BK440.out)) : gb440 ≠ gb441));have n6_:=aMx14 ((by rw [hg];exact Nat.ne_of_gt (blk_lt (g:=gb440) (o:=.cells #[.slice A0_0 l0_0.length c0_0,.slice A0_1 l0_1.length c0_1] 25 (0,0)) (by (with_reducible repeat (first|refine blk_drewN ?_ _|refine blk_drew ?_|refine blk_alloc ?_ _));exact BK440.out)) : gb441 ≠ gb440));clear BK440;clear HB;have BK440:=n0_;have HB:=n1_;have BK441:=n2_;have GW441:=n3_;have GE441:=n4_;have NB440_441:=n5_;have NB441_440:=n6_;clear n0_ n1_ n2_ n3_ n4_ n5_ n6_;clear hb hbox hg;have hnb6:=NB440_441.out;have hnc6:=NB441_440.out;have hcz7_0 : w5.cell? ⟨gb440,0,none⟩ = some (.slice A0_0 l0_0.length c0_0):=(blk_cell BK440.out 0).trans rfl;have hcz7_1 : w5.cell? ⟨gb440,1,none⟩ = some (.slice A0_1 l0_1.length c0_1):=(blk_cell BK440.out 1).trans rfl;have hfz7_0:=blk_frozen BK440.out 0;have hfz7_1:=blk_frozen BK440.out 1)|((with_reducible refine gate_callee (f:=22) rfl ?_);refine goesL_ (some 10) rfl rfl Tryd.func22 (by kernel_rfl) rfl #[.agg #[.slice A0_0 l0_0.length c0_0,.slice A0_1 l0_1.length c0_1]] rfl (by (try simp only [List.map_toArray,List.map_cons,List.map_nil]);first|done|rfl|(simp only [List.length_drop,List.length_take];rfl)) ?_;(with_reducible refine (lapidaryref11_Walk.calls k _ _ l0_0 _ _ l0_1 t442 t445 t448 t451 t454 t457 _ ?side1 ?side2 ?side3 ?side4 A2.out).mono ?_);(case side1 => repeat (first|exact (Kd.C_below HR0_0.out HB.out)|(with_reducible first|refine Kd.C_alloc ?_ _|refine Kd.C_drewN ?_ _|refine Kd.C_drew ?_)));(case side2 => exact HC0_0.out);(case side3 => repeat (first|exact (Kd.C_below HR0_1.out HB.out)|(with_reducible first|refine Kd.C_alloc ?_ _|refine Kd.C_drewN ?_ _|refine Kd.C_drew ?_)));(case side4 => exact HC0_1.out);rintro e w8 ⟨v443,v446,v449,v452,v455,rfl,ho0,ho1,ho2,ho3,ho4,hb⟩;refine ⟨_,rfl,?_⟩;have n0_:=aMx14 (Kd.R_lower ho0 (below_size (by repeat (first|(with_reducible first|exact HB.out|apply below_alloc|apply pw_below_drewN|apply below_drew1|refine below_set ?_ GE440.out|refine below_set ?_ GE441.out)|exact HB.out))));have n1_:=aMx14 (Kd.R_lower ho1 (below_size (by repeat (first|(with_reducible first|exact HB.out|apply below_alloc|apply pw_below_drewN|apply below_drew1|refine below_set ?_ GE440.out|refine below_set ?_ GE441.out)|exact HB.out))));have n2_:=aMx14 (Kd.R_lower ho2 (below_size (by repeat (first|(with_reducible first|exact HB.out|apply below_alloc|apply pw_below_drewN|apply below_drew1|refine below_set ?_ GE440.out|refine below_set ?_ GE441.out)|exact HB.out))));have n3_:=aMx14 (Kd.R_lower ho3 (below_size (by repeat (first|(with_reducible first|exact HB.out|apply below_alloc|apply pw_below_drewN|apply below_drew1|refine below_set ?_ GE440.out|refine below_set ?_ GE441.out)|exact HB.out))));have n4_:=aMx14 (Kd.R_lower ho4 (below_size (by repeat (first|(with_reducible first|exact HB.out|apply below_alloc|apply pw_below_drewN|apply below_drew1|refine below_set ?_ GE440.out|refine below_set ?_ GE441.out)|exact HB.out))));have n5_:=aMx14 (blk_below (g:=gb440) (o:=.cells #[.slice A0_0 l0_0.length c0_0,.slice A0_1 l0_1.length c0_1] 25 (0,0)) (by (with_reducible repeat (first|refine blk_drewN ?_ _|refine blk_drew ?_|refine blk_alloc ?_ _));exact BK440.out) hb);have n6_:=aMx14 (blk_below (g:=gb441) (o:=.cells #[.slice none 0 0,.slice none 0 0] 25 (0,0)) (by (with_reducible repeat (first|refine blk_drewN ?_ _|refine blk_drew ?_|refine blk_alloc ?_ _));exact BK441.out) hb);have n7_:=aMx14 (below_step (by repeat (first|(with_reducible first|exact HB.out|apply below_alloc|apply pw_below_drewN|apply below_drew1|refine below_set ?_ GE440.out|refine below_set ?_ GE441.out)|exact HB.out)) hb);clear BK440;clear BK441;clear HB;have HO444:=n0_;have HO447:=n1_;have HO450:=n2_;have HO453:=n3_;have HO456:=n4_;have BK440:=n5_;have BK441:=n6_;have HB:=n7_;clear n0_ n1_ n2_ n3_ n4_ n5_ n6_ n7_;(try clear hb);(try clear hb2);(try clear hk);(try clear hi);(try clear ho0);(try clear ho1);(try clear ho2);(try clear ho3);(try clear ho4))|((with_reducible refine gate_dst (N:=4) rfl ?_);refine box_event ?hg (N:=4) ?hd (cs:=#[.slice none 0 0,.slice none 0 0,.slice none 0 0,.slice none 0 0,.slice none 0 0]) (t:=37) ?hr ?_;(case hd => rfl);(case hg => rfl);(case hr => first|(go_simp;done)|(go_simp;rfl));intro gb458 hg w9 hbox hb;have n0_:=aMx14 (Kd.R_below (by (with_reducible repeat (first|apply Kd.R_alloc|apply Kd.R_drewN|apply Kd.R_drew));exact HO444.out) hb);have n1_:=aMx14 (Kd.R_below (by (with_reducible repeat (first|apply Kd.R_alloc|apply Kd.R_drewN|apply Kd.R_drew));exact HO447.out) hb);have n2_:=aMx14 (Kd.R_below (by (with_reducible repeat (first|apply Kd.R_alloc|apply Kd.R_drewN|apply Kd.R_drew));exact HO450.out) hb);have n3_:=aMx14 (Kd.R_below (by (with_reducible repeat (first|apply Kd.R_alloc|apply Kd.R_drewN|apply Kd.R_drew));exact HO453.out) hb);have n4_:=aMx14 (Kd.R_below (by (with_reducible repeat (first|apply Kd.R_alloc|apply Kd.R_drewN|apply Kd.R_drew));exact HO456.out) hb);have n5_:=aMx14 (blk_below (g:=gb440) (o:=.cells #[.slice A0_0 l0_0.length c0_0,.slice A0_1 l0_1.length c0_1] 25 (0,0)) (by (with_reducible repeat (first|refine blk_drewN ?_ _|refine blk_drew ?_|refine blk_alloc ?_ _));exact BK440.out) hb);have n6_:=aMx14 (blk_below (g:=gb441) (o:=.cells #[.slice none 0 0,.slice none 0 0] 25 (0,0)) (by (with_reducible repeat (first|refine blk_drewN ?_ _|refine blk_drew ?_|refine blk_alloc ?_ _));exact BK441.out) hb);have n7_:=aMx14 (below_step (by repeat (first|(with_reducible first|exact HB.out|apply below_alloc|apply pw_below_drewN|apply below_drew1|refine below_set ?_ GE440.out|refine below_set ?_ GE441.out)|exact HB.out)) hb);have n8_:=aMx14 (hbox);have n9_:=aMx14 ((by rw [hg];exact (below_size (by repeat (first|(with_reducible first|exact HB.out|apply below_alloc|apply pw_below_drewN|apply below_drew1|refine below_set ?_ GE440.out|refine below_set ?_ GE441.out)|exact HB.out))) : w.heap.size ≤ gb458));have n10_:=aMx14 ((by rw [hg];exact (below_size (by repeat (first|(with_reducible first|exact HB.out|apply below_alloc|apply pw_below_drewN|apply below_drew1|refine below_set ?_ GE440.out|refine below_set ?_ GE441.out)|exact HB.out))) : w.heap.size ≤ gb458));have n11_:=aMx14 ((by rw [hg];exact Nat.ne_of_lt (blk_lt (g:=gb440) (o:=.cells #[.slice A0_0 l0_0.length c0_0,.slice A0_1 l0_1.length c0_1] 25 (0,0)) (by (with_reducible repeat (first|refine blk_drewN ?_ _|refine blk_drew ?_|refine blk_alloc ?_ _));exact BK440.out)) : gb440 ≠ gb458));have n12_:=aMx14 ((by rw [hg];exact Nat.ne_of_gt (blk_lt (g:=gb440) (o:=.cells #[.slice A0_0 l0_0.length c0_0,.slice A0_1 l0_1.length c0_1] 25 (0,0)) (by (with_reducible repeat (first|refine blk_drewN ?_ _|refine blk_drew ?_|refine blk_alloc ?_ _));exact BK440.out)) : gb458 ≠ gb440));have n13_:=aMx14 ((by rw [hg];exact Nat.ne_of_lt (blk_lt (g:=gb441) (o:=.cells #[.slice none 0 0,.slice none 0 0] 25 (0,0)) (by (with_reducible repeat (first|refine blk_drewN ?_ _|refine blk_drew ?_|refine blk_alloc ?_ _));exact BK441.out)) : gb441 ≠ gb458));have n14_:=aMx14 ((by rw [hg];exact Nat.ne_of_gt (blk_lt (g:=gb441) (o:=.cells #[.slice none 0 0,.slice none 0 0] 25 (0,0)) (by (with_reducible repeat (first|refine blk_drewN ?_ _|refine blk_drew ?_|refine blk_alloc ?_ _));exact BK441.out)) : gb458 ≠ gb441));clear HO444;clear HO447;clear HO450;clear HO453;clear HO456;clear BK440;clear BK441;clear HB;have HO444:=n0_;have HO447:=n1_;have HO450:=n2_;have HO453:=n3_;have HO456:=n4_;have BK440:=n5_;have BK441:=n6_;have HB:=n7_;have BK458:=n8_;have GW458:=n9_;have GE458:=n10_;have NB440_458:=n11_;have NB458_440:=n12_;have NB441_458:=n13_;have NB458_441:=n14_;clear n0_ n1_ n2_ n3_ n4_ n5_ n6_ n7_ n8_ n9_ n10_ n11_ n12_ n13_ n14_;clear hb hbox hg;obtain ⟨Ao10,co10,eo10⟩:=Kd.R_slice HO444.out;subst eo10;have hnb11:=NB458_440.out;have hnc11:=NB440_458.out;have hnb12:=NB458_441.out;have hnc12:=NB441_458.out;have hcz13_0 : w9.cell? ⟨gb458,0,none⟩ = some (.slice none 0 0):=(blk_cell BK458.out 0).trans rfl;have hcz13_1 : w9.cell? ⟨gb458,1,none⟩ = some (.slice none 0 0):=(blk_cell BK458.out 1).trans rfl;have hcz13_2 : w9.cell? ⟨gb458,2,none⟩ = some (.slice none 0 0):=(blk_cell BK458.out 2).trans rfl;have hcz13_3 : w9.cell? ⟨gb458,3,none⟩ = some (.slice none 0 0):=(blk_cell BK458.out 3).trans rfl;have hcz13_4 : w9.cell? ⟨gb458,4,none⟩ = some (.slice none 0 0):=(blk_cell BK458.out 4).trans rfl;have hfz13_0:=blk_frozen BK458.out 0;have hfz13_1:=blk_frozen BK458.out 1;have hfz13_2:=blk_frozen BK458.out 2;have hfz13_3:=blk_frozen BK458.out 3;have hfz13_4:=blk_frozen BK458.out 4;obtain ⟨Ao14,co14,eo14⟩:=Kd.R_slice HO447.out;subst eo14;obtain ⟨Ao15,co15,eo15⟩:=Kd.R_slice HO450.out;subst eo15;obtain ⟨Ao16,co16,eo16⟩:=Kd.R_slice HO453.out;subst eo16;obtain ⟨Ao17,co17,eo17⟩:=Kd.R_slice HO456.out;subst eo17)|((with_reducible refine gate_dst (N:=6) rfl ?_);refine box_event ?hg (N:=6) ?hd (cs:=#[.slice none 0 0,.slice none 0 0]) (t:=25) ?hr ?_;(case hd => rfl);(case hg => rfl);(case hr => first|(go_simp;done)|(go_simp;rfl));intro gb459 hg w18 hbox hb;have n0_:=aMx14 (Kd.R_below (by (with_reducible repeat (first|apply Kd.R_alloc|apply Kd.R_drewN|apply Kd.R_drew));exact (Kd.R_mono (Kd.R_far (p:=⟨gb458,4,none⟩) (Kd.R_far (p:=⟨gb458,3,none⟩) (Kd.R_far (p:=⟨gb458,2,none⟩) (Kd.R_far (p:=⟨gb458,1,none⟩) (Kd.R_far (p:=⟨gb458,0,none⟩) (Kd.R_types HO444.out BK458.out (by decide)) (fun _ hk => hk.2) (.slice Ao10 t442.length co10)) (fun _ hk => hk.2) (.slice Ao14 t445.length co14)) (fun _ hk => hk.2) (.slice Ao15 t448.length co15)) (fun _ hk => hk.2) (.slice Ao16 t451.length co16)) (fun _ hk => hk.2) (.slice Ao17 t454.length co17)) (fun _ h_ => h_.1))) hb);have n1_:=aMx14 (Kd.R_below (by (with_reducible repeat (first|apply Kd.R_alloc|apply Kd.R_drewN|apply Kd.R_drew));exact (Kd.R_mono (Kd.R_far (p:=⟨gb458,4,none⟩) (Kd.R_far (p:=⟨gb458,3,none⟩) (Kd.R_far (p:=⟨gb458,2,none⟩) (Kd.R_far (p:=⟨gb458,1,none⟩) (Kd.R_far (p:=⟨gb458,0,none⟩) (Kd.R_types HO447.out BK458.out (by decide)) (fun _ hk => hk.2) (.slice Ao10 t442.length co10)) (fun _ hk => hk.2) (.slice Ao14 t445.length co14)) (fun _ hk => hk.2) (.slice Ao15 t448.length co15)) (fun _ hk => hk.2) (.slice Ao16 t451.length co16)) (fun _ hk => hk.2) (.slice Ao17 t454.length co17)) (fun _ h_ => h_.1))) hb);have n2_:=aMx14 (Kd.R_below (by (with_reducible repeat (first|apply Kd.R_alloc|apply Kd.R_drewN|apply Kd.R_drew));exact (Kd.R_mono (Kd.R_far (p:=⟨gb458,4,none⟩) (Kd.R_far (p:=⟨gb458,3,none⟩) (Kd.R_far (p:=⟨gb458,2,none⟩) (Kd.R_far (p:=⟨gb458,1,none⟩) (Kd.R_far (p:=⟨gb458,0,none⟩) (Kd.R_types HO450.out BK458.out (by decide)) (fun _ hk => hk.2) (.slice Ao10 t442.length co10)) (fun _ hk => hk.2) (.slice Ao14 t445.length co14)) (fun _ hk => hk.2) (.slice Ao15 t448.length co15)) (fun _ hk => hk.2) (.slice Ao16 t451.length co16)) (fun _ hk => hk.2) (.slice Ao17 t454.length co17)) (fun _ h_ => h_.1))) hb);have n3_:=aMx14 (Kd.R_below (by (with_reducible repeat (first|apply Kd.R_alloc|apply Kd.R_drewN|apply Kd.R_drew));exact (Kd.R_mono (Kd.R_far (p:=⟨gb458,4,none⟩) (Kd.R_far (p:=⟨gb458,3,none⟩) (Kd.R_far (p:=⟨gb458,2,none⟩) (Kd.R_far (p:=⟨gb458,1,none⟩) (Kd.R_far (p:=⟨gb458,0,none⟩) (Kd.R_types HO453.out BK458.out (by decide)) (fun _ hk => hk.2) (.slice Ao10 t442.length co10)) (fun _ hk => hk.2) (.slice Ao14 t445.length co14)) (fun _ hk => hk.2) (.slice Ao15 t448.length co15)) (fun _ hk => hk.2) (.slice Ao16 t451.length co16)) (fun _ hk => hk.2) (.slice Ao17 t454.length co17)) (fun _ h_ => h_.1))) hb);have n4_:=aMx14 (Kd.R_below (by (with_reducible repeat (first|apply Kd.R_alloc|apply Kd.R_drewN|apply Kd.R_drew));exact (Kd.R_mono (Kd.R_far (p:=⟨gb458,4,none⟩) (Kd.R_far (p:=⟨gb458,3,none⟩) (Kd.R_far (p:=⟨gb458,2,none⟩) (Kd.R_far (p:=⟨gb458,1,none⟩) (Kd.R_far (p:=⟨gb458,0,none⟩) (Kd.R_types HO456.out BK458.out (by decide)) (fun _ hk => hk.2) (.slice Ao10 t442.length co10)) (fun _ hk => hk.2) (.slice Ao14 t445.length co14)) (fun _ hk => hk.2) (.slice Ao15 t448.length co15)) (fun _ hk => hk.2) (.slice Ao16 t451.length co16)) (fun _ hk => hk.2) (.slice Ao17 t454.length co17)) (fun _ h_ => h_.1))) hb);have n5_:=aMx14 (blk_below (g:=gb440) (o:=.cells #[.slice A0_0 l0_0.length c0_0,.slice A0_1 l0_1.length c0_1] 25 (0,0)) (by (with_reducible repeat (first|refine blk_drewN ?_ _|refine blk_drew ?_|refine blk_alloc ?_ _));refine blk_far ?_ NB440_458.out _;(with_reducible repeat (first|refine blk_drewN ?_ _|refine blk_drew ?_|refine blk_alloc ?_ _));refine blk_far ?_ NB440_458.out _;(with_reducible repeat (first|refine blk_drewN ?_ _|refine blk_drew ?_|refine blk_alloc ?_ _));refine blk_far ?_ NB440_458.out _;(with_reducible repeat (first|refine blk_drewN ?_ _|refine blk_drew ?_|refine blk_alloc ?_ _));refine blk_far ?_ NB440_458.out _;(with_reducible repeat (first|refine blk_drewN ?_ _|refine blk_drew ?_|refine blk_alloc ?_ _));refine blk_far ?_ NB440_458.out _;(with_reducible repeat (first|refine blk_drewN ?_ _|refine blk_drew ?_|refine blk_alloc ?_ _));exact BK440.out) hb);have n6_:=aMx14 (blk_below (g:=gb441) (o:=.cells #[.slice none 0 0,.slice none 0 0] 25 (0,0)) (by (with_reducible repeat (first|refine blk_drewN ?_ _|refine blk_drew ?_|refine blk_alloc ?_ _));refine blk_far ?_ NB441_458.out _;(with_reducible repeat (first|refine blk_drewN ?_ _|refine blk_drew ?_|refine blk_alloc ?_ _));refine blk_far ?_ NB441_458.out _;(with_reducible repeat (first|refine blk_drewN ?_ _|refine blk_drew ?_|refine blk_alloc ?_ _));refine blk_far ?_ NB441_458.out _;(with_reducible repeat (first|refine blk_drewN ?_ _|refine blk_drew ?_|refine blk_alloc ?_ _));refine blk_far ?_ NB441_458.out _;(with_reducible repeat (first|refine blk_drewN ?_ _|refine blk_drew ?_|refine blk_alloc ?_ _));refine blk_far ?_ NB441_458.out _;(with_reducible repeat (first|refine blk_drewN ?_ _|refine blk_drew ?_|refine blk_alloc ?_ _));exact BK441.out) hb);have n7_:=aMx14 (blk_below (g:=gb458) (o:=.cells #[.slice Ao10 t442.length co10,.slice Ao14 t445.length co14,.slice Ao15 t448.length co15,.slice Ao16 t451.length co16,.slice Ao17 t454.length co17] 37 (0,0)) (by (with_reducible repeat (first|refine blk_drewN ?_ _|refine blk_drew ?_|refine blk_alloc ?_ _));refine blk_put (cs:=#[.slice Ao10 t442.length co10,.slice Ao14 t445.length co14,.slice Ao15 t448.length co15,.slice Ao16 t451.length co16,.slice none 0 0]) ?_ 4 _ rfl;(with_reducible repeat (first|refine blk_drewN ?_ _|refine blk_drew ?_|refine blk_alloc ?_ _));refine blk_put (cs:=#[.slice Ao10 t442.length co10,.slice Ao14 t445.length co14,.slice Ao15 t448.length co15,.slice none 0 0,.slice none 0 0]) ?_ 3 _ rfl;(with_reducible repeat (first|refine blk_drewN ?_ _|refine blk_drew ?_|refine blk_alloc ?_ _));refine blk_put (cs:=#[.slice Ao10 t442.length co10,.slice Ao14 t445.length co14,.slice none 0 0,.slice none 0 0,.slice none 0 0]) ?_ 2 _ rfl;(with_reducible repeat (first|refine blk_drewN ?_ _|refine blk_drew ?_|refine blk_alloc ?_ _));refine blk_put (cs:=#[.slice Ao10 t442.length co10,.slice none 0 0,.slice none 0 0,.slice none 0 0,.slice none 0 0]) ?_ 1 _ rfl;(with_reducible repeat (first|refine blk_drewN ?_ _|refine blk_drew ?_|refine blk_alloc ?_ _));refine blk_put (cs:=#[.slice none 0 0,.slice none 0 0,.slice none 0 0,.slice none 0 0,.slice none 0 0]) ?_ 0 _ rfl;(with_reducible repeat (first|refine blk_drewN ?_ _|refine blk_drew ?_|refine blk_alloc ?_ _));exact BK458.out) hb);have n8_:=aMx14 (below_step (by repeat (first|(with_reducible first|exact HB.out|apply below_alloc|apply pw_below_drewN|apply below_drew1|refine below_set ?_ GE440.out|refine below_set ?_ GE441.out|refine below_set ?_ GE458.out)|exact HB.out)) hb);have n9_:=aMx14 (hbox);have n10_:=aMx14 ((by rw [hg];exact (below_size (by repeat (first|(with_reducible first|exact HB.out|apply below_alloc|apply pw_below_drewN|apply below_drew1|refine below_set ?_ GE440.out|refine below_set ?_ GE441.out|refine below_set ?_ GE458.out)|exact HB.out))) : w.heap.size ≤ gb459));have n11_:=aMx14 ((by rw [hg];exact (below_size (by repeat (first|(with_reducible first|exact HB.out|apply below_alloc|apply pw_below_drewN|apply below_drew1|refine below_set ?_ GE440.out|refine below_set ?_ GE441.out|refine below_set ?_ GE458.out)|exact HB.out))) : w.heap.size ≤ gb459));have n12_:=aMx14 ((by rw [hg];exact Nat.ne_of_lt (blk_lt (g:=gb440) (o:=.cells #[.slice A0_0 l0_0.length c0_0,.slice A0_1 l0_1.length c0_1] 25 (0,0)) (by (with_reducible repeat (first|refine blk_drewN ?_ _|refine blk_drew ?_|refine blk_alloc ?_ _));refine blk_far ?_ NB440_458.out _;(with_reducible repeat (first|refine blk_drewN ?_ _|refine blk_drew ?_|refine blk_alloc ?_ _));refine blk_far ?_ NB440_458.out _;(with_reducible repeat (first|refine blk_drewN ?_ _|refine blk_drew ?_|refine blk_alloc ?_ _));refine blk_far ?_ NB440_458.out _;(with_reducible repeat (first|refine blk_drewN ?_ _|refine blk_drew ?_|refine blk_alloc ?_ _));refine blk_far ?_ NB440_458.out _;(with_reducible repeat (first|refine blk_drewN ?_ _|refine blk_drew ?_|refine blk_alloc ?_ _));refine blk_far ?_ NB440_458.out _;(with_reducible repeat (first|refine blk_drewN ?_ _|refine blk_drew ?_|refine blk_alloc ?_ _));exact BK440.out)) : gb440 ≠ gb459));have n13_:=aMx14 ((by rw [hg];exact Nat.ne_of_gt (blk_lt (g:=gb440) (o:=.cells #[.slice A0_0 l0_0.length c0_0,.slice A0_1 l0_1.length c0_1] 25 (0,0)) (by (with_reducible repeat (first|refine blk_drewN ?_ _|refine blk_drew ?_|refine blk_alloc ?_ _));refine blk_far ?_ NB440_458.out _;(with_reducible repeat (first|refine blk_drewN ?_ _|refine blk_drew ?_|refine blk_alloc ?_ _));refine blk_far ?_ NB440_458.out _;(with_reducible repeat (first|refine blk_drewN ?_ _|refine blk_drew ?_|refine blk_alloc ?_ _));refine blk_far ?_ NB440_458.out _;(with_reducible repeat (first|refine blk_drewN ?_ _|refine blk_drew ?_|refine blk_alloc ?_ _));refine blk_far ?_ NB440_458.out _;(with_reducible repeat (first|refine blk_drewN ?_ _|refine blk_drew ?_|refine blk_alloc ?_ _));refine blk_far ?_ NB440_458.out _;(with_reducible repeat (first|refine blk_drewN ?_ _|refine blk_drew ?_|refine blk_alloc ?_ _));exact BK440.out)) : gb459 ≠ gb440));have n14_:=aMx14 ((by rw [hg];exact Nat.ne_of_lt (blk_lt (g:=gb441) (o:=.cells #[.slice none 0 0,.slice none 0 0] 25 (0,0)) (by (with_reducible repeat (first|refine blk_drewN ?_ _|refine blk_drew ?_|refine blk_alloc ?_ _));refine blk_far ?_ NB441_458.out _;(with_reducible repeat (first|refine blk_drewN ?_ _|refine blk_drew ?_|refine blk_alloc ?_ _));refine blk_far ?_ NB441_458.out _;(with_reducible repeat (first|refine blk_drewN ?_ _|refine blk_drew ?_|refine blk_alloc ?_ _));refine blk_far ?_ NB441_458.out _;(with_reducible repeat (first|refine blk_drewN ?_ _|refine blk_drew ?_|refine blk_alloc ?_ _));refine blk_far ?_ NB441_458.out _;(with_reducible repeat (first|refine blk_drewN ?_ _|refine blk_drew ?_|refine blk_alloc ?_ _));refine blk_far ?_ NB441_458.out _;(with_reducible repeat (first|refine blk_drewN ?_ _|refine blk_drew ?_|refine blk_alloc ?_ _));exact BK441.out)) : gb441 ≠ gb459));have n15_:=aMx14 ((by rw [hg];exact Nat.ne_of_gt (blk_lt (g:=gb441) (o:=.cells #[.slice none 0 0,.slice none 0 0] 25 (0,0)) (by (with_reducible repeat (first|refine blk_drewN ?_ _|refine blk_drew ?_|refine blk_alloc ?_ _));refine blk_far ?_ NB441_458.out _;(with_reducible repeat (first|refine blk_drewN ?_ _|refine blk_drew ?_|refine blk_alloc ?_ _));refine blk_far ?_ NB441_458.out _;(with_reducible repeat (first|refine blk_drewN ?_ _|refine blk_drew ?_|refine blk_alloc ?_ _));refine blk_far ?_ NB441_458.out _;(with_reducible repeat (first|refine blk_drewN ?_ _|refine blk_drew ?_|refine blk_alloc ?_ _));refine blk_far ?_ NB441_458.out _;(with_reducible repeat (first|refine blk_drewN ?_ _|refine blk_drew ?_|refine blk_alloc ?_ _));refine blk_far ?_ NB441_458.out _;(with_reducible repeat (first|refine blk_drewN ?_ _|refine blk_drew ?_|refine blk_alloc ?_ _));exact BK441.out)) : gb459 ≠ gb441));have n16_:=aMx14 ((by rw [hg];exact Nat.ne_of_lt (blk_lt (g:=gb458) (o:=.cells #[.slice Ao10 t442.length co10,.slice Ao14 t445.length co14,.slice Ao15 t448.length co15,.slice Ao16 t451.length co16,.slice Ao17 t454.length co17] 37 (0,0)) (by (with_reducible repeat (first|refine blk_drewN ?_ _|refine blk_drew ?_|refine blk_alloc ?_ _));refine blk_put (cs:=#[.slice Ao10 t442.length co10,.slice Ao14 t445.length co14,.slice Ao15 t448.length co15,.slice Ao16 t451.length co16,.slice none 0 0]) ?_ 4 _ rfl;(with_reducible repeat (first|refine blk_drewN ?_ _|refine blk_drew ?_|refine blk_alloc ?_ _));refine blk_put (cs:=#[.slice Ao10 t442.length co10,.slice Ao14 t445.length co14,.slice Ao15 t448.length co15,.slice none 0 0,.slice none 0 0]) ?_ 3 _ rfl;(with_reducible repeat (first|refine blk_drewN ?_ _|refine blk_drew ?_|refine blk_alloc ?_ _));refine blk_put (cs:=#[.slice Ao10 t442.length co10,.slice Ao14 t445.length co14,.slice none 0 0,.slice none 0 0,.slice none 0 0]) ?_ 2 _ rfl;(with_reducible repeat (first|refine blk_drewN ?_ _|refine blk_drew ?_|refine blk_alloc ?_ _));refine blk_put (cs:=#[.slice Ao10 t442.length co10,.slice none 0 0,.slice none 0 0,.slice none 0 0,.slice none 0 0]) ?_ 1 _ rfl;(with_reducible repeat (first|refine blk_drewN ?_ _|refine blk_drew ?_|refine blk_alloc ?_ _));refine blk_put (cs:=#[.slice none 0 0,.slice none 0 0,.slice none 0 0,.slice none 0 0,.slice none 0 0]) ?_ 0 _ rfl;(with_reducible repeat (first|refine blk_drewN ?_ _|refine blk_drew ?_|refine blk_alloc ?_ _));exact BK458.out)) : gb458 ≠ gb459));have n17_:=aMx14 ((by rw [hg];exact Nat.ne_of_gt (blk_lt (g:=gb458) (o:=.cells #[.slice Ao10 t442.length co10,.slice Ao14 t445.length co14,.slice Ao15 t448.length co15,.slice Ao16 t451.length co16,.slice Ao17 t454.length co17] 37 (0,0)) (by (with_reducible repeat (first|refine blk_drewN ?_ _|refine blk_drew ?_|refine blk_alloc ?_ _));refine blk_put (cs:=#[.slice Ao10 t442.length co10,.slice Ao14 t445.length co14,.slice Ao15 t448.length co15,.slice Ao16 t451.length co16,.slice none 0 0]) ?_ 4 _ rfl;(with_reducible repeat (first|refine blk_drewN ?_ _|refine blk_drew ?_|refine blk_alloc ?_ _));refine blk_put (cs:=#[.slice Ao10 t442.length co10,.slice Ao14 t445.length co14,.slice Ao15 t448.length co15,.slice none 0 0,.slice none 0 0]) ?_ 3 _ rfl;(with_reducible repeat (first|refine blk_drewN ?_ _|refine blk_drew ?_|refine blk_alloc ?_ _));refine blk_put (cs:=#[.slice Ao10 t442.length co10,.slice Ao14 t445.length co14,.slice none 0 0,.slice none 0 0,.slice none 0 0]) ?_ 2 _ rfl;(with_reducible repeat (first|refine blk_drewN ?_ _|refine blk_drew ?_|refine blk_alloc ?_ _));refine blk_put (cs:=#[.slice Ao10 t442.length co10,.slice none 0 0,.slice none 0 0,.slice none 0 0,.slice none 0 0]) ?_ 1 _ rfl;(with_reducible repeat (first|refine blk_drewN ?_ _|refine blk_drew ?_|refine blk_alloc ?_ _));refine blk_put (cs:=#[.slice none 0 0,.slice none 0 0,.slice none 0 0,.slice none 0 0,.slice none 0 0]) ?_ 0 _ rfl;(with_reducible repeat (first|refine blk_drewN ?_ _|refine blk_drew ?_|refine blk_alloc ?_ _));exact BK458.out)) : gb459 ≠ gb458));clear HO444;clear HO447;clear HO450;clear HO453;clear HO456;clear BK440;clear BK441;clear BK458;clear HB;have HO444:=n0_;have HO447:=n1_;have HO450:=n2_;have HO453:=n3_;have HO456:=n4_;have BK440:=n5_;have BK441:=n6_;have BK458:=n7_;have HB:=n8_;have BK459:=n9_;have GW459:=n10_;have GE459:=n11_;have NB440_459:=n12_;have NB459_440:=n13_;have NB441_459:=n14_;have NB459_441:=n15_;have NB458_459:=n16_;have NB459_458:=n17_;clear n0_ n1_ n2_ n3_ n4_ n5_ n6_ n7_ n8_ n9_ n10_ n11_ n12_ n13_ n14_ n15_ n16_ n17_;clear hb hbox hg;have hnb19:=NB459_440.out;have hnc19:=NB440_459.out;have hnb20:=NB459_441.out;have hnc20:=NB441_459.out;have hnb21:=NB459_458.out;have hnc21:=NB458_459.out;have hcz22_0 : w18.cell? ⟨gb459,0,none⟩ = some (.slice none 0 0):=(blk_cell BK459.out 0).trans rfl;have hcz22_1 : w18.cell? ⟨gb459,1,none⟩ = some (.slice none 0 0):=(blk_cell BK459.out 1).trans rfl;have hfz22_0:=blk_frozen BK459.out 0;have hfz22_1:=blk_frozen BK459.out 1))
  go_loopg [7] k (fun kq v7 w' => ∃ (x7_1 : Int) (x460000_1 : List (S46)) (u460000 : Value),v7 = .int .i64 x7_1 ∧ Aside0 (lapidaryref11_Canon.l0 kq x7_1 l0_0 l0_1 t442 t445 t448 t451 t454 x460000_1 t448 = some (r1,r2,r3)) ∧ Aside0 (kq ≤ k) ∧ Aside0 (Kd.R (Kd.int .i64) 3 w' w.heap.size (fun k_ => some k_ ≠ ((.slice Ao14 t445.length co14) : Value).ownBlock) (.slice Ao10 t442.length co10) t442) ∧ Aside0 (Kd.R (Kd.int .i64) 3 w' w.heap.size (fun k_ => some k_ ≠ ((.slice Ao10 t442.length co10) : Value).ownBlock) (.slice Ao14 t445.length co14) t445) ∧ Aside0 (Kd.R k47 47 w' w.heap.size (fun _ => True) (.slice Ao15 t448.length co15) t448) ∧ Aside0 (Kd.R k107 107 w' w.heap.size (fun _ => True) (.slice Ao16 t451.length co16) t451) ∧ Aside0 (Kd.R k62 62 w' w.heap.size (fun _ => True) (.slice Ao17 t454.length co17) t454) ∧ Aside0 (Kd.R k46 46 w' w.heap.size (fun _ => True) u460000 x460000_1) ∧ Aside0 (Kd.R k47 47 w' w.heap.size (fun _ => True) (.slice Ao15 t448.length co15) t448) ∧ Aside0 (w'.heap[gb440]? = some (.cells #[(.slice A0_0 l0_0.length c0_0),(.slice A0_1 l0_1.length c0_1)] 25 (0,0))) ∧ Aside0 (w'.heap[gb441]? = some (.cells #[(.slice none 0 0),(.slice none 0 0)] 25 (0,0))) ∧ Aside0 (w'.heap[gb458]? = some (.cells #[(.slice Ao10 t442.length co10),(.slice Ao14 t445.length co14),(.slice Ao15 t448.length co15),(.slice Ao16 t451.length co16),(.slice Ao17 t454.length co17)] 37 (0,0))) ∧ Aside0 (w'.heap[gb459]? = some (.cells #[u460000,(.slice Ao15 t448.length co15)] 25 (0,0))) ∧ Aside0 (Below w.heap.size w w'))
  case atStart => exact ⟨(0),(([] : List (S46))),(.slice none 0 0),(by first | rfl | (simp;done) | (simp [*];done) | (simp [wrap64];done)),H',⟨Nat.le_refl _⟩,⟨by (with_reducible repeat (first | apply Kd.R_alloc | apply Kd.R_drewN | apply Kd.R_drew));exact Kd.R_mono (Kd.R_far (p:=⟨gb459,1,none⟩) (Kd.R_far (p:=⟨gb459,0,none⟩) (Kd.R_types HO444.out BK459.out (by decide)) (fun _ hk => hk.2) (.slice none 0 0)) (fun _ hk => hk.2) (.slice Ao15 t448.length co15)) (fun _ hk => hk.1)⟩,⟨by (with_reducible repeat (first | apply Kd.R_alloc | apply Kd.R_drewN | apply Kd.R_drew));exact Kd.R_mono (Kd.R_far (p:=⟨gb459,1,none⟩) (Kd.R_far (p:=⟨gb459,0,none⟩) (Kd.R_types HO447.out BK459.out (by decide)) (fun _ hk => hk.2) (.slice none 0 0)) (fun _ hk => hk.2) (.slice Ao15 t448.length co15)) (fun _ hk => hk.1)⟩,⟨by (with_reducible repeat (first | apply Kd.R_alloc | apply Kd.R_drewN | apply Kd.R_drew));exact Kd.R_mono (Kd.R_far (p:=⟨gb459,1,none⟩) (Kd.R_far (p:=⟨gb459,0,none⟩) (Kd.R_types HO450.out BK459.out (by decide)) (fun _ hk => hk.2) (.slice none 0 0)) (fun _ hk => hk.2) (.slice Ao15 t448.length co15)) (fun _ hk => trivial)⟩,⟨by (with_reducible repeat (first | apply Kd.R_alloc | apply Kd.R_drewN | apply Kd.R_drew));exact Kd.R_mono (Kd.R_far (p:=⟨gb459,1,none⟩) (Kd.R_far (p:=⟨gb459,0,none⟩) (Kd.R_types HO453.out BK459.out (by decide)) (fun _ hk => hk.2) (.slice none 0 0)) (fun _ hk => hk.2) (.slice Ao15 t448.length co15)) (fun _ hk => trivial)⟩,⟨by (with_reducible repeat (first | apply Kd.R_alloc | apply Kd.R_drewN | apply Kd.R_drew));exact Kd.R_mono (Kd.R_far (p:=⟨gb459,1,none⟩) (Kd.R_far (p:=⟨gb459,0,none⟩) (Kd.R_types HO456.out BK459.out (by decide)) (fun _ hk => hk.2) (.slice none 0 0)) (fun _ hk => hk.2) (.slice Ao15 t448.length co15)) (fun _ hk => trivial)⟩,⟨by first | exact Kd.R_nil _ _ _ _ _ | exact Kd.N_nil _ _ _ _ _ | exact Kd.V_nil _ _ _ _ _ | exact Kd.Q_nil _ _ _ _ _ | exact Kd.S_nil _ _ _ _ _⟩,⟨by (with_reducible repeat (first | apply Kd.R_alloc | apply Kd.R_drewN | apply Kd.R_drew));exact Kd.R_mono (Kd.R_far (p:=⟨gb459,1,none⟩) (Kd.R_far (p:=⟨gb459,0,none⟩) (Kd.R_types HO450.out BK459.out (by decide)) (fun _ hk => hk.2) (.slice none 0 0)) (fun _ hk => hk.2) (.slice Ao15 t448.length co15)) (fun _ hk => trivial)⟩,⟨by (with_reducible repeat (first | refine blk_drewN ?_ _ | refine blk_drew ?_ | refine blk_alloc ?_ _));refine blk_far ?_ NB440_459.out _;(with_reducible repeat (first | refine blk_drewN ?_ _ | refine blk_drew ?_ | refine blk_alloc ?_ _));refine blk_far ?_ NB440_459.out _;(with_reducible repeat (first | refine blk_drewN ?_ _ | refine blk_drew ?_ | refine blk_alloc ?_ _));exact BK440.out⟩,⟨by (with_reducible repeat (first | refine blk_drewN ?_ _ | refine blk_drew ?_ | refine blk_alloc ?_ _));refine blk_far ?_ NB441_459.out _;(with_reducible repeat (first | refine blk_drewN ?_ _ | refine blk_drew ?_ | refine blk_alloc ?_ _));refine blk_far ?_ NB441_459.out _;(with_reducible repeat (first | refine blk_drewN ?_ _ | refine blk_drew ?_ | refine blk_alloc ?_ _));exact BK441.out⟩,⟨by (with_reducible repeat (first | refine blk_drewN ?_ _ | refine blk_drew ?_ | refine blk_alloc ?_ _));refine blk_far ?_ NB458_459.out _;(with_reducible repeat (first | refine blk_drewN ?_ _ | refine blk_drew ?_ | refine blk_alloc ?_ _));refine blk_far ?_ NB458_459.out _;(with_reducible repeat (first | refine blk_drewN ?_ _ | refine blk_drew ?_ | refine blk_alloc ?_ _));exact BK458.out⟩,⟨by (with_reducible repeat (first | refine blk_drewN ?_ _ | refine blk_drew ?_ | refine blk_alloc ?_ _));refine blk_put (cs:=#[.slice none 0 0,.slice none 0 0]) ?_ 1 _ rfl;(with_reducible repeat (first | refine blk_drewN ?_ _ | refine blk_drew ?_ | refine blk_alloc ?_ _));refine blk_put (cs:=#[.slice none 0 0,.slice none 0 0]) ?_ 0 _ rfl;(with_reducible repeat (first | refine blk_drewN ?_ _ | refine blk_drew ?_ | refine blk_alloc ?_ _));exact BK459.out⟩,⟨by repeat (first | (with_reducible first | exact HB.out | apply below_alloc | apply pw_below_drewN | apply below_drew1 | refine below_set ?_ GE440.out | refine below_set ?_ GE441.out | refine below_set ?_ GE458.out | refine below_set ?_ GE459.out) | exact HB.out)⟩⟩
  case round =>
   clear H'
   (try clear c1);(try clear c2);(try clear p2);(try clear c3);(try clear c3b0);(try clear c3b1);(try clear c6);(try clear c11);(try clear c12);(try clear c19);(try clear c20);(try clear c21);(try clear c22);(try clear hcz13_0);(try clear hcz13_1);(try clear hcz13_2);(try clear hcz13_3);(try clear hcz13_4);(try clear hcz22_0);(try clear hcz22_1);(try clear hcz7_0);(try clear hcz7_1);(try clear hfz13_0);(try clear hfz13_1);(try clear hfz13_2);(try clear hfz13_3);(try clear hfz13_4);(try clear hfz22_0);(try clear hfz22_1);(try clear hfz7_0);(try clear hfz7_1)
   obtain ⟨x7_1,x460000_1,u460000,rfl,HA,HK1,HO_459000,HO_459001,HO_459002,HO_459003,HO_459004,HO_460000,HO_460001,BK440,BK441,BK458,BK459,HB⟩:=hrel
   cases gk with
   | zero => exact absurd HA.out (by simp [lapidaryref11_Canon.l0])
   | succ k1 =>
    have H:=HA.out
    clear HA
    simp only [lapidaryref11_Canon.l0] at H
    by_cases c23 : x7_1 < (t442.length : Int)
    ·rw [if_pos c23] at H
     have c23b0 : decide (x7_1 < (t442.length : Int)) = true:=decide_eq_true c23
     clear c23
     by_cases c24 : 0 ≤ x7_1
     ·rw [if_pos c24] at H
      have c24b0 : decide (0 ≤ x7_1) = true:=decide_eq_true c24
      clear c24
      by_cases c25 : 0 ≤ (rd t442 x7_1)
      ·rw [if_pos c25] at H
       have c25b0 : decide (0 ≤ (rd t442 x7_1)) = true:=decide_eq_true c25
       clear c25
       by_cases c26 : (rd t442 x7_1) < (l0_0.length : Int)
       ·rw [if_pos c26] at H
        have c26b0 : decide ((rd t442 x7_1) < (l0_0.length : Int)) = true:=decide_eq_true c26
        clear c26
        by_cases c27 : x460000_1.length < 5864062014805
        ·rw [if_pos c27] at H
         have LMc27:=aMx14 c27
         clear c27
         obtain ⟨y462,hy462⟩ : ∃ y_ : List (S46),y_ = (x460000_1++[(⟨(rd_T46 l0_0 (rd t442 x7_1)).f0,(rd_T46 l0_0 (rd t442 x7_1)).f1,(rd_T46 l0_0 (rd t442 x7_1)).f2⟩ : S46)]):=⟨_,rfl⟩
         replace H : (lapidaryref11_Canon.l0 k1 (wrap64 (x7_1+1)) l0_0 l0_1 t442 t445 t448 t451 t454 y462 t448) = some (r1,r2,r3):=by first | (rw [hy462];with_reducible exact H) | (have H2_:=(Option.bind_some _ _).symm.trans H;rw [hy462];with_reducible exact H2_) | (have H2_:=(Option.bind_some _ _).symm.trans H;with_reducible exact H2_) | with_reducible exact H | (rw [hy462];exact H) | exact H
         have Ny462:=aMx14 hy462
         clear hy462
         have H':=aMx14 H
         clear H
         have hnb28:=NB458_440.out
         have hnc28:=NB440_458.out
         have hnb29:=NB458_441.out
         have hnc29:=NB441_458.out
         have hnb30:=NB458_459.out
         have hnc30:=NB459_458.out
         have hcz31_0 : wr.cell? ⟨gb458,0,none⟩ = some (.slice Ao10 t442.length co10):=(blk_cell BK458.out 0).trans rfl
         have hcz31_1 : wr.cell? ⟨gb458,1,none⟩ = some (.slice Ao14 t445.length co14):=(blk_cell BK458.out 1).trans rfl
         have hcz31_2 : wr.cell? ⟨gb458,2,none⟩ = some (.slice Ao15 t448.length co15):=(blk_cell BK458.out 2).trans rfl
         have hcz31_3 : wr.cell? ⟨gb458,3,none⟩ = some (.slice Ao16 t451.length co16):=(blk_cell BK458.out 3).trans rfl
         have hcz31_4 : wr.cell? ⟨gb458,4,none⟩ = some (.slice Ao17 t454.length co17):=(blk_cell BK458.out 4).trans rfl
         have hfz31_0:=blk_frozen BK458.out 0
         have hfz31_1:=blk_frozen BK458.out 1
         have hfz31_2:=blk_frozen BK458.out 2
         have hfz31_3:=blk_frozen BK458.out 3
         have hfz31_4:=blk_frozen BK458.out 4
         try go_wp2
         have n0_:=aMx14 (Kd.R_drew HO_459000.out)
         have n1_:=aMx14 (Kd.R_drew HO_459001.out)
         have n2_:=aMx14 (Kd.R_drew HO_459002.out)
         have n3_:=aMx14 (Kd.R_drew HO_459003.out)
         have n4_:=aMx14 (Kd.R_drew HO_459004.out)
         have n5_:=aMx14 (Kd.R_drew HO_460000.out)
         have n6_:=aMx14 (Kd.R_drew HO_460001.out)
         have n7_:=aMx14 (blk_drew BK440.out)
         have n8_:=aMx14 (blk_drew BK441.out)
         have n9_:=aMx14 (blk_drew BK458.out)
         have n10_:=aMx14 (blk_drew BK459.out)
         have n11_:=aMx14 (below_drew1 HB.out)
         clear HO_459000
         clear HO_459001
         clear HO_459002
         clear HO_459003
         clear HO_459004
         clear HO_460000
         clear HO_460001
         clear BK440
         clear BK441
         clear BK458
         clear BK459
         clear HB
         have HO_459000:=n0_
         have HO_459001:=n1_
         have HO_459002:=n2_
         have HO_459003:=n3_
         have HO_459004:=n4_
         have HO_460000:=n5_
         have HO_460001:=n6_
         have BK440:=n7_
         have BK441:=n8_
         have BK458:=n9_
         have BK459:=n10_
         have HB:=n11_
         clear n0_ n1_ n2_ n3_ n4_ n5_ n6_ n7_ n8_ n9_ n10_ n11_
         have p460 : 0 ≤ (x7_1 : Int):=of_decide_eq_true (by first | (with_reducible assumption) | assumption)
         have q460 : x7_1 < (t442.length : Int):=of_decide_eq_true (by first | (with_reducible assumption) | assumption)
         obtain ⟨ad460,e460,hx460_0⟩:=Kd.at_int (Kd.R_reads' HO_459000.out).2.2 x7_1 p460 q460
         cases e460
         replace p460:=eq_true p460
         replace q460:=eq_true q460
         have p461 : 0 ≤ ((rd t442 x7_1) : Int):=of_decide_eq_true (by first | (with_reducible assumption) | assumption)
         have q461 : (rd t442 x7_1) < (l0_0.length : Int):=of_decide_eq_true (by first | (with_reducible assumption) | assumption)
         obtain ⟨ad461,e461,hx461_0,hx461_1,hx461_2⟩:=at_T46 HR0_0.out (rd t442 x7_1) p461 q461
         have hw461_2:=hx461_2
         have hw461_1:=hx461_1
         have hw461_0:=hx461_0
         cases e461
         replace hx461_0:=(HB.out.cell (World.block_lt_of_cell? w _ hx461_0)).trans hx461_0
         replace hx461_1:=(HB.out.cell (World.block_lt_of_cell? w _ hx461_1)).trans hx461_1
         replace hx461_2:=(HB.out.cell (World.block_lt_of_cell? w _ hx461_2)).trans hx461_2
         replace p461:=eq_true p461
         replace q461:=eq_true q461
         refine start_ (n:=15) (S:=fun w' => w'.cell? ⟨gb459,0,none⟩ = some (u460000) ∧ w'.cell? ⟨gb459,1,none⟩ = some (.slice Ao15 t448.length co15) ∧ w'.cell? ⟨gb440,0,none⟩ = some (.slice (some ad461) l0_0.length c0_0) ∧ w'.cell? ⟨gb440,1,none⟩ = some (.slice A0_1 l0_1.length c0_1) ∧ w'.cell? ⟨gb458,0,none⟩ = some (.slice (some ad460) t442.length co10) ∧ w'.cell? ⟨gb458,1,none⟩ = some (.slice Ao14 t445.length co14) ∧ w'.cell? ⟨gb458,2,none⟩ = some (.slice Ao15 t448.length co15) ∧ w'.cell? ⟨gb458,3,none⟩ = some (.slice Ao16 t451.length co16) ∧ w'.cell? ⟨gb458,4,none⟩ = some (.slice Ao17 t454.length co17) ∧ w'.cell? (ad460.add (x7_1).toNat) = some (.int .i64 (rd t442 x7_1)) ∧ w'.cell? (ad461.add (((rd t442 x7_1)).toNat * 3)) = some (.int .i64 ((rd_T46 l0_0 (rd t442 x7_1)).f0)) ∧ w'.cell? ⟨(ad461.add (((rd t442 x7_1)).toNat * 3)).block,(ad461.add (((rd t442 x7_1)).toNat * 3)).off+1,none⟩ = some (.int .i64 ((rd_T46 l0_0 (rd t442 x7_1)).f1)) ∧ w'.cell? ⟨(ad461.add (((rd t442 x7_1)).toNat * 3)).block,(ad461.add (((rd t442 x7_1)).toNat * 3)).off+2,none⟩ = some (.int .i64 ((rd_T46 l0_0 (rd t442 x7_1)).f2))) (ds:=[12,14]) #[false,false,false,false,false,false,false,false,false,false,false,false,false,false,false] (by kernel_rfl) rfl rfl ⟨(blk_cell BK459.out 0).trans rfl,(blk_cell BK459.out 1).trans rfl,(blk_cell BK440.out 0).trans rfl,(blk_cell BK440.out 1).trans rfl,(blk_cell BK458.out 0).trans rfl,(blk_cell BK458.out 1).trans rfl,(blk_cell BK458.out 2).trans rfl,(blk_cell BK458.out 3).trans rfl,(blk_cell BK458.out 4).trans rfl,hx460_0,((HB.out.cell (World.block_lt_of_cell? w _ hw461_0)).trans hw461_0),((HB.out.cell (World.block_lt_of_cell? w _ hw461_1)).trans hw461_1),((HB.out.cell (World.block_lt_of_cell? w _ hw461_2)).trans hw461_2)⟩ (fun hHeld => ?_);refine with_tabW lapidaryref11_Canon.tab8 lapidaryref11_Canon.bits8 (fun HT_ HW_ => ?_)
         generalize wr.drew = w32 at HO_459000 HO_459001 HO_459002 HO_459003 HO_459004 HO_460000 HO_460001 BK440 BK441 BK458 BK459 HB hx460_0 hx461_0 hx461_1 hx461_2 hHeld ⊢
         refine pure_ (i:=0) (N:=some 27) (v:=?_) (a':=?_) #[true,false,false,false,false,false,false,false,false,false,false,false,false,false,false] rfl rfl (any_of HT_.out (by kernel_rfl)) (fun _ _ _ h => h) (Or.inl ⟨by rfl,?_⟩) ?_ ?_
         rotate_left
         ·intro w'
          go_simp
          with_reducible rfl
         rotate_left
         ·simp only [Act.put,sAx14,sBx14,sCx14,i64_w,i32_w]
          rfl
         refine pure_ (i:=2) (N:=some 29) (v:=?_) (a':=?_) #[true,false,true,false,false,false,false,false,false,false,false,false,false,false,false] rfl rfl (any_of HT_.out (by kernel_rfl)) (fun _ _ _ h => h) (Or.inl ⟨by rfl,?_⟩) ?_ ?_
         rotate_left
         ·intro w'
          go_simp
          with_reducible rfl
         rotate_left
         ·simp only [Act.put,sAx14,sBx14,sCx14,i64_w,i32_w]
          rfl
         refine pure_ (i:=4) (N:=some 31) (v:=?_) (a':=?_) #[true,false,true,false,true,false,false,false,false,false,false,false,false,false,false] rfl rfl (any_of HT_.out (by kernel_rfl)) (fun _ _ _ h => h) (Or.inl ⟨by rfl,?_⟩) ?_ ?_
         rotate_left
         ·intro w'
          go_simp
          with_reducible rfl
         rotate_left
         ·simp only [Act.put,sAx14,sBx14,sCx14,i64_w,i32_w]
          rfl
         refine pure_ (i:=6) (N:=some 33) (v:=?_) (a':=?_) #[true,false,true,false,true,false,true,false,false,false,false,false,false,false,false] rfl rfl (any_of HT_.out (by kernel_rfl)) (fun _ _ _ h => h) (Or.inl ⟨by rfl,?_⟩) ?_ ?_
         rotate_left
         ·intro w'
          go_simp
          with_reducible rfl
         rotate_left
         ·simp only [Act.put,sAx14,sBx14,sCx14,i64_w,i32_w]
          rfl
         refine take_ (i:=1) (N:=some 28) (v:=?_) (a':=?_) #[true,true,true,false,true,false,true,false,false,false,false,false,false,false,false] rfl rfl (take_ofW HT_.out HW_.out (by kernel_rfl)) (fun _ _ _ h => h) (Or.inl ⟨by rfl,?_⟩) hHeld ?_ ?_
         rotate_left
         ·rintro w' ⟨s0,s1,s2,s3,s4,s5,s6,s7,s8,s9,s10,s11,s12⟩
          go_simp
          with_reducible rfl
         rotate_left
         ·simp only [Act.put,sAx14,sBx14,sCx14,i64_w,i32_w]
          rfl
         refine take_ (i:=3) (N:=some 30) (v:=?_) (a':=?_) #[true,true,true,true,true,false,true,false,false,false,false,false,false,false,false] rfl rfl (take_ofW HT_.out HW_.out (by kernel_rfl)) (fun _ _ _ h => h) (Or.inl ⟨by rfl,?_⟩) hHeld ?_ ?_
         rotate_left
         ·rintro w' ⟨s0,s1,s2,s3,s4,s5,s6,s7,s8,s9,s10,s11,s12⟩
          go_simp
          with_reducible rfl
         rotate_left
         ·simp only [Act.put,sAx14,sBx14,sCx14,i64_w,i32_w]
          rfl
         refine take_ (i:=5) (N:=some 32) (v:=?_) (a':=?_) #[true,true,true,true,true,true,true,false,false,false,false,false,false,false,false] rfl rfl (take_ofW HT_.out HW_.out (by kernel_rfl)) (fun _ _ _ h => h) (Or.inl ⟨by rfl,?_⟩) hHeld ?_ ?_
         rotate_left
         ·rintro w' ⟨s0,s1,s2,s3,s4,s5,s6,s7,s8,s9,s10,s11,s12⟩
          go_simp
          with_reducible rfl
         rotate_left
         ·simp only [Act.put,sAx14,sBx14,sCx14,i64_w,i32_w]
          rfl
         refine pure_ (i:=7) (N:=some 34) (v:=?_) (a':=?_) #[true,true,true,true,true,true,true,true,false,false,false,false,false,false,false] rfl rfl (any_of HT_.out (by kernel_rfl)) (fun _ _ _ h => h) (Or.inl ⟨by rfl,?_⟩) ?_ ?_
         rotate_left
         ·intro w'
          go_simp
          with_reducible rfl
         rotate_left
         ·simp only [Act.put,sAx14,sBx14,sCx14,i64_w,i32_w]
          rfl
         refine take_ (i:=8) (N:=some 35) (v:=?_) (a':=?_) #[true,true,true,true,true,true,true,true,true,false,false,false,false,false,false] rfl rfl (take_ofW HT_.out HW_.out (by kernel_rfl)) (fun _ _ _ h => h) (Or.inl ⟨by rfl,?_⟩) hHeld ?_ ?_
         rotate_left
         ·rintro w' ⟨s0,s1,s2,s3,s4,s5,s6,s7,s8,s9,s10,s11,s12⟩
          go_simp
          with_reducible rfl
         rotate_left
         ·simp only [Act.put,sAx14,sBx14,sCx14,i64_w,i32_w]
          rfl
         refine pure_ (i:=9) (N:=some 36) (v:=?_) (a':=?_) #[true,true,true,true,true,true,true,true,true,true,false,false,false,false,false] rfl rfl (any_of HT_.out (by kernel_rfl)) (fun _ _ _ h => h) (Or.inl ⟨by rfl,?_⟩) ?_ ?_
         rotate_left
         ·intro w'
          go_simp
          with_reducible rfl
         rotate_left
         ·simp only [Act.put,sAx14,sBx14,sCx14,i64_w,i32_w]
          rfl
         refine take_ (i:=10) (N:=some 37) (v:=?_) (a':=?_) #[true,true,true,true,true,true,true,true,true,true,true,false,false,false,false] rfl rfl (take_ofW HT_.out HW_.out (by kernel_rfl)) (fun _ _ _ h => h) (Or.inl ⟨by rfl,?_⟩) hHeld ?_ ?_
         rotate_left
         ·rintro w' ⟨s0,s1,s2,s3,s4,s5,s6,s7,s8,s9,s10,s11,s12⟩
          go_simp
          with_reducible rfl
         rotate_left
         ·simp only [Act.put,sAx14,sBx14,sCx14,i64_w,i32_w]
          rfl
         refine one_ (i:=11) (N:=some 38) #[true,true,true,true,true,true,true,true,true,true,true,true,false,false,false] rfl rfl (one_of HT_.out (by kernel_rfl)) (by decide) (fun K hK => ?_)
         refine value_ (w1:=?_) (v:=?_) (by rfl) rfl ?_ ?_
         rotate_left 2
         ·go_simp
          constructor
          ·rfl
          ·rfl
         refine hK.out _ _ ⟨(blk_cell (blk_alloc BK459.out _) 0).trans rfl,(blk_cell (blk_alloc BK459.out _) 1).trans rfl,(blk_cell (blk_alloc BK440.out _) 0).trans rfl,(blk_cell (blk_alloc BK440.out _) 1).trans rfl,(blk_cell (blk_alloc BK458.out _) 0).trans rfl,(blk_cell (blk_alloc BK458.out _) 1).trans rfl,(blk_cell (blk_alloc BK458.out _) 2).trans rfl,(blk_cell (blk_alloc BK458.out _) 3).trans rfl,(blk_cell (blk_alloc BK458.out _) 4).trans rfl,(World.cell?_alloc_lt _ _ _ (World.block_lt_of_cell? _ _ (hHeld.2.2.2.2.2.2.2.2.2.1))).trans (hHeld.2.2.2.2.2.2.2.2.2.1),(World.cell?_alloc_lt _ _ _ (World.block_lt_of_cell? _ _ (((HB.out.cell (World.block_lt_of_cell? w _ hw461_0)).trans hw461_0)))).trans (((HB.out.cell (World.block_lt_of_cell? w _ hw461_0)).trans hw461_0)),(World.cell?_alloc_lt _ _ _ (World.block_lt_of_cell? _ _ (((HB.out.cell (World.block_lt_of_cell? w _ hw461_1)).trans hw461_1)))).trans (((HB.out.cell (World.block_lt_of_cell? w _ hw461_1)).trans hw461_1)),(World.cell?_alloc_lt _ _ _ (World.block_lt_of_cell? _ _ (((HB.out.cell (World.block_lt_of_cell? w _ hw461_2)).trans hw461_2)))).trans (((HB.out.cell (World.block_lt_of_cell? w _ hw461_2)).trans hw461_2))⟩ (fun hHeld => ?_)
         clear hK K
         refine norm_ (a':=?_) ?_ ?_
         rotate_left
         ·show Act.put _ (some 38) _ = _
          simp only [Act.put,sAx14,sBx14,sCx14,i64_w,i32_w]
          rfl
         refine last_ (i:=12) (N:=some 39) #[true,true,true,true,true,true,true,true,true,true,true,true,true,false,false] rfl rfl (one_of HT_.out (by kernel_rfl)) (by decide) (fun K hK => ?_)
         refine Kd.R_append_step k46 (w0:=w) w.heap.size (by rfl) (.tmp 28) (.tmp 38) 22 46 (.agg #[(.int .i64 0),(.int .i64 0),(.int .i64 0)]) 24 rfl Tryd.underlying22 info46 rfl (by decide) (by omega) u460000 x460000_1 (⟨(rd_T46 l0_0 (rd t442 x7_1)).f0,(rd_T46 l0_0 (rd t442 x7_1)).f1,(rd_T46 l0_0 (rd t442 x7_1)).f2⟩ : S46) [.int .i64 ((rd_T46 l0_0 (rd t442 x7_1)).f0),.int .i64 ((rd_T46 l0_0 (rd t442 x7_1)).f1),.int .i64 ((rd_T46 l0_0 (rd t442 x7_1)).f2)] (fun _ => True) (fun _ => False) rfl rfl ?aP (fun _ hk => hk.elim) ?aF ?aO ?aB ?aS ?aL ?_
         (case aP => exact k46_mkM _ _ _ (⟨(rd_T46 l0_0 (rd t442 x7_1)).f0,(rd_T46 l0_0 (rd t442 x7_1)).f1,(rd_T46 l0_0 (rd t442 x7_1)).f2⟩ : S46))
         (case aB => exact (by repeat (first|(with_reducible first|exact HB.out|apply below_alloc|apply pw_below_drewN|apply below_drew1|refine below_set ?_ GE440.out|refine below_set ?_ GE441.out|refine below_set ?_ GE458.out|refine below_set ?_ GE459.out)|exact HB.out)))
         (case aF => exact (fun _ _ => trivial))
         (case aO => exact (by (with_reducible repeat (first|apply Kd.R_alloc|apply Kd.R_drewN|apply Kd.R_drew));exact HO_460000.out))
         (case aS => exact (below_size (by repeat (first|(with_reducible first|exact HB.out|apply below_alloc|apply pw_below_drewN|apply below_drew1|refine below_set ?_ GE440.out|refine below_set ?_ GE441.out|refine below_set ?_ GE458.out|refine below_set ?_ GE459.out)|exact HB.out))))
         (case aL => have:=LMc27.out;omega)
         intro v463 w33 ho hb hg hat
         rw [← Ny462.out] at ho
         have n0_:=aMx14 (Kd.R_over' (by (with_reducible repeat (first | apply Kd.R_alloc | apply Kd.R_drewN | apply Kd.R_drew));exact HO_459000.out) (Kd.R_typed (by (with_reducible repeat (first | apply Kd.R_alloc | apply Kd.R_drewN | apply Kd.R_drew));exact HO_460000.out)) (by decide) hg)
         have n1_:=aMx14 (Kd.R_over' (by (with_reducible repeat (first | apply Kd.R_alloc | apply Kd.R_drewN | apply Kd.R_drew));exact HO_459001.out) (Kd.R_typed (by (with_reducible repeat (first | apply Kd.R_alloc | apply Kd.R_drewN | apply Kd.R_drew));exact HO_460000.out)) (by decide) hg)
         have n2_:=aMx14 (Kd.R_over' (by (with_reducible repeat (first | apply Kd.R_alloc | apply Kd.R_drewN | apply Kd.R_drew));exact HO_459002.out) (Kd.R_typed (by (with_reducible repeat (first | apply Kd.R_alloc | apply Kd.R_drewN | apply Kd.R_drew));exact HO_460000.out)) (by decide) hg)
         have n3_:=aMx14 (Kd.R_over' (by (with_reducible repeat (first | apply Kd.R_alloc | apply Kd.R_drewN | apply Kd.R_drew));exact HO_459003.out) (Kd.R_typed (by (with_reducible repeat (first | apply Kd.R_alloc | apply Kd.R_drewN | apply Kd.R_drew));exact HO_460000.out)) (by decide) hg)
         have n4_:=aMx14 (Kd.R_over' (by (with_reducible repeat (first | apply Kd.R_alloc | apply Kd.R_drewN | apply Kd.R_drew));exact HO_459004.out) (Kd.R_typed (by (with_reducible repeat (first | apply Kd.R_alloc | apply Kd.R_drewN | apply Kd.R_drew));exact HO_460000.out)) (by decide) hg)
         have n5_:=aMx14 (Kd.R_over' (by (with_reducible repeat (first | apply Kd.R_alloc | apply Kd.R_drewN | apply Kd.R_drew));exact HO_460001.out) (Kd.R_typed (by (with_reducible repeat (first | apply Kd.R_alloc | apply Kd.R_drewN | apply Kd.R_drew));exact HO_460000.out)) (by decide) hg)
         have n6_:=aMx14 (blk_grown (g:=gb440) (o:=.cells #[.slice (some ad461) l0_0.length c0_0,.slice A0_1 l0_1.length c0_1] 25 (0,0)) (by (with_reducible repeat (first | refine blk_drewN ?_ _ | refine blk_drew ?_ | refine blk_alloc ?_ _));exact BK440.out) hg (Kd.R_ne HO_460000.out BK440.out (by decide)))
         have n7_:=aMx14 (blk_grown (g:=gb441) (o:=.cells #[.slice none 0 0,.slice none 0 0] 25 (0,0)) (by (with_reducible repeat (first | refine blk_drewN ?_ _ | refine blk_drew ?_ | refine blk_alloc ?_ _));exact BK441.out) hg (Kd.R_ne HO_460000.out BK441.out (by decide)))
         have n8_:=aMx14 (blk_grown (g:=gb458) (o:=.cells #[.slice (some ad460) t442.length co10,.slice Ao14 t445.length co14,.slice Ao15 t448.length co15,.slice Ao16 t451.length co16,.slice Ao17 t454.length co17] 37 (0,0)) (by (with_reducible repeat (first | refine blk_drewN ?_ _ | refine blk_drew ?_ | refine blk_alloc ?_ _));exact BK458.out) hg (Kd.R_ne HO_460000.out BK458.out (by decide)))
         have n9_:=aMx14 (blk_grown (g:=gb459) (o:=.cells #[u460000,.slice Ao15 t448.length co15] 25 (0,0)) (by (with_reducible repeat (first | refine blk_drewN ?_ _ | refine blk_drew ?_ | refine blk_alloc ?_ _));exact BK459.out) hg (Kd.R_ne HO_460000.out BK459.out (by decide)))
         have n10_:=aMx14 (hb)
         have n11_:=aMx14 (ho)
         clear HO_459000
         clear HO_459001
         clear HO_459002
         clear HO_459003
         clear HO_459004
         clear HO_460001
         clear BK440
         clear BK441
         clear BK458
         clear BK459
         clear HB
         clear HO_460000
         have HO_459000:=n0_
         have HO_459001:=n1_
         have HO_459002:=n2_
         have HO_459003:=n3_
         have HO_459004:=n4_
         have HO_460001:=n5_
         have BK440:=n6_
         have BK441:=n7_
         have BK458:=n8_
         have BK459:=n9_
         have HB:=n10_
         have HO464:=n11_
         clear n0_ n1_ n2_ n3_ n4_ n5_ n6_ n7_ n8_ n9_ n10_ n11_
         clear ho hb hg hat
         obtain ⟨Ao34,co34,eo34⟩:=Kd.R_slice HO464.out
         (first | subst eo34 | (injection eo34 with f1_ f2_ f3_;have f4_:=f1_.symm;have f5_:=f3_.symm;clear f1_ f2_ f3_;subst f4_;subst f5_))
         refine hK.out _ _ ?_
         clear hK K
         refine norm_ (a':=?_) ?_ ?_
         rotate_left
         ·show Act.put _ (some 39) _ = _
          simp only [Act.put,sAx14,sBx14,sCx14,i64_w,i32_w]
          rfl
         refine pure_ (i:=13) (N:=some 40) (v:=?_) (a':=?_) #[true,true,true,true,true,true,true,true,true,true,true,true,true,true,false] rfl rfl (any_of HT_.out (by kernel_rfl)) (fun _ _ _ h => h) (Or.inl ⟨by rfl,?_⟩) ?_ ?_
         rotate_left
         ·intro w'
          go_simp
          with_reducible rfl
         rotate_left
         ·simp only [Act.put,sAx14,sBx14,sCx14,i64_w,i32_w]
          rfl
         refine last_ (i:=14) (N:=none) #[true,true,true,true,true,true,true,true,true,true,true,true,true,true,true] rfl rfl (one_of HT_.out (by kernel_rfl)) (by decide) (fun K hK => ?_)
         have hs35 : w33.cell? ⟨gb459,0,none⟩ = some (u460000):=(blk_cell BK459.out 0).trans rfl
         have hfs35:=blk_frozen BK459.out 0
         have hns35_0:=NB440_459.out
         have hns35_1:=NB441_459.out
         have hns35_2:=NB458_459.out
         have hms35_0:=NB459_440.out
         have hms35_1:=NB459_441.out
         have hms35_2:=NB459_458.out
         refine skip_ (w1:=?_) (by rfl) rfl ?_ ?_
         rotate_left
         ·go_simp
          rfl
         refine hK.out _ _ ?_
         clear hK K
         refine done_ (done_of HT_.out (by kernel_rfl)) ?_
         try go_wp2
         go_roundg k1
         case measure => have:=HK1.out;omega
         case rel => exact ⟨(wrap64 (x7_1+1)),(y462),(.slice Ao34 y462.length co34),(by first | rfl | (simp;done) | (simp [*];done) | (simp [wrap64];done)),H',⟨by have:=HK1.out;omega⟩,⟨by (with_reducible repeat (first | apply Kd.R_alloc | apply Kd.R_drewN | apply Kd.R_drew));exact Kd.R_mono (Kd.R_far (p:=⟨gb459,0,none⟩) (Kd.R_types HO_459000.out BK459.out (by decide)) (fun _ hk => hk.2) (.slice Ao34 y462.length co34)) (fun _ hk => hk.1)⟩,⟨by (with_reducible repeat (first | apply Kd.R_alloc | apply Kd.R_drewN | apply Kd.R_drew));exact Kd.R_mono (Kd.R_far (p:=⟨gb459,0,none⟩) (Kd.R_types HO_459001.out BK459.out (by decide)) (fun _ hk => hk.2) (.slice Ao34 y462.length co34)) (fun _ hk => hk.1)⟩,⟨by (with_reducible repeat (first | apply Kd.R_alloc | apply Kd.R_drewN | apply Kd.R_drew));exact Kd.R_mono (Kd.R_far (p:=⟨gb459,0,none⟩) (Kd.R_types HO_459002.out BK459.out (by decide)) (fun _ hk => hk.2) (.slice Ao34 y462.length co34)) (fun _ hk => trivial)⟩,⟨by (with_reducible repeat (first | apply Kd.R_alloc | apply Kd.R_drewN | apply Kd.R_drew));exact Kd.R_mono (Kd.R_far (p:=⟨gb459,0,none⟩) (Kd.R_types HO_459003.out BK459.out (by decide)) (fun _ hk => hk.2) (.slice Ao34 y462.length co34)) (fun _ hk => trivial)⟩,⟨by (with_reducible repeat (first | apply Kd.R_alloc | apply Kd.R_drewN | apply Kd.R_drew));exact Kd.R_mono (Kd.R_far (p:=⟨gb459,0,none⟩) (Kd.R_types HO_459004.out BK459.out (by decide)) (fun _ hk => hk.2) (.slice Ao34 y462.length co34)) (fun _ hk => trivial)⟩,⟨by (with_reducible repeat (first | apply Kd.R_alloc | apply Kd.R_drewN | apply Kd.R_drew));exact Kd.R_mono (Kd.R_far (p:=⟨gb459,0,none⟩) (Kd.R_types HO464.out BK459.out (by decide)) (fun _ hk => hk.2) (.slice Ao34 y462.length co34)) (fun _ hk => trivial)⟩,⟨by (with_reducible repeat (first | apply Kd.R_alloc | apply Kd.R_drewN | apply Kd.R_drew));exact Kd.R_mono (Kd.R_far (p:=⟨gb459,0,none⟩) (Kd.R_types HO_460001.out BK459.out (by decide)) (fun _ hk => hk.2) (.slice Ao34 y462.length co34)) (fun _ hk => trivial)⟩,⟨by (with_reducible repeat (first | refine blk_drewN ?_ _ | refine blk_drew ?_ | refine blk_alloc ?_ _));refine blk_far ?_ NB440_459.out _;(with_reducible repeat (first | refine blk_drewN ?_ _ | refine blk_drew ?_ | refine blk_alloc ?_ _));exact BK440.out⟩,⟨by (with_reducible repeat (first | refine blk_drewN ?_ _ | refine blk_drew ?_ | refine blk_alloc ?_ _));refine blk_far ?_ NB441_459.out _;(with_reducible repeat (first | refine blk_drewN ?_ _ | refine blk_drew ?_ | refine blk_alloc ?_ _));exact BK441.out⟩,⟨by (with_reducible repeat (first | refine blk_drewN ?_ _ | refine blk_drew ?_ | refine blk_alloc ?_ _));refine blk_far ?_ NB458_459.out _;(with_reducible repeat (first | refine blk_drewN ?_ _ | refine blk_drew ?_ | refine blk_alloc ?_ _));exact BK458.out⟩,⟨by (with_reducible repeat (first | refine blk_drewN ?_ _ | refine blk_drew ?_ | refine blk_alloc ?_ _));refine blk_put (cs:=#[u460000,.slice Ao15 t448.length co15]) ?_ 0 _ rfl;(with_reducible repeat (first | refine blk_drewN ?_ _ | refine blk_drew ?_ | refine blk_alloc ?_ _));exact BK459.out⟩,⟨by repeat (first | (with_reducible first | exact HB.out | apply below_alloc | apply pw_below_drewN | apply below_drew1 | refine below_set ?_ GE440.out | refine below_set ?_ GE441.out | refine below_set ?_ GE458.out | refine below_set ?_ GE459.out) | exact HB.out)⟩⟩
        ·rw [if_neg c27] at H
         exact absurd H (by simp)
       ·rw [if_neg c26] at H
        exact absurd H (by simp)
      ·rw [if_neg c25] at H
       exact absurd H (by simp)
     ·rw [if_neg c24] at H
      exact absurd H (by simp)
    ·rw [if_neg c23] at H
     have c23b0 : decide (x7_1 < (t442.length : Int)) = false:=decide_eq_false c23
     clear c23
     simp only [Option.some.injEq,Prod.mk.injEq] at H
     obtain ⟨rfl,rfl,rfl⟩:=H
     have hnb36:=NB458_440.out
     have hnc36:=NB440_458.out
     have hnb37:=NB458_441.out
     have hnc37:=NB441_458.out
     have hnb38:=NB458_459.out
     have hnc38:=NB459_458.out
     have hcz39_0 : wr.cell? ⟨gb458,0,none⟩ = some (.slice Ao10 t442.length co10):=(blk_cell BK458.out 0).trans rfl
     have hcz39_1 : wr.cell? ⟨gb458,1,none⟩ = some (.slice Ao14 t445.length co14):=(blk_cell BK458.out 1).trans rfl
     have hcz39_2 : wr.cell? ⟨gb458,2,none⟩ = some (.slice Ao15 t448.length co15):=(blk_cell BK458.out 2).trans rfl
     have hcz39_3 : wr.cell? ⟨gb458,3,none⟩ = some (.slice Ao16 t451.length co16):=(blk_cell BK458.out 3).trans rfl
     have hcz39_4 : wr.cell? ⟨gb458,4,none⟩ = some (.slice Ao17 t454.length co17):=(blk_cell BK458.out 4).trans rfl
     have hfz39_0:=blk_frozen BK458.out 0
     have hfz39_1:=blk_frozen BK458.out 1
     have hfz39_2:=blk_frozen BK458.out 2
     have hfz39_3:=blk_frozen BK458.out 3
     have hfz39_4:=blk_frozen BK458.out 4
     have hnb40:=NB459_440.out
     have hnc40:=NB440_459.out
     have hnb41:=NB459_441.out
     have hnc41:=NB441_459.out
     have hcz42_0 : wr.cell? ⟨gb459,0,none⟩ = some (u460000):=(blk_cell BK459.out 0).trans rfl
     have hcz42_1 : wr.cell? ⟨gb459,1,none⟩ = some (.slice Ao15 t448.length co15):=(blk_cell BK459.out 1).trans rfl
     have hfz42_0:=blk_frozen BK459.out 0
     have hfz42_1:=blk_frozen BK459.out 1
     obtain ⟨Ao43,co43,eo43⟩:=Kd.R_slice HO_460000.out
     subst eo43
     have hnb44:=NB441_440.out
     have hnc44:=NB440_441.out
     have hcz45_0 : wr.cell? ⟨gb441,0,none⟩ = some (.slice none 0 0):=(blk_cell BK441.out 0).trans rfl
     have hcz45_1 : wr.cell? ⟨gb441,1,none⟩ = some (.slice none 0 0):=(blk_cell BK441.out 1).trans rfl
     have hfz45_0:=blk_frozen BK441.out 0
     have hfz45_1:=blk_frozen BK441.out 1
     go_wp2
     refine bodyPost_ret (results_ct rfl _ _ gb441 25 #[.slice Ao43 x460000_1.length co43,.slice Ao15 t448.length co15] (0,0) _ rfl (by (with_reducible repeat (first | refine blk_drewN ?_ _ | refine blk_drew ?_ | refine blk_alloc ?_ _));refine blk_put (cs:=#[.slice Ao43 x460000_1.length co43,.slice none 0 0]) ?_ 1 _ rfl;(with_reducible repeat (first | refine blk_drewN ?_ _ | refine blk_drew ?_ | refine blk_alloc ?_ _));refine blk_put (cs:=#[.slice none 0 0,.slice none 0 0]) ?_ 0 _ rfl;(with_reducible repeat (first | refine blk_drewN ?_ _ | refine blk_drew ?_ | refine blk_alloc ?_ _));exact BK441.out) Tryd.underlying25 rfl (by kernel_rfl)) rfl ?_
     exact ⟨_,_,by first | rfl | (simp [errW_none,errW_some]<;>rfl) | (simp [*,errW_none,errW_some]<;>rfl),by (with_reducible repeat (first | apply Kd.R_alloc | apply Kd.R_drewN | apply Kd.R_drew));exact Kd.R_mono (Kd.R_far (p:=⟨gb441,1,none⟩) (Kd.R_far (p:=⟨gb441,0,none⟩) (Kd.R_types HO_460000.out BK441.out (by decide)) (fun _ hk => hk.2) (.slice Ao43 x460000_1.length co43)) (fun _ hk => hk.2) (.slice Ao15 t448.length co15)) (fun _ hk => trivial),by (with_reducible repeat (first | apply Kd.R_alloc | apply Kd.R_drewN | apply Kd.R_drew));exact Kd.R_mono (Kd.R_far (p:=⟨gb441,1,none⟩) (Kd.R_far (p:=⟨gb441,0,none⟩) (Kd.R_types HO_460001.out BK441.out (by decide)) (fun _ hk => hk.2) (.slice Ao43 x460000_1.length co43)) (fun _ hk => hk.2) (.slice Ao15 t448.length co15)) (fun _ hk => trivial),by repeat (first | (with_reducible first | exact HB.out | apply below_alloc | apply pw_below_drewN | apply below_drew1 | refine below_set ?_ GE440.out | refine below_set ?_ GE441.out | refine below_set ?_ GE458.out | refine below_set ?_ GE459.out) | exact HB.out)⟩
 ·rw [if_neg c3] at H
  have c3b0 : (t457 == 0) = false:=beq_eq_false_iff_ne.mpr c3
  have c3b1 : (t457 != 0) = true:=bne_iff_ne.mpr c3
  simp only [Option.some.injEq,Prod.mk.injEq] at H
  obtain ⟨rfl,rfl,rfl⟩:=H
  go_enter Tryd.func29,Tryd.ntmps29
  go_wp2_with (first|((with_reducible refine gate_dst (N:=1) rfl ?_);refine box_event ?hg (N:=1) ?hd (cs:=#[.slice A0_0 l0_0.length c0_0,.slice A0_1 l0_1.length c0_1]) (t:=25) ?hr ?_;(case hd => rfl);(case hg => rfl);(case hr => first|(go_simp;done)|(go_simp;rfl));intro gb440 hg w46 hbox hb;have n0_:=aMx14 (below_step (by repeat (with_reducible first|exact HB.out|apply below_alloc|apply pw_below_drewN|apply below_drew1)) hb);have n1_:=aMx14 (hbox);have n2_:=aMx14 ((by rw [hg];exact (below_size (by repeat (with_reducible first|exact HB.out|apply below_alloc|apply pw_below_drewN|apply below_drew1))) : w.heap.size ≤ gb440));have n3_:=aMx14 ((by rw [hg];exact (below_size (by repeat (with_reducible first|exact HB.out|apply below_alloc|apply pw_below_drewN|apply below_drew1))) : w.heap.size ≤ gb440));clear HB;have HB:=n0_;have BK440:=n1_;have GW440:=n2_;have GE440:=n3_;clear n0_ n1_ n2_ n3_;clear hb hbox hg)|((with_reducible refine gate_dst (N:=2) rfl ?_);refine box_event ?hg (N:=2) ?hd (cs:=#[.slice none 0 0,.slice none 0 0]) (t:=25) ?hr ?_;(case hd => rfl);(case hg => rfl);(case hr => first|(go_simp;done)|(go_simp;rfl));intro gb441 hg w47 hbox hb;have n0_:=aMx14 (blk_below (g:=gb440) (o:=.cells #[.slice A0_0 l0_0.length c0_0,.slice A0_1 l0_1.length c0_1] 25 (0,0)) (by (with_reducible repeat (first|refine blk_drewN ?_ _|refine blk_drew ?_|refine blk_alloc ?_ _));exact BK440.out) hb);have n1_:=aMx14 (below_step (by repeat (first|(with_reducible first|exact HB.out|apply below_alloc|apply pw_below_drewN|apply below_drew1|refine below_set ?_ GE440.out)|exact HB.out)) hb);have n2_:=aMx14 (hbox);have n3_:=aMx14 ((by rw [hg];exact (below_size (by repeat (first|(with_reducible first|exact HB.out|apply below_alloc|apply pw_below_drewN|apply below_drew1|refine below_set ?_ GE440.out)|exact HB.out))) : w.heap.size ≤ gb441));have n4_:=aMx14 ((by rw [hg];exact (below_size (by repeat (first|(with_reducible first|exact HB.out|apply below_alloc|apply pw_below_drewN|apply below_drew1|refine below_set ?_ GE440.out)|exact HB.out))) : w.heap.size ≤ gb441));have n5_:=aMx14 ((by rw [hg];exact Nat.ne_of_lt (blk_lt (g:=gb440) (o:=.cells #[.slice A0_0 l0_0.length c0_0,.slice A0_1 l0_1.length c0_1] 25 (0,0)) (by (with_reducible repeat (first|refine blk_drewN ?_ _|refine blk_drew ?_|refine blk_alloc ?_ _));exact BK440.out)) : gb440 ≠ gb441));have n6_:=aMx14 ((by rw [hg];exact Nat.ne_of_gt (blk_lt (g:=gb440) (o:=.cells #[.slice A0_0 l0_0.length c0_0,.slice A0_1 l0_1.length c0_1] 25 (0,0)) (by (with_reducible repeat (first|refine blk_drewN ?_ _|refine blk_drew ?_|refine blk_alloc ?_ _));exact BK440.out)) : gb441 ≠ gb440));clear BK440;clear HB;have BK440:=n0_;have HB:=n1_;have BK441:=n2_;have GW441:=n3_;have GE441:=n4_;have NB440_441:=n5_;have NB441_440:=n6_;clear n0_ n1_ n2_ n3_ n4_ n5_ n6_;clear hb hbox hg;have hnb48:=NB440_441.out;have hnc48:=NB441_440.out;have hcz49_0 : w47.cell? ⟨gb440,0,none⟩ = some (.slice A0_0 l0_0.length c0_0):=(blk_cell BK440.out 0).trans rfl;have hcz49_1 : w47.cell? ⟨gb440,1,none⟩ = some (.slice A0_1 l0_1.length c0_1):=(blk_cell BK440.out 1).trans rfl;have hfz49_0:=blk_frozen BK440.out 0;have hfz49_1:=blk_frozen BK440.out 1)|((with_reducible refine gate_callee (f:=22) rfl ?_);refine goesL_ (some 10) rfl rfl Tryd.func22 (by kernel_rfl) rfl #[.agg #[.slice A0_0 l0_0.length c0_0,.slice A0_1 l0_1.length c0_1]] rfl (by (try simp only [List.map_toArray,List.map_cons,List.map_nil]);first|done|rfl|(simp only [List.length_drop,List.length_take];rfl)) ?_;(with_reducible refine (lapidaryref11_Walk.calls k _ _ l0_0 _ _ l0_1 t442 t445 t448 t451 t454 t457 _ ?side1 ?side2 ?side3 ?side4 A2.out).mono ?_);(case side1 => repeat (first|exact (Kd.C_below HR0_0.out HB.out)|(with_reducible first|refine Kd.C_alloc ?_ _|refine Kd.C_drewN ?_ _|refine Kd.C_drew ?_)));(case side2 => exact HC0_0.out);(case side3 => repeat (first|exact (Kd.C_below HR0_1.out HB.out)|(with_reducible first|refine Kd.C_alloc ?_ _|refine Kd.C_drewN ?_ _|refine Kd.C_drew ?_)));(case side4 => exact HC0_1.out);rintro e w50 ⟨v443,v446,v449,v452,v455,rfl,ho0,ho1,ho2,ho3,ho4,hb⟩;refine ⟨_,rfl,?_⟩;have n0_:=aMx14 (Kd.R_lower ho0 (below_size (by repeat (first|(with_reducible first|exact HB.out|apply below_alloc|apply pw_below_drewN|apply below_drew1|refine below_set ?_ GE440.out|refine below_set ?_ GE441.out)|exact HB.out))));have n1_:=aMx14 (Kd.R_lower ho1 (below_size (by repeat (first|(with_reducible first|exact HB.out|apply below_alloc|apply pw_below_drewN|apply below_drew1|refine below_set ?_ GE440.out|refine below_set ?_ GE441.out)|exact HB.out))));have n2_:=aMx14 (Kd.R_lower ho2 (below_size (by repeat (first|(with_reducible first|exact HB.out|apply below_alloc|apply pw_below_drewN|apply below_drew1|refine below_set ?_ GE440.out|refine below_set ?_ GE441.out)|exact HB.out))));have n3_:=aMx14 (Kd.R_lower ho3 (below_size (by repeat (first|(with_reducible first|exact HB.out|apply below_alloc|apply pw_below_drewN|apply below_drew1|refine below_set ?_ GE440.out|refine below_set ?_ GE441.out)|exact HB.out))));have n4_:=aMx14 (Kd.R_lower ho4 (below_size (by repeat (first|(with_reducible first|exact HB.out|apply below_alloc|apply pw_below_drewN|apply below_drew1|refine below_set ?_ GE440.out|refine below_set ?_ GE441.out)|exact HB.out))));have n5_:=aMx14 (blk_below (g:=gb440) (o:=.cells #[.slice A0_0 l0_0.length c0_0,.slice A0_1 l0_1.length c0_1] 25 (0,0)) (by (with_reducible repeat (first|refine blk_drewN ?_ _|refine blk_drew ?_|refine blk_alloc ?_ _));exact BK440.out) hb);have n6_:=aMx14 (blk_below (g:=gb441) (o:=.cells #[.slice none 0 0,.slice none 0 0] 25 (0,0)) (by (with_reducible repeat (first|refine blk_drewN ?_ _|refine blk_drew ?_|refine blk_alloc ?_ _));exact BK441.out) hb);have n7_:=aMx14 (below_step (by repeat (first|(with_reducible first|exact HB.out|apply below_alloc|apply pw_below_drewN|apply below_drew1|refine below_set ?_ GE440.out|refine below_set ?_ GE441.out)|exact HB.out)) hb);clear BK440;clear BK441;clear HB;have HO444:=n0_;have HO447:=n1_;have HO450:=n2_;have HO453:=n3_;have HO456:=n4_;have BK440:=n5_;have BK441:=n6_;have HB:=n7_;clear n0_ n1_ n2_ n3_ n4_ n5_ n6_ n7_;(try clear hb);(try clear hb2);(try clear hk);(try clear hi);(try clear ho0);(try clear ho1);(try clear ho2);(try clear ho3);(try clear ho4))|((with_reducible refine gate_dst (N:=4) rfl ?_);refine box_event ?hg (N:=4) ?hd (cs:=#[.slice none 0 0,.slice none 0 0,.slice none 0 0,.slice none 0 0,.slice none 0 0]) (t:=37) ?hr ?_;(case hd => rfl);(case hg => rfl);(case hr => first|(go_simp;done)|(go_simp;rfl));intro gb458 hg w51 hbox hb;have n0_:=aMx14 (Kd.R_below (by (with_reducible repeat (first|apply Kd.R_alloc|apply Kd.R_drewN|apply Kd.R_drew));exact HO444.out) hb);have n1_:=aMx14 (Kd.R_below (by (with_reducible repeat (first|apply Kd.R_alloc|apply Kd.R_drewN|apply Kd.R_drew));exact HO447.out) hb);have n2_:=aMx14 (Kd.R_below (by (with_reducible repeat (first|apply Kd.R_alloc|apply Kd.R_drewN|apply Kd.R_drew));exact HO450.out) hb);have n3_:=aMx14 (Kd.R_below (by (with_reducible repeat (first|apply Kd.R_alloc|apply Kd.R_drewN|apply Kd.R_drew));exact HO453.out) hb);have n4_:=aMx14 (Kd.R_below (by (with_reducible repeat (first|apply Kd.R_alloc|apply Kd.R_drewN|apply Kd.R_drew));exact HO456.out) hb);have n5_:=aMx14 (blk_below (g:=gb440) (o:=.cells #[.slice A0_0 l0_0.length c0_0,.slice A0_1 l0_1.length c0_1] 25 (0,0)) (by (with_reducible repeat (first|refine blk_drewN ?_ _|refine blk_drew ?_|refine blk_alloc ?_ _));exact BK440.out) hb);have n6_:=aMx14 (blk_below (g:=gb441) (o:=.cells #[.slice none 0 0,.slice none 0 0] 25 (0,0)) (by (with_reducible repeat (first|refine blk_drewN ?_ _|refine blk_drew ?_|refine blk_alloc ?_ _));exact BK441.out) hb);have n7_:=aMx14 (below_step (by repeat (first|(with_reducible first|exact HB.out|apply below_alloc|apply pw_below_drewN|apply below_drew1|refine below_set ?_ GE440.out|refine below_set ?_ GE441.out)|exact HB.out)) hb);have n8_:=aMx14 (hbox);have n9_:=aMx14 ((by rw [hg];exact (below_size (by repeat (first|(with_reducible first|exact HB.out|apply below_alloc|apply pw_below_drewN|apply below_drew1|refine below_set ?_ GE440.out|refine below_set ?_ GE441.out)|exact HB.out))) : w.heap.size ≤ gb458));have n10_:=aMx14 ((by rw [hg];exact (below_size (by repeat (first|(with_reducible first|exact HB.out|apply below_alloc|apply pw_below_drewN|apply below_drew1|refine below_set ?_ GE440.out|refine below_set ?_ GE441.out)|exact HB.out))) : w.heap.size ≤ gb458));have n11_:=aMx14 ((by rw [hg];exact Nat.ne_of_lt (blk_lt (g:=gb440) (o:=.cells #[.slice A0_0 l0_0.length c0_0,.slice A0_1 l0_1.length c0_1] 25 (0,0)) (by (with_reducible repeat (first|refine blk_drewN ?_ _|refine blk_drew ?_|refine blk_alloc ?_ _));exact BK440.out)) : gb440 ≠ gb458));have n12_:=aMx14 ((by rw [hg];exact Nat.ne_of_gt (blk_lt (g:=gb440) (o:=.cells #[.slice A0_0 l0_0.length c0_0,.slice A0_1 l0_1.length c0_1] 25 (0,0)) (by (with_reducible repeat (first|refine blk_drewN ?_ _|refine blk_drew ?_|refine blk_alloc ?_ _));exact BK440.out)) : gb458 ≠ gb440));have n13_:=aMx14 ((by rw [hg];exact Nat.ne_of_lt (blk_lt (g:=gb441) (o:=.cells #[.slice none 0 0,.slice none 0 0] 25 (0,0)) (by (with_reducible repeat (first|refine blk_drewN ?_ _|refine blk_drew ?_|refine blk_alloc ?_ _));exact BK441.out)) : gb441 ≠ gb458));have n14_:=aMx14 ((by rw [hg];exact Nat.ne_of_gt (blk_lt (g:=gb441) (o:=.cells #[.slice none 0 0,.slice none 0 0] 25 (0,0)) (by (with_reducible repeat (first|refine blk_drewN ?_ _|refine blk_drew ?_|refine blk_alloc ?_ _));exact BK441.out)) : gb458 ≠ gb441));clear HO444;clear HO447;clear HO450;clear HO453;clear HO456;clear BK440;clear BK441;clear HB;have HO444:=n0_;have HO447:=n1_;have HO450:=n2_;have HO453:=n3_;have HO456:=n4_;have BK440:=n5_;have BK441:=n6_;have HB:=n7_;have BK458:=n8_;have GW458:=n9_;have GE458:=n10_;have NB440_458:=n11_;have NB458_440:=n12_;have NB441_458:=n13_;have NB458_441:=n14_;clear n0_ n1_ n2_ n3_ n4_ n5_ n6_ n7_ n8_ n9_ n10_ n11_ n12_ n13_ n14_;clear hb hbox hg;obtain ⟨Ao52,co52,eo52⟩:=Kd.R_slice HO444.out;subst eo52;have hnb53:=NB458_440.out;have hnc53:=NB440_458.out;have hnb54:=NB458_441.out;have hnc54:=NB441_458.out;have hcz55_0 : w51.cell? ⟨gb458,0,none⟩ = some (.slice none 0 0):=(blk_cell BK458.out 0).trans rfl;have hcz55_1 : w51.cell? ⟨gb458,1,none⟩ = some (.slice none 0 0):=(blk_cell BK458.out 1).trans rfl;have hcz55_2 : w51.cell? ⟨gb458,2,none⟩ = some (.slice none 0 0):=(blk_cell BK458.out 2).trans rfl;have hcz55_3 : w51.cell? ⟨gb458,3,none⟩ = some (.slice none 0 0):=(blk_cell BK458.out 3).trans rfl;have hcz55_4 : w51.cell? ⟨gb458,4,none⟩ = some (.slice none 0 0):=(blk_cell BK458.out 4).trans rfl;have hfz55_0:=blk_frozen BK458.out 0;have hfz55_1:=blk_frozen BK458.out 1;have hfz55_2:=blk_frozen BK458.out 2;have hfz55_3:=blk_frozen BK458.out 3;have hfz55_4:=blk_frozen BK458.out 4;obtain ⟨Ao56,co56,eo56⟩:=Kd.R_slice HO447.out;subst eo56;obtain ⟨Ao57,co57,eo57⟩:=Kd.R_slice HO450.out;subst eo57;obtain ⟨Ao58,co58,eo58⟩:=Kd.R_slice HO453.out;subst eo58;obtain ⟨Ao59,co59,eo59⟩:=Kd.R_slice HO456.out;subst eo59;have hcz60_0 : w51.cell? ⟨gb441,0,none⟩ = some (.slice none 0 0):=(blk_cell BK441.out 0).trans rfl;have hcz60_1 : w51.cell? ⟨gb441,1,none⟩ = some (.slice none 0 0):=(blk_cell BK441.out 1).trans rfl;have hfz60_0:=blk_frozen BK441.out 0;have hfz60_1:=blk_frozen BK441.out 1))
  refine bodyPost_ret (results_ct rfl _ _ gb441 25 #[.slice none 0 0,.slice none 0 0] (0,0) _ rfl (by (with_reducible repeat (first | refine blk_drewN ?_ _ | refine blk_drew ?_ | refine blk_alloc ?_ _));refine blk_put (cs:=#[.slice none 0 0,.slice none 0 0]) ?_ 1 _ rfl;(with_reducible repeat (first | refine blk_drewN ?_ _ | refine blk_drew ?_ | refine blk_alloc ?_ _));refine blk_put (cs:=#[.slice none 0 0,.slice none 0 0]) ?_ 0 _ rfl;(with_reducible repeat (first | refine blk_drewN ?_ _ | refine blk_drew ?_ | refine blk_alloc ?_ _));refine blk_far ?_ NB441_458.out _;(with_reducible repeat (first | refine blk_drewN ?_ _ | refine blk_drew ?_ | refine blk_alloc ?_ _));refine blk_far ?_ NB441_458.out _;(with_reducible repeat (first | refine blk_drewN ?_ _ | refine blk_drew ?_ | refine blk_alloc ?_ _));refine blk_far ?_ NB441_458.out _;(with_reducible repeat (first | refine blk_drewN ?_ _ | refine blk_drew ?_ | refine blk_alloc ?_ _));refine blk_far ?_ NB441_458.out _;(with_reducible repeat (first | refine blk_drewN ?_ _ | refine blk_drew ?_ | refine blk_alloc ?_ _));refine blk_far ?_ NB441_458.out _;(with_reducible repeat (first | refine blk_drewN ?_ _ | refine blk_drew ?_ | refine blk_alloc ?_ _));exact BK441.out) Tryd.underlying25 rfl (by kernel_rfl)) rfl ?_
  exact ⟨_,_,by first | rfl | (simp [errW_none,errW_some]<;>rfl) | (simp [*,errW_none,errW_some]<;>rfl),by first | exact Kd.R_nil _ _ _ _ _ | exact Kd.N_nil _ _ _ _ _ | exact Kd.V_nil _ _ _ _ _ | exact Kd.Q_nil _ _ _ _ _ | exact Kd.S_nil _ _ _ _ _,by first | exact Kd.R_nil _ _ _ _ _ | exact Kd.N_nil _ _ _ _ _ | exact Kd.V_nil _ _ _ _ _ | exact Kd.Q_nil _ _ _ _ _ | exact Kd.S_nil _ _ _ _ _,by repeat (first | (with_reducible first | exact HB.out | apply below_alloc | apply pw_below_drewN | apply below_drew1 | refine below_set ?_ GE440.out | refine below_set ?_ GE441.out | refine below_set ?_ GE458.out) | exact HB.out)⟩
def api_Point_81.l0 : Nat → List (S46) → List (S46) → Int → Int → Option (Bool)
  | 0, _, _, _, _ => none
  | k + 1, x0, x1, x12, x13 => if x13 < x12 then (if 0 ≤ x13 then (if x13 < (x0.length : Int) then (if x13 < (x1.length : Int) then (if (!(((rd_T46 x0 x13).f0) == ((rd_T46 x1 x13).f0)) || (!(((rd_T46 x0 x13).f1) == ((rd_T46 x1 x13).f1)) || (!(((rd_T46 x0 x13).f2) == ((rd_T46 x1 x13).f2))))) = true then (some false) else (api_Point_81.l0 k x0 x1 x12 (wrap64 (x13 + 1)))) else (none)) else (none)) else (none)) else (some true)
def api_Point_81.f (k : Nat) (l0 : List (S46)) (l1 : List (S46)) : Option (Bool) := if (l0.length : Int) = (l1.length : Int) then (api_Point_81.l0 k l0 l1 (l0.length : Int) 0) else (some false)
set_option maxHeartbeats 8000000 in
set_option maxRecDepth 100000 in
theorem api_Point_81.calls (k : Nat) (A0 : Option Addr) (c0 : Nat) (l0 : List (S46)) (A1 : Option Addr) (c1 : Nat) (l1 : List (S46)) (r : Bool) (w : World) (hr0 : Kd.C k46 w A0 l0.length l0) (hc0 : l0.length ≤ c0) (hr1 : Kd.C k46 w A1 l1.length l1) (hc1 : l1.length ≤ c1) (h : api_Point_81.f k l0 l1 = some r) :
  Calls Tryd.prog 81 #[.slice A0 l0.length c0,.slice A1 l1.length c1] w fun e w' => e = .returned (.bool r) ∧ Drawn0 w w':=by
 have hu46:=Tryd.underlying46
 have HR0:=aMx14 hr0
 have HC0:=aMx14 hc0
 clear hr0 hc0
 have HR1:=aMx14 hr1
 have HC1:=aMx14 hc1
 clear hr1 hc1
 have H : (if (l0.length : Int) = (l1.length : Int) then (api_Point_81.l0 k l0 l1 (l0.length : Int) 0) else (some false)) = some r:=h
 clear h
 by_cases c3 : (l0.length : Int) = (l1.length : Int)
 ·rw [if_pos c3] at H
  have c3b0 : ((l0.length : Int) == (l1.length : Int)) = true:=beq_iff_eq.mpr c3
  have c3b1 : ((l0.length : Int) != (l1.length : Int)) = false:=bne_eq_false_iff_eq.mpr c3
  have c3b2 : (l0.length == l1.length) = true:=by first | simpa using c3 | (simp at c3 ⊢;omega)
  clear c3
  have H':=aMx14 H
  clear H
  go_enter Tryd.func81,Tryd.ntmps81
  go_wp2
  repeat (go_quiet (fail);try go_wp2)
  go_loopg [13] k (fun kq v13 w' => ∃ (x13_1 : Int),v13 = .int .i64 x13_1 ∧ Aside0 (api_Point_81.l0 kq l0 l1 (l0.length : Int) x13_1 = some r) ∧ Aside0 (kq ≤ k) ∧ Drawn0 w w')
  case atStart => exact ⟨(0),(by first | rfl | (simp;done) | (simp [*];done) | (simp [wrap64];done)),H',⟨Nat.le_refl _⟩,by repeat (first | exact Drawn0.refl _ | apply Drawn0.step)⟩
  case round =>
   clear H'
   (try clear c1);(try clear p2);(try clear c3);(try clear c3b0);(try clear c3b1);(try clear c3b2)
   obtain ⟨x13_1,rfl,HA,HK1,⟨m1,rfl⟩⟩:=hrel
   cases gk with
   | zero => exact absurd HA.out (by simp [api_Point_81.l0])
   | succ k1 =>
    have H:=HA.out
    clear HA
    simp only [api_Point_81.l0] at H
    by_cases c4 : x13_1 < (l0.length : Int)
    ·rw [if_pos c4] at H
     have c4b0 : decide (x13_1 < (l0.length : Int)) = true:=decide_eq_true c4
     clear c4
     by_cases c5 : 0 ≤ x13_1
     ·rw [if_pos c5] at H
      have c5b0 : decide (0 ≤ x13_1) = true:=decide_eq_true c5
      clear c5
      by_cases c6 : x13_1 < (l0.length : Int)
      ·rw [if_pos c6] at H
       have c6b0 : decide (x13_1 < (l0.length : Int)) = true:=decide_eq_true c6
       clear c6
       by_cases c7 : x13_1 < (l1.length : Int)
       ·rw [if_pos c7] at H
        have c7b0 : decide (x13_1 < (l1.length : Int)) = true:=decide_eq_true c7
        clear c7
        by_cases c8 : (!(((rd_T46 l0 x13_1).f0) == ((rd_T46 l1 x13_1).f0)) || (!(((rd_T46 l0 x13_1).f1) == ((rd_T46 l1 x13_1).f1)) || (!(((rd_T46 l0 x13_1).f2) == ((rd_T46 l1 x13_1).f2))))) = true
        ·rw [if_pos c8] at H
         have c8b0 : (!(((rd_T46 l0 x13_1).f0) == ((rd_T46 l1 x13_1).f0)) || (!(((rd_T46 l0 x13_1).f1) == ((rd_T46 l1 x13_1).f1)) || (!(((rd_T46 l0 x13_1).f2) == ((rd_T46 l1 x13_1).f2))))) = true:=c8
         clear c8
         obtain rfl:=Option.some.inj H
         have p465 : 0 ≤ (x13_1 : Int):=of_decide_eq_true (by first | (with_reducible assumption) | assumption)
         have q465 : x13_1 < (l0.length : Int):=of_decide_eq_true (by first | (with_reducible assumption) | assumption)
         obtain ⟨ad465,e465,hx465_0,hx465_1,hx465_2⟩:=at_T46 HR0.out x13_1 p465 q465
         cases e465
         replace p465:=eq_true p465
         replace q465:=eq_true q465
         have p466 : 0 ≤ (x13_1 : Int):=of_decide_eq_true (by first | (with_reducible assumption) | assumption)
         have q466 : x13_1 < (l1.length : Int):=of_decide_eq_true (by first | (with_reducible assumption) | assumption)
         obtain ⟨ad466,e466,hx466_0,hx466_1,hx466_2⟩:=at_T46 HR1.out x13_1 p466 q466
         cases e466
         replace p466:=eq_true p466
         replace q466:=eq_true q466
         go_wp2
         repeat (go_quiet (fail);try go_wp2)
         go_ret
         exact ⟨by first | rfl | (simp;done) | (simp [*];done) | (simp [wrap64];done),by repeat (first | exact Drawn0.refl _ | apply Drawn0.step)⟩
        ·rw [if_neg c8] at H
         have c8b0 : (!(((rd_T46 l0 x13_1).f0) == ((rd_T46 l1 x13_1).f0)) || (!(((rd_T46 l0 x13_1).f1) == ((rd_T46 l1 x13_1).f1)) || (!(((rd_T46 l0 x13_1).f2) == ((rd_T46 l1 x13_1).f2))))) = false:=by simpa using c8
         clear c8
         have H':=aMx14 H
         clear H
         have p465 : 0 ≤ (x13_1 : Int):=of_decide_eq_true (by first | (with_reducible assumption) | assumption)
         have q465 : x13_1 < (l0.length : Int):=of_decide_eq_true (by first | (with_reducible assumption) | assumption)
         obtain ⟨ad465,e465,hx465_0,hx465_1,hx465_2⟩:=at_T46 HR0.out x13_1 p465 q465
         cases e465
         replace p465:=eq_true p465
         replace q465:=eq_true q465
         have p466 : 0 ≤ (x13_1 : Int):=of_decide_eq_true (by first | (with_reducible assumption) | assumption)
         have q466 : x13_1 < (l1.length : Int):=of_decide_eq_true (by first | (with_reducible assumption) | assumption)
         obtain ⟨ad466,e466,hx466_0,hx466_1,hx466_2⟩:=at_T46 HR1.out x13_1 p466 q466
         cases e466
         replace p466:=eq_true p466
         replace q466:=eq_true q466
         go_wp2
         repeat (go_quiet (fail);try go_wp2)
         go_roundg k1
         case measure => have:=HK1.out;omega
         case rel => exact ⟨(wrap64 (x13_1+1)),(by first | rfl | (simp;done) | (simp [*];done) | (simp [wrap64];done)),H',⟨by have:=HK1.out;omega⟩,by repeat (first | exact Drawn0.refl _ | apply Drawn0.step)⟩
       ·rw [if_neg c7] at H
        exact absurd H (by simp)
      ·rw [if_neg c6] at H
       exact absurd H (by simp)
     ·rw [if_neg c5] at H
      exact absurd H (by simp)
    ·rw [if_neg c4] at H
     have c4b0 : decide (x13_1 < (l0.length : Int)) = false:=decide_eq_false c4
     clear c4
     obtain rfl:=Option.some.inj H
     go_wp2
     repeat (go_quiet (fail);try go_wp2)
     go_ret
     exact ⟨by first | rfl | (simp;done) | (simp [*];done) | (simp [wrap64];done),by repeat (first | exact Drawn0.refl _ | apply Drawn0.step)⟩
 ·rw [if_neg c3] at H
  have c3b0 : ((l0.length : Int) == (l1.length : Int)) = false:=beq_eq_false_iff_ne.mpr c3
  have c3b1 : ((l0.length : Int) != (l1.length : Int)) = true:=bne_iff_ne.mpr c3
  have c3b2 : (l0.length == l1.length) = false:=by first | simpa using c3 | (simp at c3 ⊢;omega)
  obtain rfl:=Option.some.inj H
  go_enter Tryd.func81,Tryd.ntmps81
  go_wp2
  repeat (go_quiet (fail);try go_wp2)
  go_ret
  exact ⟨by first | rfl | (simp;done) | (simp [*];done) | (simp [wrap64];done),by repeat (first | exact Drawn0.refl _ | apply Drawn0.step)⟩
def slices_Equal_3_int_3_int.l0 : Nat → List (S47) → List (S47) → Int → Int → Option (Bool)
  | 0, _, _, _, _ => none
  | k + 1, x0, x1, x12, x13 => if x13 < x12 then (if 0 ≤ x13 then (if x13 < (x0.length : Int) then (if x13 < (x1.length : Int) then (if (!(((rd_T47 x0 x13).f0) == ((rd_T47 x1 x13).f0)) || (!(((rd_T47 x0 x13).f1) == ((rd_T47 x1 x13).f1)) || (!(((rd_T47 x0 x13).f2) == ((rd_T47 x1 x13).f2))))) = true then (some false) else (slices_Equal_3_int_3_int.l0 k x0 x1 x12 (wrap64 (x13 + 1)))) else (none)) else (none)) else (none)) else (some true)
def slices_Equal_3_int_3_int.f (k : Nat) (l0 : List (S47)) (l1 : List (S47)) : Option (Bool) := if (l0.length : Int) = (l1.length : Int) then (slices_Equal_3_int_3_int.l0 k l0 l1 (l0.length : Int) 0) else (some false)
set_option maxHeartbeats 8000000 in
set_option maxRecDepth 100000 in
theorem slices_Equal_3_int_3_int.calls (k : Nat) (A0 : Option Addr) (c0 : Nat) (l0 : List (S47)) (A1 : Option Addr) (c1 : Nat) (l1 : List (S47)) (r : Bool) (w : World) (hr0 : Kd.C k47 w A0 l0.length l0) (hc0 : l0.length ≤ c0) (hr1 : Kd.C k47 w A1 l1.length l1) (hc1 : l1.length ≤ c1) (h : slices_Equal_3_int_3_int.f k l0 l1 = some r) :
  Calls Tryd.prog 82 #[.slice A0 l0.length c0,.slice A1 l1.length c1] w fun e w' => e = .returned (.bool r) ∧ Drawn0 w w':=by
 have hu47:=Tryd.underlying47
 have HR0:=aMx14 hr0
 have HC0:=aMx14 hc0
 clear hr0 hc0
 have HR1:=aMx14 hr1
 have HC1:=aMx14 hc1
 clear hr1 hc1
 have H : (if (l0.length : Int) = (l1.length : Int) then (slices_Equal_3_int_3_int.l0 k l0 l1 (l0.length : Int) 0) else (some false)) = some r:=h
 clear h
 by_cases c3 : (l0.length : Int) = (l1.length : Int)
 ·rw [if_pos c3] at H
  have c3b0 : ((l0.length : Int) == (l1.length : Int)) = true:=beq_iff_eq.mpr c3
  have c3b1 : ((l0.length : Int) != (l1.length : Int)) = false:=bne_eq_false_iff_eq.mpr c3
  have c3b2 : (l0.length == l1.length) = true:=by first | simpa using c3 | (simp at c3 ⊢;omega)
  clear c3
  have H':=aMx14 H
  clear H
  go_enter Tryd.func82,Tryd.ntmps82
  go_wp2
  repeat (go_quiet (fail);try go_wp2)
  go_loopg [13] k (fun kq v13 w' => ∃ (x13_1 : Int),v13 = .int .i64 x13_1 ∧ Aside0 (slices_Equal_3_int_3_int.l0 kq l0 l1 (l0.length : Int) x13_1 = some r) ∧ Aside0 (kq ≤ k) ∧ Drawn0 w w')
  case atStart => exact ⟨(0),(by first | rfl | (simp;done) | (simp [*];done) | (simp [wrap64];done)),H',⟨Nat.le_refl _⟩,by repeat (first | exact Drawn0.refl _ | apply Drawn0.step)⟩
  case round =>
   clear H'
   (try clear c1);(try clear p2);(try clear c3);(try clear c3b0);(try clear c3b1);(try clear c3b2)
   obtain ⟨x13_1,rfl,HA,HK1,⟨m1,rfl⟩⟩:=hrel
   cases gk with
   | zero => exact absurd HA.out (by simp [slices_Equal_3_int_3_int.l0])
   | succ k1 =>
    have H:=HA.out
    clear HA
    simp only [slices_Equal_3_int_3_int.l0] at H
    by_cases c4 : x13_1 < (l0.length : Int)
    ·rw [if_pos c4] at H
     have c4b0 : decide (x13_1 < (l0.length : Int)) = true:=decide_eq_true c4
     clear c4
     by_cases c5 : 0 ≤ x13_1
     ·rw [if_pos c5] at H
      have c5b0 : decide (0 ≤ x13_1) = true:=decide_eq_true c5
      clear c5
      by_cases c6 : x13_1 < (l0.length : Int)
      ·rw [if_pos c6] at H
       have c6b0 : decide (x13_1 < (l0.length : Int)) = true:=decide_eq_true c6
       clear c6
       by_cases c7 : x13_1 < (l1.length : Int)
       ·rw [if_pos c7] at H
        have c7b0 : decide (x13_1 < (l1.length : Int)) = true:=decide_eq_true c7
        clear c7
        by_cases c8 : (!(((rd_T47 l0 x13_1).f0) == ((rd_T47 l1 x13_1).f0)) || (!(((rd_T47 l0 x13_1).f1) == ((rd_T47 l1 x13_1).f1)) || (!(((rd_T47 l0 x13_1).f2) == ((rd_T47 l1 x13_1).f2))))) = true
        ·rw [if_pos c8] at H
         have c8b0 : (!(((rd_T47 l0 x13_1).f0) == ((rd_T47 l1 x13_1).f0)) || (!(((rd_T47 l0 x13_1).f1) == ((rd_T47 l1 x13_1).f1)) || (!(((rd_T47 l0 x13_1).f2) == ((rd_T47 l1 x13_1).f2))))) = true:=c8
         clear c8
         obtain rfl:=Option.some.inj H
         have p467 : 0 ≤ (x13_1 : Int):=of_decide_eq_true (by first | (with_reducible assumption) | assumption)
         have q467 : x13_1 < (l0.length : Int):=of_decide_eq_true (by first | (with_reducible assumption) | assumption)
         obtain ⟨ad467,e467,hx467_0,hx467_1,hx467_2⟩:=at_T47 HR0.out x13_1 p467 q467
         cases e467
         replace p467:=eq_true p467
         replace q467:=eq_true q467
         have p468 : 0 ≤ (x13_1 : Int):=of_decide_eq_true (by first | (with_reducible assumption) | assumption)
         have q468 : x13_1 < (l1.length : Int):=of_decide_eq_true (by first | (with_reducible assumption) | assumption)
         obtain ⟨ad468,e468,hx468_0,hx468_1,hx468_2⟩:=at_T47 HR1.out x13_1 p468 q468
         cases e468
         replace p468:=eq_true p468
         replace q468:=eq_true q468
         go_wp2
         repeat (go_quiet (fail);try go_wp2)
         go_ret
         exact ⟨by first | rfl | (simp;done) | (simp [*];done) | (simp [wrap64];done),by repeat (first | exact Drawn0.refl _ | apply Drawn0.step)⟩
        ·rw [if_neg c8] at H
         have c8b0 : (!(((rd_T47 l0 x13_1).f0) == ((rd_T47 l1 x13_1).f0)) || (!(((rd_T47 l0 x13_1).f1) == ((rd_T47 l1 x13_1).f1)) || (!(((rd_T47 l0 x13_1).f2) == ((rd_T47 l1 x13_1).f2))))) = false:=by simpa using c8
         clear c8
         have H':=aMx14 H
         clear H
         have p467 : 0 ≤ (x13_1 : Int):=of_decide_eq_true (by first | (with_reducible assumption) | assumption)
         have q467 : x13_1 < (l0.length : Int):=of_decide_eq_true (by first | (with_reducible assumption) | assumption)
         obtain ⟨ad467,e467,hx467_0,hx467_1,hx467_2⟩:=at_T47 HR0.out x13_1 p467 q467
         cases e467
         replace p467:=eq_true p467
         replace q467:=eq_true q467
         have p468 : 0 ≤ (x13_1 : Int):=of_decide_eq_true (by first | (with_reducible assumption) | assumption)
         have q468 : x13_1 < (l1.length : Int):=of_decide_eq_true (by first | (with_reducible assumption) | assumption)
         obtain ⟨ad468,e468,hx468_0,hx468_1,hx468_2⟩:=at_T47 HR1.out x13_1 p468 q468
         cases e468
         replace p468:=eq_true p468
         replace q468:=eq_true q468
         go_wp2
         repeat (go_quiet (fail);try go_wp2)
         go_roundg k1
         case measure => have:=HK1.out;omega
         case rel => exact ⟨(wrap64 (x13_1+1)),(by first | rfl | (simp;done) | (simp [*];done) | (simp [wrap64];done)),H',⟨by have:=HK1.out;omega⟩,by repeat (first | exact Drawn0.refl _ | apply Drawn0.step)⟩
       ·rw [if_neg c7] at H
        exact absurd H (by simp)
      ·rw [if_neg c6] at H
       exact absurd H (by simp)
     ·rw [if_neg c5] at H
      exact absurd H (by simp)
    ·rw [if_neg c4] at H
     have c4b0 : decide (x13_1 < (l0.length : Int)) = false:=decide_eq_false c4
     clear c4
     obtain rfl:=Option.some.inj H
     go_wp2
     repeat (go_quiet (fail);try go_wp2)
     go_ret
     exact ⟨by first | rfl | (simp;done) | (simp [*];done) | (simp [wrap64];done),by repeat (first | exact Drawn0.refl _ | apply Drawn0.step)⟩
 ·rw [if_neg c3] at H
  have c3b0 : ((l0.length : Int) == (l1.length : Int)) = false:=beq_eq_false_iff_ne.mpr c3
  have c3b1 : ((l0.length : Int) != (l1.length : Int)) = true:=bne_iff_ne.mpr c3
  have c3b2 : (l0.length == l1.length) = false:=by first | simpa using c3 | (simp at c3 ⊢;omega)
  obtain rfl:=Option.some.inj H
  go_enter Tryd.func82,Tryd.ntmps82
  go_wp2
  repeat (go_quiet (fail);try go_wp2)
  go_ret
  exact ⟨by first | rfl | (simp;done) | (simp [*];done) | (simp [wrap64];done),by repeat (first | exact Drawn0.refl _ | apply Drawn0.step)⟩
def mesh_Same.f (k : Nat) (l0_0 : List (S46)) (l0_1 : List (S47)) (l1_0 : List (S46)) (l1_1 : List (S47)) : Option (Bool) := (api_Point_81.f k l0_0 l1_0).bind fun t471 => (if t471 = true then ((slices_Equal_3_int_3_int.f k l0_1 l1_1).bind fun t472 => (some t472)) else (some false))
set_option maxHeartbeats 8000000 in
set_option maxRecDepth 100000 in
theorem mesh_Same.calls (k : Nat) (A0_0 : Option Addr) (c0_0 : Nat) (l0_0 : List (S46)) (A0_1 : Option Addr) (c0_1 : Nat) (l0_1 : List (S47)) (A1_0 : Option Addr) (c1_0 : Nat) (l1_0 : List (S46)) (A1_1 : Option Addr) (c1_1 : Nat) (l1_1 : List (S47)) (r : Bool) (w : World) (hr0_0 : Kd.C k46 w A0_0 l0_0.length l0_0) (hc0_0 : l0_0.length ≤ c0_0) (hr0_1 : Kd.C k47 w A0_1 l0_1.length l0_1) (hc0_1 : l0_1.length ≤ c0_1) (hr1_0 : Kd.C k46 w A1_0 l1_0.length l1_0) (hc1_0 : l1_0.length ≤ c1_0) (hr1_1 : Kd.C k47 w A1_1 l1_1.length l1_1) (hc1_1 : l1_1.length ≤ c1_1) (h : mesh_Same.f k l0_0 l0_1 l1_0 l1_1 = some r) :
  Calls Tryd.prog 64 #[.agg #[.slice A0_0 l0_0.length c0_0,.slice A0_1 l0_1.length c0_1],.agg #[.slice A1_0 l1_0.length c1_0,.slice A1_1 l1_1.length c1_1]] w fun e w' => e = .returned (.bool r) ∧ Below w.heap.size w w':=by
 have hu25:=Tryd.underlying25
 have HR0_0:=aMx14 hr0_0
 have HC0_0:=aMx14 hc0_0
 clear hr0_0 hc0_0
 have HR0_1:=aMx14 hr0_1
 have HC0_1:=aMx14 hc0_1
 clear hr0_1 hc0_1
 have HR1_0:=aMx14 hr1_0
 have HC1_0:=aMx14 hc1_0
 clear hr1_0 hc1_0
 have HR1_1:=aMx14 hr1_1
 have HC1_1:=aMx14 hc1_1
 clear hr1_1 hc1_1
 have HB:=aMx14 (Below.refl w.heap.size w)
 have H : ((api_Point_81.f k l0_0 l1_0).bind fun t471 => (if t471 = true then ((slices_Equal_3_int_3_int.f k l0_1 l1_1).bind fun t472 => (some t472)) else (some false))) = some r:=h
 clear h
 replace H:=Option.bind_eq_some_iff.mp H
 obtain ⟨t471,A30,H⟩:=H
 replace H : (if t471 = true then ((slices_Equal_3_int_3_int.f k l0_1 l1_1).bind fun t472 => (some t472)) else (some false)) = some r:=H
 have A3:=aMx14 A30
 clear A30
 by_cases c4 : t471 = true
 ·subst c4
  have H1 : ((slices_Equal_3_int_3_int.f k l0_1 l1_1).bind fun t472 => (some t472)) = some r:=by rw [if_pos rfl] at H;exact H
  clear H
  have H:=H1
  clear H1
  replace H:=Option.bind_eq_some_iff.mp H
  obtain ⟨t472,A50,H⟩:=H
  replace H : (some t472) = some r:=H
  have A5:=aMx14 A50
  clear A50
  obtain rfl:=Option.some.inj H
  go_enter Tryd.func64,Tryd.ntmps64
  go_wp2_with (first|((with_reducible refine gate_dst (N:=2) rfl ?_);refine box_event ?hg (N:=2) ?hd (cs:=#[.slice A0_0 l0_0.length c0_0,.slice A0_1 l0_1.length c0_1]) (t:=25) ?hr ?_;(case hd => rfl);(case hg => rfl);(case hr => first|(go_simp;done)|(go_simp;rfl));intro gb469 hg w6 hbox hb;have n0_:=aMx14 (below_step (by repeat (with_reducible first|exact HB.out|apply below_alloc|apply pw_below_drewN|apply below_drew1)) hb);have n1_:=aMx14 (hbox);have n2_:=aMx14 ((by rw [hg];exact (below_size (by repeat (with_reducible first|exact HB.out|apply below_alloc|apply pw_below_drewN|apply below_drew1))) : w.heap.size ≤ gb469));have n3_:=aMx14 ((by rw [hg];exact (below_size (by repeat (with_reducible first|exact HB.out|apply below_alloc|apply pw_below_drewN|apply below_drew1))) : w.heap.size ≤ gb469));clear HB;have HB:=n0_;have BK469:=n1_;have GW469:=n2_;have GE469:=n3_;clear n0_ n1_ n2_ n3_;clear hb hbox hg)|((with_reducible refine gate_dst (N:=3) rfl ?_);refine box_event ?hg (N:=3) ?hd (cs:=#[.slice A1_0 l1_0.length c1_0,.slice A1_1 l1_1.length c1_1]) (t:=25) ?hr ?_;(case hd => rfl);(case hg => rfl);(case hr => first|(go_simp;done)|(go_simp;rfl));intro gb470 hg w7 hbox hb;have n0_:=aMx14 (blk_below (g:=gb469) (o:=.cells #[.slice A0_0 l0_0.length c0_0,.slice A0_1 l0_1.length c0_1] 25 (0,0)) (by (with_reducible repeat (first|refine blk_drewN ?_ _|refine blk_drew ?_|refine blk_alloc ?_ _));exact BK469.out) hb);have n1_:=aMx14 (below_step (by repeat (first|(with_reducible first|exact HB.out|apply below_alloc|apply pw_below_drewN|apply below_drew1|refine below_set ?_ GE469.out)|exact HB.out)) hb);have n2_:=aMx14 (hbox);have n3_:=aMx14 ((by rw [hg];exact (below_size (by repeat (first|(with_reducible first|exact HB.out|apply below_alloc|apply pw_below_drewN|apply below_drew1|refine below_set ?_ GE469.out)|exact HB.out))) : w.heap.size ≤ gb470));have n4_:=aMx14 ((by rw [hg];exact (below_size (by repeat (first|(with_reducible first|exact HB.out|apply below_alloc|apply pw_below_drewN|apply below_drew1|refine below_set ?_ GE469.out)|exact HB.out))) : w.heap.size ≤ gb470));have n5_:=aMx14 ((by rw [hg];exact Nat.ne_of_lt (blk_lt (g:=gb469) (o:=.cells #[.slice A0_0 l0_0.length c0_0,.slice A0_1 l0_1.length c0_1] 25 (0,0)) (by (with_reducible repeat (first|refine blk_drewN ?_ _|refine blk_drew ?_|refine blk_alloc ?_ _));exact BK469.out)) : gb469 ≠ gb470));have n6_:=aMx14 ((by rw [hg];exact Nat.ne_of_gt (blk_lt (g:=gb469) (o:=.cells #[.slice A0_0 l0_0.length c0_0,.slice A0_1 l0_1.length c0_1] 25 (0,0)) (by (with_reducible repeat (first|refine blk_drewN ?_ _|refine blk_drew ?_|refine blk_alloc ?_ _));exact BK469.out)) : gb470 ≠ gb469));clear BK469;clear HB;have BK469:=n0_;have HB:=n1_;have BK470:=n2_;have GW470:=n3_;have GE470:=n4_;have NB469_470:=n5_;have NB470_469:=n6_;clear n0_ n1_ n2_ n3_ n4_ n5_ n6_;clear hb hbox hg;have hnb8:=NB469_470.out;have hnc8:=NB470_469.out;have hcz9_0 : w7.cell? ⟨gb469,0,none⟩ = some (.slice A0_0 l0_0.length c0_0):=(blk_cell BK469.out 0).trans rfl;have hcz9_1 : w7.cell? ⟨gb469,1,none⟩ = some (.slice A0_1 l0_1.length c0_1):=(blk_cell BK469.out 1).trans rfl;have hfz9_0:=blk_frozen BK469.out 0;have hfz9_1:=blk_frozen BK469.out 1;have hcz10_0 : w7.cell? ⟨gb470,0,none⟩ = some (.slice A1_0 l1_0.length c1_0):=(blk_cell BK470.out 0).trans rfl;have hcz10_1 : w7.cell? ⟨gb470,1,none⟩ = some (.slice A1_1 l1_1.length c1_1):=(blk_cell BK470.out 1).trans rfl;have hfz10_0:=blk_frozen BK470.out 0;have hfz10_1:=blk_frozen BK470.out 1)|((with_reducible refine gate_callee (f:=81) rfl ?_);refine goesL_ (some 9) rfl rfl Tryd.func81 (by kernel_rfl) rfl #[.slice A0_0 l0_0.length c0_0,.slice A1_0 l1_0.length c1_0] rfl (by (try simp only [List.map_toArray,List.map_cons,List.map_nil]);first|done|rfl|(simp only [List.length_drop,List.length_take];rfl)) ?_;(with_reducible refine (api_Point_81.calls k _ _ l0_0 _ _ l1_0 true _ ?side1 ?side2 ?side3 ?side4 A3.out).mono ?_);(case side1 => repeat (first|exact (Kd.C_below HR0_0.out HB.out)|(with_reducible first|refine Kd.C_alloc ?_ _|refine Kd.C_drewN ?_ _|refine Kd.C_drew ?_)));(case side2 => exact HC0_0.out);(case side3 => repeat (first|exact (Kd.C_below HR1_0.out HB.out)|(with_reducible first|refine Kd.C_alloc ?_ _|refine Kd.C_drewN ?_ _|refine Kd.C_drew ?_)));(case side4 => exact HC1_0.out);rintro e w' ⟨rfl,⟨nd,rfl⟩⟩;refine ⟨_,rfl,?_⟩)|(go_at_call 82;(with_reducible refine (slices_Equal_3_int_3_int.calls k _ _ l0_1 _ _ l1_1 t472 _ ?side1 ?side2 ?side3 ?side4 A5.out).mono ?_);(case side1 => repeat (first|exact (Kd.C_below HR0_1.out (by repeat (first|(with_reducible first|exact HB.out|apply below_alloc|apply pw_below_drewN|apply below_drew1|refine below_set ?_ GE469.out|refine below_set ?_ GE470.out)|exact HB.out)))|(with_reducible first|refine Kd.C_alloc ?_ _|refine Kd.C_drewN ?_ _|refine Kd.C_drew ?_)));(case side2 => exact HC0_1.out);(case side3 => repeat (first|exact (Kd.C_below HR1_1.out (by repeat (first|(with_reducible first|exact HB.out|apply below_alloc|apply pw_below_drewN|apply below_drew1|refine below_set ?_ GE469.out|refine below_set ?_ GE470.out)|exact HB.out)))|(with_reducible first|refine Kd.C_alloc ?_ _|refine Kd.C_drewN ?_ _|refine Kd.C_drew ?_)));(case side4 => exact HC1_1.out);rintro e w' ⟨rfl,⟨nd,rfl⟩⟩))
  go_ret
  exact ⟨by first | rfl | (simp [errW_none,errW_some]<;>rfl) | (simp [*,errW_none,errW_some]<;>rfl),by repeat (first | (with_reducible first | exact HB.out | apply below_alloc | apply pw_below_drewN | apply below_drew1 | refine below_set ?_ GE469.out | refine below_set ?_ GE470.out) | exact HB.out)⟩
 ·replace c4:=Bool.eq_false_iff.mpr c4
  subst c4
  have H1 : (some false) = some r:=by rw [if_neg (show ¬ (false = true) by decide)] at H;exact H
  clear H
  have H:=H1
  clear H1
  obtain rfl:=Option.some.inj H
  go_enter Tryd.func64,Tryd.ntmps64
  go_wp2_with (first|((with_reducible refine gate_dst (N:=2) rfl ?_);refine box_event ?hg (N:=2) ?hd (cs:=#[.slice A0_0 l0_0.length c0_0,.slice A0_1 l0_1.length c0_1]) (t:=25) ?hr ?_;(case hd => rfl);(case hg => rfl);(case hr => first|(go_simp;done)|(go_simp;rfl));intro gb469 hg w11 hbox hb;have n0_:=aMx14 (below_step (by repeat (with_reducible first|exact HB.out|apply below_alloc|apply pw_below_drewN|apply below_drew1)) hb);have n1_:=aMx14 (hbox);have n2_:=aMx14 ((by rw [hg];exact (below_size (by repeat (with_reducible first|exact HB.out|apply below_alloc|apply pw_below_drewN|apply below_drew1))) : w.heap.size ≤ gb469));have n3_:=aMx14 ((by rw [hg];exact (below_size (by repeat (with_reducible first|exact HB.out|apply below_alloc|apply pw_below_drewN|apply below_drew1))) : w.heap.size ≤ gb469));clear HB;have HB:=n0_;have BK469:=n1_;have GW469:=n2_;have GE469:=n3_;clear n0_ n1_ n2_ n3_;clear hb hbox hg)|((with_reducible refine gate_dst (N:=3) rfl ?_);refine box_event ?hg (N:=3) ?hd (cs:=#[.slice A1_0 l1_0.length c1_0,.slice A1_1 l1_1.length c1_1]) (t:=25) ?hr ?_;(case hd => rfl);(case hg => rfl);(case hr => first|(go_simp;done)|(go_simp;rfl));intro gb470 hg w12 hbox hb;have n0_:=aMx14 (blk_below (g:=gb469) (o:=.cells #[.slice A0_0 l0_0.length c0_0,.slice A0_1 l0_1.length c0_1] 25 (0,0)) (by (with_reducible repeat (first|refine blk_drewN ?_ _|refine blk_drew ?_|refine blk_alloc ?_ _));exact BK469.out) hb);have n1_:=aMx14 (below_step (by repeat (first|(with_reducible first|exact HB.out|apply below_alloc|apply pw_below_drewN|apply below_drew1|refine below_set ?_ GE469.out)|exact HB.out)) hb);have n2_:=aMx14 (hbox);have n3_:=aMx14 ((by rw [hg];exact (below_size (by repeat (first|(with_reducible first|exact HB.out|apply below_alloc|apply pw_below_drewN|apply below_drew1|refine below_set ?_ GE469.out)|exact HB.out))) : w.heap.size ≤ gb470));have n4_:=aMx14 ((by rw [hg];exact (below_size (by repeat (first|(with_reducible first|exact HB.out|apply below_alloc|apply pw_below_drewN|apply below_drew1|refine below_set ?_ GE469.out)|exact HB.out))) : w.heap.size ≤ gb470));have n5_:=aMx14 ((by rw [hg];exact Nat.ne_of_lt (blk_lt (g:=gb469) (o:=.cells #[.slice A0_0 l0_0.length c0_0,.slice A0_1 l0_1.length c0_1] 25 (0,0)) (by (with_reducible repeat (first|refine blk_drewN ?_ _|refine blk_drew ?_|refine blk_alloc ?_ _));exact BK469.out)) : gb469 ≠ gb470));have n6_:=aMx14 ((by rw [hg];exact Nat.ne_of_gt (blk_lt (g:=gb469) (o:=.cells #[.slice A0_0 l0_0.length c0_0,.slice A0_1 l0_1.length c0_1] 25 (0,0)) (by (with_reducible repeat (first|refine blk_drewN ?_ _|refine blk_drew ?_|refine blk_alloc ?_ _));exact BK469.out)) : gb470 ≠ gb469));clear BK469;clear HB;have BK469:=n0_;have HB:=n1_;have BK470:=n2_;have GW470:=n3_;have GE470:=n4_;have NB469_470:=n5_;have NB470_469:=n6_;clear n0_ n1_ n2_ n3_ n4_ n5_ n6_;clear hb hbox hg;have hnb13:=NB469_470.out;have hnc13:=NB470_469.out;have hcz14_0 : w12.cell? ⟨gb469,0,none⟩ = some (.slice A0_0 l0_0.length c0_0):=(blk_cell BK469.out 0).trans rfl;have hcz14_1 : w12.cell? ⟨gb469,1,none⟩ = some (.slice A0_1 l0_1.length c0_1):=(blk_cell BK469.out 1).trans rfl;have hfz14_0:=blk_frozen BK469.out 0;have hfz14_1:=blk_frozen BK469.out 1;have hcz15_0 : w12.cell? ⟨gb470,0,none⟩ = some (.slice A1_0 l1_0.length c1_0):=(blk_cell BK470.out 0).trans rfl;have hcz15_1 : w12.cell? ⟨gb470,1,none⟩ = some (.slice A1_1 l1_1.length c1_1):=(blk_cell BK470.out 1).trans rfl;have hfz15_0:=blk_frozen BK470.out 0;have hfz15_1:=blk_frozen BK470.out 1)|((with_reducible refine gate_callee (f:=81) rfl ?_);refine goesL_ (some 9) rfl rfl Tryd.func81 (by kernel_rfl) rfl #[.slice A0_0 l0_0.length c0_0,.slice A1_0 l1_0.length c1_0] rfl (by (try simp only [List.map_toArray,List.map_cons,List.map_nil]);first|done|rfl|(simp only [List.length_drop,List.length_take];rfl)) ?_;(with_reducible refine (api_Point_81.calls k _ _ l0_0 _ _ l1_0 false _ ?side1 ?side2 ?side3 ?side4 A3.out).mono ?_);(case side1 => repeat (first|exact (Kd.C_below HR0_0.out HB.out)|(with_reducible first|refine Kd.C_alloc ?_ _|refine Kd.C_drewN ?_ _|refine Kd.C_drew ?_)));(case side2 => exact HC0_0.out);(case side3 => repeat (first|exact (Kd.C_below HR1_0.out HB.out)|(with_reducible first|refine Kd.C_alloc ?_ _|refine Kd.C_drewN ?_ _|refine Kd.C_drew ?_)));(case side4 => exact HC1_0.out);rintro e w' ⟨rfl,⟨nd,rfl⟩⟩;refine ⟨_,rfl,?_⟩))
  go_ret
  exact ⟨by first | rfl | (simp [errW_none,errW_some]<;>rfl) | (simp [*,errW_none,errW_some]<;>rfl),by repeat (first | (with_reducible first | exact HB.out | apply below_alloc | apply pw_below_drewN | apply below_drew1 | refine below_set ?_ GE469.out | refine below_set ?_ GE470.out) | exact HB.out)⟩
end Go.Proofs.YtomknjmgcbbjlaaDoor.PWlk
