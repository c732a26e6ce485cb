import Derived.Test.YtbdpfmpbooikiaaDoorPIsrx0
import Derived.Test.YtbdpfmpbooikiaaDoorPIsrx3
import Derived.Test.YtbdpfmpbooikiaaDoorPIsrx5
import Derived.Test.YtbdpfmpbooikiaaDoorPIsrx5r
import Derived.Test.YtbdpfmpbooikiaaDoorPIsrx10
import Derived.Test.YtbdpfmpbooikiaaDoorPIsrx11
import Derived.Test.YtbdpfmpbooikiaaDoorPIsrx12
import Derived.Test.YtbdpfmpbooikiaaDoorIsoStub
import Derived.Test.YtbdpfmpbooikiaaDoorIsStub
namespace Go.Proofs.YtbdpfmpbooikiaaDoor.PIsr
open Go Go.RowKit Go.Proofs.YtbdpfmpbooikiaaDoorW.PrintWords Go.Proofs.YtbdpfmpbooikiaaDoorW.PrintLast Go.Proofs.YtbdpfmpbooikiaaDoorW.PrintMore
attribute [local go_sem] max2_int min2_int max_two min_two max_three min_three max_four min_four
set_option linter.unusedVariables false
set_option linter.unusedSimpArgs false
attribute [local go_sem] idx57_0_0 idx57_1_0 idx57_2_0 idx86_0_0 idx86_1_0
theorem sAx13 {α : Type _} {l : List α} {i : Nat} {a : α} : l.toArray.setIfInBounds i a = (l.set i a).toArray := List.setIfInBounds_toArray ..
theorem sBx13 {α : Type _} {x y : α} {l : List α} : (x :: l).set 0 y = y :: l := rfl
theorem sCx13 {α : Type _} {x y : α} {l : List α} {i : Nat} : (x :: l).set (i + 1) y = x :: l.set i y := rfl
theorem aMx13 {p : Prop} (h : p) : Aside0 p := ⟨h⟩
noncomputable def lapidarylaw13_IsoIs.j0 : Nat → List Int → Bool → List (S45) → List (S57) → List (S45) → List (S57) → Option (Bool)
  | 0, _, _, _, _, _, _ => none
  | k + 1, x2, x21, x242000, x242001, x243000, x243001 => if x21 = true then ((lapidarylaw13_known.f).bind fun t245 => (some t245)) else ((iso_Renamed.f k x242000 x242001 x2).bind fun bt246 => ((lapidaryref13_Renamed.f k x242000 x242001 x2).bind fun bt254 => ((iso_Is.f x242000 x242001 x243000 x243001 x2).bind fun t262 => ((lapidaryref13_Is.f k x242000 x242001 x243000 x243001 x2).bind fun t263 => (if (t262 == t263) = true then ((lapidaryref10_Same.f k bt246.1 bt246.2.1 bt254.1 bt254.2.1).bind fun t264 => (if t264 = true then (if bt246.2.2 = bt254.2.2 then ((lapidarylaw13_known.f).bind fun t265 => (some t265)) else (some false)) else (some false))) else (some false))))))
noncomputable def lapidarylaw13_IsoIs.f (k : Nat) (l0_0 : List (S45)) (l0_1 : List (S57)) (l1_0 : List (S45)) (l1_1 : List (S57)) (l2 : List Int) : Option (Bool) := (lapidarylaw13_long.f l0_0 l0_1).bind fun t243 => (if t243 = true then (lapidarylaw13_IsoIs.j0 k l2 true l0_0 l0_1 l1_0 l1_1) else ((lapidarylaw13_long.f l1_0 l1_1).bind fun t244 => (if t244 = true then (lapidarylaw13_IsoIs.j0 k l2 true l0_0 l0_1 l1_0 l1_1) else (lapidarylaw13_IsoIs.j0 k l2 (decide ((l2.length : Int) > 60)) l0_0 l0_1 l1_0 l1_1))))
theorem lapidarylaw13_IsoIs.mono_l : ∀ k, (∀ y0 y1 y2 y3 y4 y5, LeO (lapidarylaw13_IsoIs.j0 k y0 y1 y2 y3 y4 y5) (lapidarylaw13_IsoIs.j0 (k + 1) y0 y1 y2 y3 y4 y5))
  | 0 => fun _ _ _ _ _ _ r h => by simp [lapidarylaw13_IsoIs.j0] at h
  | k + 1 => by
    have ih0 := lapidarylaw13_IsoIs.mono_l k
    · intro y0 y1 y2 y3 y4 y5
      unfold lapidarylaw13_IsoIs.j0
      repeat' first
      | (with_reducible exact ih0 _ _ _ _ _ _)
      | (with_reducible exact iso_Renamed.mono _ _ _ _)
      | (with_reducible exact lapidaryref10_Same.mono _ _ _ _ _)
      | (with_reducible exact lapidaryref13_Is.mono _ _ _ _ _ _)
      | (with_reducible exact lapidaryref13_Renamed.mono _ _ _ _)
      | (with_reducible exact LeO.refl _)
      | (with_reducible exact LeO.none _)
      | (with_reducible refine LeO.ite ?_ ?_)
      | (with_reducible refine LeO.bind ?_ (fun _ => ?_))
      | exact ih0 _ _ _ _ _ _
      | exact iso_Renamed.mono _ _ _ _
      | exact lapidaryref10_Same.mono _ _ _ _ _
      | exact lapidaryref13_Is.mono _ _ _ _ _ _
      | exact lapidaryref13_Renamed.mono _ _ _ _
      | exact LeO.none _
      | refine LeO.ite ?_ ?_
      | refine LeO.bind ?_ (fun _ => ?_)
theorem lapidarylaw13_IsoIs.mono : ∀ a0 a1 a2 a3 a4 k, LeO (lapidarylaw13_IsoIs.f k a0 a1 a2 a3 a4) (lapidarylaw13_IsoIs.f (k + 1) a0 a1 a2 a3 a4) := by
  intro a0 a1 a2 a3 a4 k
  have ih0 := lapidarylaw13_IsoIs.mono_l k
  unfold lapidarylaw13_IsoIs.f
  repeat' first
      | (with_reducible exact ih0 _ _ _ _ _ _)
      | (with_reducible exact iso_Renamed.mono _ _ _ _)
      | (with_reducible exact lapidaryref10_Same.mono _ _ _ _ _)
      | (with_reducible exact lapidaryref13_Is.mono _ _ _ _ _ _)
      | (with_reducible exact lapidaryref13_Renamed.mono _ _ _ _)
      | (with_reducible exact LeO.refl _)
      | (with_reducible exact LeO.none _)
      | (with_reducible refine LeO.ite ?_ ?_)
      | (with_reducible refine LeO.bind ?_ (fun _ => ?_))
      | exact ih0 _ _ _ _ _ _
      | exact iso_Renamed.mono _ _ _ _
      | exact lapidaryref10_Same.mono _ _ _ _ _
      | exact lapidaryref13_Is.mono _ _ _ _ _ _
      | exact lapidaryref13_Renamed.mono _ _ _ _
      | exact LeO.none _
      | refine LeO.ite ?_ ?_
      | refine LeO.bind ?_ (fun _ => ?_)
noncomputable def lapidarylaw13_IsoIs.T5 : Bool × List (List Nat × List Nat) := (true, [([], []), ([], []), ([], []), ([0, 1, 2], [0, 1, 2]), ([], []), ([], []), ([], []), ([4, 5, 6, 3], [4, 5, 6]), ([3, 7], [3, 7]), ([8, 7], [8]), ([9], [9]), ([9], [9]), ([10, 11, 9, 9], [9, 10, 11]), ([9, 12], [9, 12]), ([13, 12], [13]), ([14], [14]), ([14], [14]), ([15, 16, 14], [14, 15, 16]), ([14, 17], [14, 17]), ([18, 14], [18]), ([19, 19], [19]), ([19, 20], [19, 20]), ([21, 20, 0, 1, 2, 3, 4, 5, 6, 7, 8, 9, 10, 11, 12, 13, 14, 15, 16, 17, 18, 19, 20, 21], [21])])
noncomputable def lapidarylaw13_IsoIs.B5 : List Nat := [0, 0, 0, 7, 0, 0, 0, 127, 255, 511, 1023, 1023, 4095, 8191, 16383, 32767, 32767, 131071, 262143, 524287, 1048575, 2097151, 4194303]
theorem lapidarylaw13_IsoIs.tab5 : rtab .any (opsOf Tryd.f3 5) = lapidarylaw13_IsoIs.T5 := by kernel_rfl
theorem lapidarylaw13_IsoIs.bits5 : waitsOk lapidarylaw13_IsoIs.T5.2 lapidarylaw13_IsoIs.B5 = true := by kernel_rfl
set_option maxHeartbeats 8000000 in
set_option maxRecDepth 100000 in
theorem lapidarylaw13_IsoIs.calls (k : Nat) (A0_0 : Option Addr) (c0_0 : Nat) (l0_0 : List (S45)) (A0_1 : Option Addr) (c0_1 : Nat) (l0_1 : List (S57)) (A1_0 : Option Addr) (c1_0 : Nat) (l1_0 : List (S45)) (A1_1 : Option Addr) (c1_1 : Nat) (l1_1 : List (S57)) (A2 : Option Addr) (c2 : Nat) (l2 : List Int) (r : Bool) (w : World) (hr0_0 : Kd.C k45 w A0_0 l0_0.length l0_0) (hc0_0 : l0_0.length ≤ c0_0) (hr0_1 : Kd.C k57 w A0_1 l0_1.length l0_1) (hc0_1 : l0_1.length ≤ c0_1) (hr1_0 : Kd.C k45 w A1_0 l1_0.length l1_0) (hc1_0 : l1_0.length ≤ c1_0) (hr1_1 : Kd.C k57 w A1_1 l1_1.length l1_1) (hc1_1 : l1_1.length ≤ c1_1) (hr2 : Kd.C (Kd.int .i64) w A2 l2.length l2) (hc2 : l2.length ≤ c2) (hG : Kd.C k57 w (some ⟨0, 0, none⟩) 1 [⟨1, 2, 0⟩]) (hrt : r = true) (h : lapidarylaw13_IsoIs.f k l0_0 l0_1 l1_0 l1_1 l2 = some r) :
  Calls Tryd.prog 3 #[.agg #[.slice A0_0 l0_0.length c0_0,.slice A0_1 l0_1.length c0_1],.agg #[.slice A1_0 l1_0.length c1_0,.slice A1_1 l1_1.length c1_1],.slice A2 l2.length c2] w fun e w' => e = .returned (.bool r) ∧ Below w.heap.size w w':=by
 have HRT:=aMx13 hrt
 clear hrt
 have HG:=aMx13 hG
 clear hG
 have hu25:=Tryd.underlying25
 have HR0_0:=aMx13 hr0_0
 have HC0_0:=aMx13 hc0_0
 clear hr0_0 hc0_0
 have HR0_1:=aMx13 hr0_1
 have HC0_1:=aMx13 hc0_1
 clear hr0_1 hc0_1
 have HR1_0:=aMx13 hr1_0
 have HC1_0:=aMx13 hc1_0
 clear hr1_0 hc1_0
 have HR1_1:=aMx13 hr1_1
 have HC1_1:=aMx13 hc1_1
 clear hr1_1 hc1_1
 have HR2:=aMx13 hr2
 have HC2:=aMx13 hc2
 clear hr2 hc2
 have HB:=aMx13 (Below.refl w.heap.size w)
 have H : ((lapidarylaw13_long.f l0_0 l0_1).bind fun t243 => (if t243 = true then (lapidarylaw13_IsoIs.j0 k l2 true l0_0 l0_1 l1_0 l1_1) else ((lapidarylaw13_long.f l1_0 l1_1).bind fun t244 => (if t244 = true then (lapidarylaw13_IsoIs.j0 k l2 true l0_0 l0_1 l1_0 l1_1) else (lapidarylaw13_IsoIs.j0 k l2 (decide ((l2.length : Int) > 60)) l0_0 l0_1 l1_0 l1_1))))) = some r:=h
 clear h
 have HC4:=aMx13 H
 clear H
 go_enter Tryd.func3,Tryd.ntmps3
 go_upto_region 1 with (first | ((with_reducible refine gate_dst (N:=3) rfl ?_);(try (refine gate_guard (by rfl) ?_;dsimp only));refine box_event ?hg (N:=3) ?hd (cs:=#[.slice A0_0 l0_0.length c0_0,.slice A0_1 l0_1.length c0_1]) (t:=25) ?hr ?_;(case hd => rfl);(case hg => rfl);(case hr => first | (go_simp;done) | (go_simp;rfl));intro gb241 hg w5 hbox hb;have n0_:=aMx13 (below_step (by repeat (first | (with_reducible first | exact HB.out | apply below_alloc | apply pw_below_drewN | apply below_drew1) | exact HB.out)) hb);have n1_:=aMx13 (hbox);have n2_:=aMx13 ((by rw [hg];exact (below_size (by repeat (first | (with_reducible first | exact HB.out | apply below_alloc | apply pw_below_drewN | apply below_drew1) | exact HB.out))) : w.heap.size ≤ gb241));have n3_:=aMx13 ((by rw [hg];exact (below_size (by repeat (first | (with_reducible first | exact HB.out | apply below_alloc | apply pw_below_drewN | apply below_drew1) | exact HB.out))) : w.heap.size ≤ gb241));clear HB;have HB:=n0_;have BK241:=n1_;have GW241:=n2_;have GE241:=n3_;clear n0_ n1_ n2_ n3_;clear hb hbox hg) | ((with_reducible refine gate_dst (N:=4) rfl ?_);(try (refine gate_guard (by rfl) ?_;dsimp only));refine box_event ?hg (N:=4) ?hd (cs:=#[.slice A1_0 l1_0.length c1_0,.slice A1_1 l1_1.length c1_1]) (t:=25) ?hr ?_;(case hd => rfl);(case hg => rfl);(case hr => first | (go_simp;done) | (go_simp;rfl));intro gb242 hg w6 hbox hb;have n0_:=aMx13 (blk_below (g:=gb241) (o:=.cells #[.slice A0_0 l0_0.length c0_0,.slice A0_1 l0_1.length c0_1] 25 (0,0)) (by (with_reducible repeat (first | refine blk_drewN ?_ _ | refine blk_drew ?_ | refine blk_alloc ?_ _));exact BK241.out) hb);have n1_:=aMx13 (below_step (by repeat (first | (with_reducible first | exact HB.out | apply below_alloc | apply pw_below_drewN | apply below_drew1 | refine below_set ?_ GE241.out) | exact HB.out)) hb);have n2_:=aMx13 (hbox);have n3_:=aMx13 ((by rw [hg];exact (below_size (by repeat (first | (with_reducible first | exact HB.out | apply below_alloc | apply pw_below_drewN | apply below_drew1 | refine below_set ?_ GE241.out) | exact HB.out))) : w.heap.size ≤ gb242));have n4_:=aMx13 ((by rw [hg];exact (below_size (by repeat (first | (with_reducible first | exact HB.out | apply below_alloc | apply pw_below_drewN | apply below_drew1 | refine below_set ?_ GE241.out) | exact HB.out))) : w.heap.size ≤ gb242));have n5_:=aMx13 ((by rw [hg];exact Nat.ne_of_lt (blk_lt (g:=gb241) (o:=.cells #[.slice A0_0 l0_0.length c0_0,.slice A0_1 l0_1.length c0_1] 25 (0,0)) (by (with_reducible repeat (first | refine blk_drewN ?_ _ | refine blk_drew ?_ | refine blk_alloc ?_ _));exact BK241.out)) : gb241 ≠ gb242));have n6_:=aMx13 ((by rw [hg];exact Nat.ne_of_gt (blk_lt (g:=gb241) (o:=.cells #[.slice A0_0 l0_0.length c0_0,.slice A0_1 l0_1.length c0_1] 25 (0,0)) (by (with_reducible repeat (first | refine blk_drewN ?_ _ | refine blk_drew ?_ | refine blk_alloc ?_ _));exact BK241.out)) : gb242 ≠ gb241));clear BK241;clear HB;have BK241:=n0_;have HB:=n1_;have BK242:=n2_;have GW242:=n3_;have GE242:=n4_;have NB241_242:=n5_;have NB242_241:=n6_;clear n0_ n1_ n2_ n3_ n4_ n5_ n6_;clear hb hbox hg))
 (try simp only [Act.put,sAx13,sBx13,sCx13])
 go_cut [21] (fun v21 wc => ∃ (kq : Nat) (x21_3 : Bool),v21 = .bool x21_3 ∧ Aside0 (lapidarylaw13_IsoIs.j0 kq l2 x21_3 l0_0 l0_1 l1_0 l1_1 = some r) ∧ Aside0 (kq ≤ k) ∧ Aside0 (wc.heap[gb241]? = some (.cells #[(.slice A0_0 l0_0.length c0_0),(.slice A0_1 l0_1.length c0_1)] 25 (0,0))) ∧ Aside0 (wc.heap[gb242]? = some (.cells #[(.slice A1_0 l1_0.length c1_0),(.slice A1_1 l1_1.length c1_1)] 25 (0,0))) ∧ Aside0 (Below w.heap.size w wc))
 case first =>
  have H:=HC4.out
  clear HC4
  replace H:=Option.bind_eq_some_iff.mp H
  obtain ⟨t243,A70,H⟩:=H
  replace H : (if t243 = true then (lapidarylaw13_IsoIs.j0 k l2 true l0_0 l0_1 l1_0 l1_1) else ((lapidarylaw13_long.f l1_0 l1_1).bind fun t244 => (if t244 = true then (lapidarylaw13_IsoIs.j0 k l2 true l0_0 l0_1 l1_0 l1_1) else (lapidarylaw13_IsoIs.j0 k l2 (decide ((l2.length : Int) > 60)) l0_0 l0_1 l1_0 l1_1)))) = some r:=H
  have A7:=aMx13 A70
  clear A70
  by_cases c8 : t243 = true
  ·subst c8
   have H1 : (lapidarylaw13_IsoIs.j0 k l2 true l0_0 l0_1 l1_0 l1_1) = some r:=by rw [if_pos rfl] at H;exact H
   clear H
   have H:=H1
   clear H1
   have H':=aMx13 H
   clear H
   have hnb9:=NB241_242.out
   have hnc9:=NB242_241.out
   have hcz10_0 : w6.cell? ⟨gb241,0,none⟩ = some (.slice A0_0 l0_0.length c0_0):=(blk_cell BK241.out 0).trans rfl
   have hcz10_1 : w6.cell? ⟨gb241,1,none⟩ = some (.slice A0_1 l0_1.length c0_1):=(blk_cell BK241.out 1).trans rfl
   go_wp2_with (first|((with_reducible refine gate_callee (f:=11) rfl ?_);refine goesL_ (some 12) rfl rfl Tryd.func11 (by kernel_rfl) rfl #[.agg #[.slice A0_0 l0_0.length c0_0,.slice A0_1 l0_1.length c0_1]] rfl (by (try simp only [List.map_toArray,List.map_cons,List.map_nil]);first|done|rfl|(simp only [List.length_drop,List.length_take];rfl)) ?_;(with_reducible refine (lapidarylaw13_long.calls _ _ l0_0 _ _ l0_1 true _ ?side1 ?side2 ?side3 ?side4 A7.out).mono ?_);(case side1 => repeat (first|exact (Kd.C_below HR0_0.out HB.out)|(with_reducible first|refine Kd.C_alloc ?_ _|refine Kd.C_drewN ?_ _|refine Kd.C_drew ?_)));(case side2 => exact HC0_0.out);(case side3 => repeat (first|exact (Kd.C_below HR0_1.out HB.out)|(with_reducible first|refine Kd.C_alloc ?_ _|refine Kd.C_drewN ?_ _|refine Kd.C_drew ?_)));(case side4 => exact HC0_1.out);rintro e w11 ⟨rfl,hb⟩;refine ⟨_,rfl,?_⟩;have n0_:=aMx13 (blk_below (g:=gb241) (o:=.cells #[.slice A0_0 l0_0.length c0_0,.slice A0_1 l0_1.length c0_1] 25 (0,0)) (by (with_reducible repeat (first|refine blk_drewN ?_ _|refine blk_drew ?_|refine blk_alloc ?_ _));exact BK241.out) hb);have n1_:=aMx13 (blk_below (g:=gb242) (o:=.cells #[.slice A1_0 l1_0.length c1_0,.slice A1_1 l1_1.length c1_1] 25 (0,0)) (by (with_reducible repeat (first|refine blk_drewN ?_ _|refine blk_drew ?_|refine blk_alloc ?_ _));exact BK242.out) hb);have n2_:=aMx13 (below_step (by repeat (first|(with_reducible first|exact HB.out|apply below_alloc|apply pw_below_drewN|apply below_drew1|refine below_set ?_ GE241.out|refine below_set ?_ GE242.out)|exact HB.out)) hb);clear BK241;clear BK242;clear HB;have BK241:=n0_;have BK242:=n1_;have HB:=n2_;clear n0_ n1_ n2_;(try clear hb);(try clear hb2);(try clear hk);(try clear hi)))
   go_meet
   case rel => exact ⟨_,(true),(by first | rfl | (simp;done) | (simp [*];done) | (simp [wrap64];done)),H',⟨by first | omega | exact Nat.le_refl _⟩,⟨by (with_reducible repeat (first | refine blk_drewN ?_ _ | refine blk_drew ?_ | refine blk_alloc ?_ _));exact BK241.out⟩,⟨by (with_reducible repeat (first | refine blk_drewN ?_ _ | refine blk_drew ?_ | refine blk_alloc ?_ _));exact BK242.out⟩,⟨by repeat (first | (with_reducible first | exact HB.out | apply below_alloc | apply pw_below_drewN | apply below_drew1 | refine below_set ?_ GE241.out | refine below_set ?_ GE242.out) | exact HB.out)⟩⟩
  ·replace c8:=Bool.eq_false_iff.mpr c8
   subst c8
   have H1 : ((lapidarylaw13_long.f l1_0 l1_1).bind fun t244 => (if t244 = true then (lapidarylaw13_IsoIs.j0 k l2 true l0_0 l0_1 l1_0 l1_1) else (lapidarylaw13_IsoIs.j0 k l2 (decide ((l2.length : Int) > 60)) l0_0 l0_1 l1_0 l1_1))) = some r:=by rw [if_neg (show ¬ (false = true) by decide)] at H;exact H
   clear H
   have H:=H1
   clear H1
   replace H:=Option.bind_eq_some_iff.mp H
   obtain ⟨t244,A120,H⟩:=H
   replace H : (if t244 = true then (lapidarylaw13_IsoIs.j0 k l2 true l0_0 l0_1 l1_0 l1_1) else (lapidarylaw13_IsoIs.j0 k l2 (decide ((l2.length : Int) > 60)) l0_0 l0_1 l1_0 l1_1)) = some r:=H
   have A12:=aMx13 A120
   clear A120
   by_cases c13 : t244 = true
   ·subst c13
    have H1 : (lapidarylaw13_IsoIs.j0 k l2 true l0_0 l0_1 l1_0 l1_1) = some r:=by rw [if_pos rfl] at H;exact H
    clear H
    have H:=H1
    clear H1
    have H':=aMx13 H
    clear H
    have hnb14:=NB241_242.out
    have hnc14:=NB242_241.out
    have hcz15_0 : w6.cell? ⟨gb241,0,none⟩ = some (.slice A0_0 l0_0.length c0_0):=(blk_cell BK241.out 0).trans rfl
    have hcz15_1 : w6.cell? ⟨gb241,1,none⟩ = some (.slice A0_1 l0_1.length c0_1):=(blk_cell BK241.out 1).trans rfl
    go_wp2_with (first|((with_reducible refine gate_callee (f:=11) rfl ?_);refine goesL_ (some 12) rfl rfl Tryd.func11 (by kernel_rfl) rfl #[.agg #[.slice A0_0 l0_0.length c0_0,.slice A0_1 l0_1.length c0_1]] rfl (by (try simp only [List.map_toArray,List.map_cons,List.map_nil]);first|done|rfl|(simp only [List.length_drop,List.length_take];rfl)) ?_;(with_reducible refine (lapidarylaw13_long.calls _ _ l0_0 _ _ l0_1 false _ ?side1 ?side2 ?side3 ?side4 A7.out).mono ?_);(case side1 => repeat (first|exact (Kd.C_below HR0_0.out HB.out)|(with_reducible first|refine Kd.C_alloc ?_ _|refine Kd.C_drewN ?_ _|refine Kd.C_drew ?_)));(case side2 => exact HC0_0.out);(case side3 => repeat (first|exact (Kd.C_below HR0_1.out HB.out)|(with_reducible first|refine Kd.C_alloc ?_ _|refine Kd.C_drewN ?_ _|refine Kd.C_drew ?_)));(case side4 => exact HC0_1.out);rintro e w16 ⟨rfl,hb⟩;refine ⟨_,rfl,?_⟩;have n0_:=aMx13 (blk_below (g:=gb241) (o:=.cells #[.slice A0_0 l0_0.length c0_0,.slice A0_1 l0_1.length c0_1] 25 (0,0)) (by (with_reducible repeat (first|refine blk_drewN ?_ _|refine blk_drew ?_|refine blk_alloc ?_ _));exact BK241.out) hb);have n1_:=aMx13 (blk_below (g:=gb242) (o:=.cells #[.slice A1_0 l1_0.length c1_0,.slice A1_1 l1_1.length c1_1] 25 (0,0)) (by (with_reducible repeat (first|refine blk_drewN ?_ _|refine blk_drew ?_|refine blk_alloc ?_ _));exact BK242.out) hb);have n2_:=aMx13 (below_step (by repeat (first|(with_reducible first|exact HB.out|apply below_alloc|apply pw_below_drewN|apply below_drew1|refine below_set ?_ GE241.out|refine below_set ?_ GE242.out)|exact HB.out)) hb);clear BK241;clear BK242;clear HB;have BK241:=n0_;have BK242:=n1_;have HB:=n2_;clear n0_ n1_ n2_;(try clear hb);(try clear hb2);(try clear hk);(try clear hi);have hcz17_0 : w16.cell? ⟨gb242,0,none⟩ = some (.slice A1_0 l1_0.length c1_0):=(blk_cell BK242.out 0).trans rfl;have hcz17_1 : w16.cell? ⟨gb242,1,none⟩ = some (.slice A1_1 l1_1.length c1_1):=(blk_cell BK242.out 1).trans rfl;have hfz17_0:=blk_frozen BK242.out 0;have hfz17_1:=blk_frozen BK242.out 1)|(go_at_call 11;(with_reducible refine (lapidarylaw13_long.calls _ _ l1_0 _ _ l1_1 true _ ?side1 ?side2 ?side3 ?side4 A12.out).mono ?_);(case side1 => repeat (first|exact (Kd.C_below HR1_0.out HB.out)|(with_reducible first|refine Kd.C_alloc ?_ _|refine Kd.C_drewN ?_ _|refine Kd.C_drew ?_)));(case side2 => exact HC1_0.out);(case side3 => repeat (first|exact (Kd.C_below HR1_1.out HB.out)|(with_reducible first|refine Kd.C_alloc ?_ _|refine Kd.C_drewN ?_ _|refine Kd.C_drew ?_)));(case side4 => exact HC1_1.out);rintro e w18 ⟨rfl,hb⟩;have n0_:=aMx13 (blk_below (g:=gb241) (o:=.cells #[.slice A0_0 l0_0.length c0_0,.slice A0_1 l0_1.length c0_1] 25 (0,0)) (by (with_reducible repeat (first|refine blk_drewN ?_ _|refine blk_drew ?_|refine blk_alloc ?_ _));exact BK241.out) hb);have n1_:=aMx13 (blk_below (g:=gb242) (o:=.cells #[.slice A1_0 l1_0.length c1_0,.slice A1_1 l1_1.length c1_1] 25 (0,0)) (by (with_reducible repeat (first|refine blk_drewN ?_ _|refine blk_drew ?_|refine blk_alloc ?_ _));exact BK242.out) hb);have n2_:=aMx13 (below_step (by repeat (first|(with_reducible first|exact HB.out|apply below_alloc|apply pw_below_drewN|apply below_drew1|refine below_set ?_ GE241.out|refine below_set ?_ GE242.out)|exact HB.out)) hb);clear BK241;clear BK242;clear HB;have BK241:=n0_;have BK242:=n1_;have HB:=n2_;clear n0_ n1_ n2_;(try clear hb);(try clear hb2);(try clear hk);(try clear hi)))
    go_meet
    case rel => exact ⟨_,(true),(by first | rfl | (simp;done) | (simp [*];done) | (simp [wrap64];done)),H',⟨by first | omega | exact Nat.le_refl _⟩,⟨by (with_reducible repeat (first | refine blk_drewN ?_ _ | refine blk_drew ?_ | refine blk_alloc ?_ _));exact BK241.out⟩,⟨by (with_reducible repeat (first | refine blk_drewN ?_ _ | refine blk_drew ?_ | refine blk_alloc ?_ _));exact BK242.out⟩,⟨by repeat (first | (with_reducible first | exact HB.out | apply below_alloc | apply pw_below_drewN | apply below_drew1 | refine below_set ?_ GE241.out | refine below_set ?_ GE242.out) | exact HB.out)⟩⟩
   ·replace c13:=Bool.eq_false_iff.mpr c13
    subst c13
    have H1 : (lapidarylaw13_IsoIs.j0 k l2 (decide ((l2.length : Int) > 60)) l0_0 l0_1 l1_0 l1_1) = some r:=by rw [if_neg (show ¬ (false = true) by decide)] at H;exact H
    clear H
    have H:=H1
    clear H1
    have H':=aMx13 H
    clear H
    have hnb19:=NB241_242.out
    have hnc19:=NB242_241.out
    have hcz20_0 : w6.cell? ⟨gb241,0,none⟩ = some (.slice A0_0 l0_0.length c0_0):=(blk_cell BK241.out 0).trans rfl
    have hcz20_1 : w6.cell? ⟨gb241,1,none⟩ = some (.slice A0_1 l0_1.length c0_1):=(blk_cell BK241.out 1).trans rfl
    go_wp2_with (first|((with_reducible refine gate_callee (f:=11) rfl ?_);refine goesL_ (some 12) rfl rfl Tryd.func11 (by kernel_rfl) rfl #[.agg #[.slice A0_0 l0_0.length c0_0,.slice A0_1 l0_1.length c0_1]] rfl (by (try simp only [List.map_toArray,List.map_cons,List.map_nil]);first|done|rfl|(simp only [List.length_drop,List.length_take];rfl)) ?_;(with_reducible refine (lapidarylaw13_long.calls _ _ l0_0 _ _ l0_1 false _ ?side1 ?side2 ?side3 ?side4 A7.out).mono ?_);(case side1 => repeat (first|exact (Kd.C_below HR0_0.out HB.out)|(with_reducible first|refine Kd.C_alloc ?_ _|refine Kd.C_drewN ?_ _|refine Kd.C_drew ?_)));(case side2 => exact HC0_0.out);(case side3 => repeat (first|exact (Kd.C_below HR0_1.out HB.out)|(with_reducible first|refine Kd.C_alloc ?_ _|refine Kd.C_drewN ?_ _|refine Kd.C_drew ?_)));(case side4 => exact HC0_1.out);rintro e w21 ⟨rfl,hb⟩;refine ⟨_,rfl,?_⟩;have n0_:=aMx13 (blk_below (g:=gb241) (o:=.cells #[.slice A0_0 l0_0.length c0_0,.slice A0_1 l0_1.length c0_1] 25 (0,0)) (by (with_reducible repeat (first|refine blk_drewN ?_ _|refine blk_drew ?_|refine blk_alloc ?_ _));exact BK241.out) hb);have n1_:=aMx13 (blk_below (g:=gb242) (o:=.cells #[.slice A1_0 l1_0.length c1_0,.slice A1_1 l1_1.length c1_1] 25 (0,0)) (by (with_reducible repeat (first|refine blk_drewN ?_ _|refine blk_drew ?_|refine blk_alloc ?_ _));exact BK242.out) hb);have n2_:=aMx13 (below_step (by repeat (first|(with_reducible first|exact HB.out|apply below_alloc|apply pw_below_drewN|apply below_drew1|refine below_set ?_ GE241.out|refine below_set ?_ GE242.out)|exact HB.out)) hb);clear BK241;clear BK242;clear HB;have BK241:=n0_;have BK242:=n1_;have HB:=n2_;clear n0_ n1_ n2_;(try clear hb);(try clear hb2);(try clear hk);(try clear hi);have hcz22_0 : w21.cell? ⟨gb242,0,none⟩ = some (.slice A1_0 l1_0.length c1_0):=(blk_cell BK242.out 0).trans rfl;have hcz22_1 : w21.cell? ⟨gb242,1,none⟩ = some (.slice A1_1 l1_1.length c1_1):=(blk_cell BK242.out 1).trans rfl;have hfz22_0:=blk_frozen BK242.out 0;have hfz22_1:=blk_frozen BK242.out 1)|(go_at_call 11;(with_reducible refine (lapidarylaw13_long.calls _ _ l1_0 _ _ l1_1 false _ ?side1 ?side2 ?side3 ?side4 A12.out).mono ?_);(case side1 => repeat (first|exact (Kd.C_below HR1_0.out HB.out)|(with_reducible first|refine Kd.C_alloc ?_ _|refine Kd.C_drewN ?_ _|refine Kd.C_drew ?_)));(case side2 => exact HC1_0.out);(case side3 => repeat (first|exact (Kd.C_below HR1_1.out HB.out)|(with_reducible first|refine Kd.C_alloc ?_ _|refine Kd.C_drewN ?_ _|refine Kd.C_drew ?_)));(case side4 => exact HC1_1.out);rintro e w23 ⟨rfl,hb⟩;have n0_:=aMx13 (blk_below (g:=gb241) (o:=.cells #[.slice A0_0 l0_0.length c0_0,.slice A0_1 l0_1.length c0_1] 25 (0,0)) (by (with_reducible repeat (first|refine blk_drewN ?_ _|refine blk_drew ?_|refine blk_alloc ?_ _));exact BK241.out) hb);have n1_:=aMx13 (blk_below (g:=gb242) (o:=.cells #[.slice A1_0 l1_0.length c1_0,.slice A1_1 l1_1.length c1_1] 25 (0,0)) (by (with_reducible repeat (first|refine blk_drewN ?_ _|refine blk_drew ?_|refine blk_alloc ?_ _));exact BK242.out) hb);have n2_:=aMx13 (below_step (by repeat (first|(with_reducible first|exact HB.out|apply below_alloc|apply pw_below_drewN|apply below_drew1|refine below_set ?_ GE241.out|refine below_set ?_ GE242.out)|exact HB.out)) hb);clear BK241;clear BK242;clear HB;have BK241:=n0_;have BK242:=n1_;have HB:=n2_;clear n0_ n1_ n2_;(try clear hb);(try clear hb2);(try clear hk);(try clear hi)))
    go_meet
    case rel => exact ⟨_,(decide ((l2.length : Int) > 60)),(by first | rfl | (simp;done) | (simp [*];done) | (simp [wrap64];done)),H',⟨by first | omega | exact Nat.le_refl _⟩,⟨by (with_reducible repeat (first | refine blk_drewN ?_ _ | refine blk_drew ?_ | refine blk_alloc ?_ _));exact BK241.out⟩,⟨by (with_reducible repeat (first | refine blk_drewN ?_ _ | refine blk_drew ?_ | refine blk_alloc ?_ _));exact BK242.out⟩,⟨by repeat (first | (with_reducible first | exact HB.out | apply below_alloc | apply pw_below_drewN | apply below_drew1 | refine below_set ?_ GE241.out | refine below_set ?_ GE242.out) | exact HB.out)⟩⟩
 case rest =>
  clear HC4
  (try clear c1);(try clear c2);(try clear p2);(try clear c3);(try clear c8);(try clear c9);(try clear c11);(try clear c13);(try clear c14);(try clear c19);(try clear hcz10_0);(try clear hcz10_1);(try clear hcz15_0);(try clear hcz15_1);(try clear hcz17_0);(try clear hcz17_1);(try clear hcz20_0);(try clear hcz20_1);(try clear hcz22_0);(try clear hcz22_1);(try clear hfz10_0);(try clear hfz10_1);(try clear hfz15_0);(try clear hfz15_1);(try clear hfz17_0);(try clear hfz17_1);(try clear hfz20_0);(try clear hfz20_1);(try clear hfz22_0);(try clear hfz22_1)
  obtain ⟨kq,x21_3,rfl,HA,HJ3,BK241,BK242,HB⟩:=hcut
  cases kq with
  | zero => exact absurd HA.out (by simp [lapidarylaw13_IsoIs.j0])
  | succ kj3 =>
   have H:=HA.out
   clear HA
   simp only [lapidarylaw13_IsoIs.j0] at H
   by_cases c24 : x21_3 = true
   ·subst c24
    have H1 : ((lapidarylaw13_known.f).bind fun t245 => (some t245)) = some r:=by rw [if_pos rfl] at H;exact H
    clear H
    have H:=H1
    clear H1
    replace H:=Option.bind_eq_some_iff.mp H
    obtain ⟨t245,A250,H⟩:=H
    replace H : (some t245) = some r:=H
    have A25:=aMx13 A250
    clear A250
    obtain rfl:=Option.some.inj H
    go_wp2_with (first|((with_reducible refine gate_callee (f:=12) rfl ?_);refine goesL_ (some 22) rfl rfl Tryd.func12 (by kernel_rfl) rfl #[] rfl (by (try simp only [List.map_toArray,List.map_cons,List.map_nil]);first|done|rfl|(simp only [List.length_drop,List.length_take];rfl)) ?_;(with_reducible refine (lapidarylaw13_known.calls  t245 _ A25.out).mono ?_);rintro e w26 ⟨rfl,hb⟩;refine ⟨_,rfl,?_⟩;have n0_:=aMx13 (blk_below (g:=gb241) (o:=.cells #[.slice A0_0 l0_0.length c0_0,.slice A0_1 l0_1.length c0_1] 25 (0,0)) (by (with_reducible repeat (first|refine blk_drewN ?_ _|refine blk_drew ?_|refine blk_alloc ?_ _));exact BK241.out) hb);have n1_:=aMx13 (blk_below (g:=gb242) (o:=.cells #[.slice A1_0 l1_0.length c1_0,.slice A1_1 l1_1.length c1_1] 25 (0,0)) (by (with_reducible repeat (first|refine blk_drewN ?_ _|refine blk_drew ?_|refine blk_alloc ?_ _));exact BK242.out) hb);have n2_:=aMx13 (below_step (by repeat (first|(with_reducible first|exact HB.out|apply below_alloc|apply pw_below_drewN|apply below_drew1|refine below_set ?_ GE241.out|refine below_set ?_ GE242.out)|exact HB.out)) hb);clear BK241;clear BK242;clear HB;have BK241:=n0_;have BK242:=n1_;have HB:=n2_;clear n0_ n1_ n2_;(try clear hb);(try clear hb2);(try clear hk);(try clear hi)))
    go_ret
    exact ⟨by first | rfl | (simp [errW_none,errW_some]<;>rfl) | (simp [*,errW_none,errW_some]<;>rfl),by repeat (first | (with_reducible first | exact HB.out | apply below_alloc | apply pw_below_drewN | apply below_drew1 | refine below_set ?_ GE241.out | refine below_set ?_ GE242.out) | exact HB.out)⟩
   ·replace c24:=Bool.eq_false_iff.mpr c24
    subst c24
    have H1 : ((iso_Renamed.f kj3 l0_0 l0_1 l2).bind fun bt246 => ((lapidaryref13_Renamed.f kj3 l0_0 l0_1 l2).bind fun bt254 => ((iso_Is.f l0_0 l0_1 l1_0 l1_1 l2).bind fun t262 => ((lapidaryref13_Is.f kj3 l0_0 l0_1 l1_0 l1_1 l2).bind fun t263 => (if (t262 == t263) = true then ((lapidaryref10_Same.f kj3 bt246.1 bt246.2.1 bt254.1 bt254.2.1).bind fun t264 => (if t264 = true then (if bt246.2.2 = bt254.2.2 then ((lapidarylaw13_known.f).bind fun t265 => (some t265)) else (some false)) else (some false))) else (some false)))))) = some r:=by rw [if_neg (show ¬ (false = true) by decide)] at H;exact H
    clear H
    have H:=H1
    clear H1
    replace H:=Option.bind_eq_some_iff.mp H
    obtain ⟨⟨t246,t249,t252⟩,A270,H⟩:=H
    replace H : ((lapidaryref13_Renamed.f kj3 l0_0 l0_1 l2).bind fun bt254 => ((iso_Is.f l0_0 l0_1 l1_0 l1_1 l2).bind fun t262 => ((lapidaryref13_Is.f kj3 l0_0 l0_1 l1_0 l1_1 l2).bind fun t263 => (if (t262 == t263) = true then ((lapidaryref10_Same.f kj3 t246 t249 bt254.1 bt254.2.1).bind fun t264 => (if t264 = true then (if t252 = bt254.2.2 then ((lapidarylaw13_known.f).bind fun t265 => (some t265)) else (some false)) else (some false))) else (some false))))) = some r:=H
    have A27:=aMx13 A270
    clear A270
    replace H:=Option.bind_eq_some_iff.mp H
    obtain ⟨⟨t254,t257,t260⟩,A280,H⟩:=H
    replace H : ((iso_Is.f l0_0 l0_1 l1_0 l1_1 l2).bind fun t262 => ((lapidaryref13_Is.f kj3 l0_0 l0_1 l1_0 l1_1 l2).bind fun t263 => (if (t262 == t263) = true then ((lapidaryref10_Same.f kj3 t246 t249 t254 t257).bind fun t264 => (if t264 = true then (if t252 = t260 then ((lapidarylaw13_known.f).bind fun t265 => (some t265)) else (some false)) else (some false))) else (some false)))) = some r:=H
    have A28:=aMx13 A280
    clear A280
    replace H:=Option.bind_eq_some_iff.mp H
    obtain ⟨t262,A290,H⟩:=H
    replace H : ((lapidaryref13_Is.f kj3 l0_0 l0_1 l1_0 l1_1 l2).bind fun t263 => (if (t262 == t263) = true then ((lapidaryref10_Same.f kj3 t246 t249 t254 t257).bind fun t264 => (if t264 = true then (if t252 = t260 then ((lapidarylaw13_known.f).bind fun t265 => (some t265)) else (some false)) else (some false))) else (some false))) = some r:=H
    have A29:=aMx13 A290
    clear A290
    replace H:=Option.bind_eq_some_iff.mp H
    obtain ⟨t263,A300,H⟩:=H
    replace H : (if (t262 == t263) = true then ((lapidaryref10_Same.f kj3 t246 t249 t254 t257).bind fun t264 => (if t264 = true then (if t252 = t260 then ((lapidarylaw13_known.f).bind fun t265 => (some t265)) else (some false)) else (some false))) else (some false)) = some r:=H
    have A30:=aMx13 A300
    clear A300
    by_cases c31 : (t262 == t263) = true
    ·rw [if_pos c31] at H
     have c31b0 : (t262 == t263) = true:=c31
     (try (have c31b1 : decide (t262 = t263) = true:=by simpa using c31))
     (try (have c31b2 : (t262 == t263) = true:=by simpa using c31))
     clear c31
     replace H:=Option.bind_eq_some_iff.mp H
     obtain ⟨t264,A320,H⟩:=H
     replace H : (if t264 = true then (if t252 = t260 then ((lapidarylaw13_known.f).bind fun t265 => (some t265)) else (some false)) else (some false)) = some r:=H
     have A32:=aMx13 A320
     clear A320
     by_cases c33 : t264 = true
     ·subst c33
      have H1 : (if t252 = t260 then ((lapidarylaw13_known.f).bind fun t265 => (some t265)) else (some false)) = some r:=by rw [if_pos rfl] at H;exact H
      clear H
      have H:=H1
      clear H1
      by_cases c34 : t252 = t260
      ·rw [if_pos c34] at H
       have c34b0 : (t252 == t260) = true:=beq_iff_eq.mpr c34
       have c34b1 : (t252 != t260) = false:=bne_eq_false_iff_eq.mpr c34
       clear c34
       replace H:=Option.bind_eq_some_iff.mp H
       obtain ⟨t265,A350,H⟩:=H
       replace H : (some t265) = some r:=H
       have A35:=aMx13 A350
       clear A350
       obtain rfl:=Option.some.inj H
       have hnb36:=NB241_242.out
       have hnc36:=NB242_241.out
       have hcz37_0 : wc.cell? ⟨gb241,0,none⟩ = some (.slice A0_0 l0_0.length c0_0):=(blk_cell BK241.out 0).trans rfl
       have hcz37_1 : wc.cell? ⟨gb241,1,none⟩ = some (.slice A0_1 l0_1.length c0_1):=(blk_cell BK241.out 1).trans rfl
       try go_wp2_with (first|((with_reducible refine gate_callee (f:=13) rfl ?_);refine goesL_ (some 26) rfl rfl Tryd.func13 (by kernel_rfl) rfl #[.agg #[.slice A0_0 l0_0.length c0_0,.slice A0_1 l0_1.length c0_1],.slice A2 l2.length c2] rfl (by (try simp only [List.map_toArray,List.map_cons,List.map_nil]);first|done|rfl|(simp only [List.length_drop,List.length_take];rfl)) ?_;(with_reducible refine (iso_Renamed.calls kj3 _ _ l0_0 _ _ l0_1 _ _ l2 t246 t249 t252 _ ?side1 ?side2 ?side3 ?side4 ?side5 ?side6 ?sideG A27.out).mono ?_);(case sideG => exact Kd.C_below HG.out (by repeat (first|(with_reducible first|exact HB.out|apply below_alloc|apply pw_below_drewN|apply below_drew1|refine below_set ?_ GE241.out|refine below_set ?_ GE242.out|refine below_set ?_ GE253.out|refine below_set ?_ GE261.out)|exact HB.out)));(case side1 => repeat (first|exact (Kd.C_below HR0_0.out HB.out)|(with_reducible first|refine Kd.C_alloc ?_ _|refine Kd.C_drewN ?_ _|refine Kd.C_drew ?_)));(case side2 => exact HC0_0.out);(case side3 => repeat (first|exact (Kd.C_below HR0_1.out HB.out)|(with_reducible first|refine Kd.C_alloc ?_ _|refine Kd.C_drewN ?_ _|refine Kd.C_drew ?_)));(case side4 => exact HC0_1.out);(case side5 => repeat (first|exact (Kd.C_below HR2.out HB.out)|(with_reducible first|refine Kd.C_alloc ?_ _|refine Kd.C_drewN ?_ _|refine Kd.C_drew ?_)));(case side6 => exact HC2.out);rintro e w38 ⟨v247,v250,rfl,ho0,ho1,hb⟩;refine ⟨_,rfl,?_⟩;have n0_:=aMx13 (Kd.R_lower ho0 (below_size (by repeat (first|(with_reducible first|exact HB.out|apply below_alloc|apply pw_below_drewN|apply below_drew1|refine below_set ?_ GE241.out|refine below_set ?_ GE242.out)|exact HB.out))));have n1_:=aMx13 (Kd.R_lower ho1 (below_size (by repeat (first|(with_reducible first|exact HB.out|apply below_alloc|apply pw_below_drewN|apply below_drew1|refine below_set ?_ GE241.out|refine below_set ?_ GE242.out)|exact HB.out))));have n2_:=aMx13 (blk_below (g:=gb241) (o:=.cells #[.slice A0_0 l0_0.length c0_0,.slice A0_1 l0_1.length c0_1] 25 (0,0)) (by (with_reducible repeat (first|refine blk_drewN ?_ _|refine blk_drew ?_|refine blk_alloc ?_ _));exact BK241.out) hb);have n3_:=aMx13 (blk_below (g:=gb242) (o:=.cells #[.slice A1_0 l1_0.length c1_0,.slice A1_1 l1_1.length c1_1] 25 (0,0)) (by (with_reducible repeat (first|refine blk_drewN ?_ _|refine blk_drew ?_|refine blk_alloc ?_ _));exact BK242.out) hb);have n4_:=aMx13 (below_step (by repeat (first|(with_reducible first|exact HB.out|apply below_alloc|apply pw_below_drewN|apply below_drew1|refine below_set ?_ GE241.out|refine below_set ?_ GE242.out)|exact HB.out)) hb);clear BK241;clear BK242;clear HB;have HO248:=n0_;have HO251:=n1_;have BK241:=n2_;have BK242:=n3_;have HB:=n4_;clear n0_ n1_ n2_ n3_ n4_;(try clear hb);(try clear hb2);(try clear hk);(try clear hi);(try clear ho0);(try clear ho1))|((with_reducible refine gate_dst (N:=7) rfl ?_);(try (refine gate_guard (by rfl) ?_;dsimp only));refine box_event ?hg (N:=7) ?hd (cs:=#[.slice none 0 0,.slice none 0 0]) (t:=25) ?hr ?_;(case hd => rfl);(case hg => rfl);(case hr => first|(go_simp;done)|(go_simp;rfl));intro gb253 hg w39 hbox hb;have n0_:=aMx13 (Kd.R_below (by (with_reducible repeat (first|apply Kd.R_alloc|apply Kd.R_drewN|apply Kd.R_drew));exact HO248.out) hb);have n1_:=aMx13 (Kd.R_below (by (with_reducible repeat (first|apply Kd.R_alloc|apply Kd.R_drewN|apply Kd.R_drew));exact HO251.out) hb);have n2_:=aMx13 (blk_below (g:=gb241) (o:=.cells #[.slice A0_0 l0_0.length c0_0,.slice A0_1 l0_1.length c0_1] 25 (0,0)) (by (with_reducible repeat (first|refine blk_drewN ?_ _|refine blk_drew ?_|refine blk_alloc ?_ _));exact BK241.out) hb);have n3_:=aMx13 (blk_below (g:=gb242) (o:=.cells #[.slice A1_0 l1_0.length c1_0,.slice A1_1 l1_1.length c1_1] 25 (0,0)) (by (with_reducible repeat (first|refine blk_drewN ?_ _|refine blk_drew ?_|refine blk_alloc ?_ _));exact BK242.out) hb);have n4_:=aMx13 (below_step (by repeat (first|(with_reducible first|exact HB.out|apply below_alloc|apply pw_below_drewN|apply below_drew1|refine below_set ?_ GE241.out|refine below_set ?_ GE242.out)|exact HB.out)) hb);have n5_:=aMx13 (hbox);have n6_:=aMx13 ((by rw [hg];exact (below_size (by repeat (first|(with_reducible first|exact HB.out|apply below_alloc|apply pw_below_drewN|apply below_drew1|refine below_set ?_ GE241.out|refine below_set ?_ GE242.out)|exact HB.out))) : w.heap.size ≤ gb253));have n7_:=aMx13 ((by rw [hg];exact (below_size (by repeat (first|(with_reducible first|exact HB.out|apply below_alloc|apply pw_below_drewN|apply below_drew1|refine below_set ?_ GE241.out|refine below_set ?_ GE242.out)|exact HB.out))) : w.heap.size ≤ gb253));have n8_:=aMx13 ((by rw [hg];exact Nat.ne_of_lt (blk_lt (g:=gb241) (o:=.cells #[.slice A0_0 l0_0.length c0_0,.slice A0_1 l0_1.length c0_1] 25 (0,0)) (by (with_reducible repeat (first|refine blk_drewN ?_ _|refine blk_drew ?_|refine blk_alloc ?_ _));exact BK241.out)) : gb241 ≠ gb253));have n9_:=aMx13 ((by rw [hg];exact Nat.ne_of_gt (blk_lt (g:=gb241) (o:=.cells #[.slice A0_0 l0_0.length c0_0,.slice A0_1 l0_1.length c0_1] 25 (0,0)) (by (with_reducible repeat (first|refine blk_drewN ?_ _|refine blk_drew ?_|refine blk_alloc ?_ _));exact BK241.out)) : gb253 ≠ gb241));have n10_:=aMx13 ((by rw [hg];exact Nat.ne_of_lt (blk_lt (g:=gb242) (o:=.cells #[.slice A1_0 l1_0.length c1_0,.slice A1_1 l1_1.length c1_1] 25 (0,0)) (by (with_reducible repeat (first|refine blk_drewN ?_ _|refine blk_drew ?_|refine blk_alloc ?_ _));exact BK242.out)) : gb242 ≠ gb253));have n11_:=aMx13 ((by rw [hg];exact Nat.ne_of_gt (blk_lt (g:=gb242) (o:=.cells #[.slice A1_0 l1_0.length c1_0,.slice A1_1 l1_1.length c1_1] 25 (0,0)) (by (with_reducible repeat (first|refine blk_drewN ?_ _|refine blk_drew ?_|refine blk_alloc ?_ _));exact BK242.out)) : gb253 ≠ gb242));clear HO248;clear HO251;clear BK241;clear BK242;clear HB;have HO248:=n0_;have HO251:=n1_;have BK241:=n2_;have BK242:=n3_;have HB:=n4_;have BK253:=n5_;have GW253:=n6_;have GE253:=n7_;have NB241_253:=n8_;have NB253_241:=n9_;have NB242_253:=n10_;have NB253_242:=n11_;clear n0_ n1_ n2_ n3_ n4_ n5_ n6_ n7_ n8_ n9_ n10_ n11_;clear hb hbox hg;obtain ⟨Ao40,co40,eo40⟩:=Kd.R_slice HO248.out;subst eo40;have hnb41:=NB253_241.out;have hnc41:=NB241_253.out;have hnb42:=NB253_242.out;have hnc42:=NB242_253.out;have hcz43_0 : w39.cell? ⟨gb253,0,none⟩ = some (.slice none 0 0):=(blk_cell BK253.out 0).trans rfl;have hcz43_1 : w39.cell? ⟨gb253,1,none⟩ = some (.slice none 0 0):=(blk_cell BK253.out 1).trans rfl;have hfz43_0:=blk_frozen BK253.out 0;have hfz43_1:=blk_frozen BK253.out 1;obtain ⟨Ao44,co44,eo44⟩:=Kd.R_slice HO251.out;subst eo44;have hcz45_0 : w39.cell? ⟨gb241,0,none⟩ = some (.slice A0_0 l0_0.length c0_0):=(blk_cell BK241.out 0).trans rfl;have hcz45_1 : w39.cell? ⟨gb241,1,none⟩ = some (.slice A0_1 l0_1.length c0_1):=(blk_cell BK241.out 1).trans rfl;have hfz45_0:=blk_frozen BK241.out 0;have hfz45_1:=blk_frozen BK241.out 1)|((with_reducible refine gate_callee (f:=14) rfl ?_);refine goesL_ (some 32) rfl rfl Tryd.func14 (by kernel_rfl) rfl #[.agg #[.slice A0_0 l0_0.length c0_0,.slice A0_1 l0_1.length c0_1],.slice A2 l2.length c2] rfl (by (try simp only [List.map_toArray,List.map_cons,List.map_nil]);first|done|rfl|(simp only [List.length_drop,List.length_take];rfl)) ?_;(with_reducible refine (lapidaryref13_Renamed.calls kj3 _ _ l0_0 _ _ l0_1 _ _ l2 t254 t257 t260 _ ?side1 ?side2 ?side3 ?side4 ?side5 ?side6 A28.out).mono ?_);(case side1 => exact Kd.C_below HR0_0.out (by repeat (first|(with_reducible first|exact HB.out|apply below_alloc|apply pw_below_drewN|apply below_drew1|refine below_set ?_ GE241.out|refine below_set ?_ GE242.out|refine below_set ?_ GE253.out)|exact HB.out)));(case side2 => exact HC0_0.out);(case side3 => exact Kd.C_below HR0_1.out (by repeat (first|(with_reducible first|exact HB.out|apply below_alloc|apply pw_below_drewN|apply below_drew1|refine below_set ?_ GE241.out|refine below_set ?_ GE242.out|refine below_set ?_ GE253.out)|exact HB.out)));(case side4 => exact HC0_1.out);(case side5 => exact Kd.C_below HR2.out (by repeat (first|(with_reducible first|exact HB.out|apply below_alloc|apply pw_below_drewN|apply below_drew1|refine below_set ?_ GE241.out|refine below_set ?_ GE242.out|refine below_set ?_ GE253.out)|exact HB.out)));(case side6 => exact HC2.out);rintro e w46 ⟨v255,v258,rfl,ho0,ho1,hb⟩;refine ⟨_,rfl,?_⟩;have n0_:=aMx13 (Kd.R_elder' (by (with_reducible repeat (first|apply Kd.R_alloc|apply Kd.R_drewN|apply Kd.R_drew));exact (Kd.R_mono (Kd.R_far (p:=⟨gb253,1,none⟩) (Kd.R_far (p:=⟨gb253,0,none⟩) (Kd.R_types HO248.out BK253.out (by decide)) (fun _ hk => hk.2) (.slice Ao40 t246.length co40)) (fun _ hk => hk.2) (.slice Ao44 t249.length co44)) (fun _ h_ => h_.1))) (Kd.R_base ho0) hb);have n1_:=aMx13 (Kd.R_elder' (by (with_reducible repeat (first|apply Kd.R_alloc|apply Kd.R_drewN|apply Kd.R_drew));exact (Kd.R_mono (Kd.R_far (p:=⟨gb253,1,none⟩) (Kd.R_far (p:=⟨gb253,0,none⟩) (Kd.R_types HO251.out BK253.out (by decide)) (fun _ hk => hk.2) (.slice Ao40 t246.length co40)) (fun _ hk => hk.2) (.slice Ao44 t249.length co44)) (fun _ h_ => h_.1))) (Kd.R_base ho1) hb);have n2_:=aMx13 (Kd.R_lower (Kd.R_new' ho0 (Kd.R_lt (by (with_reducible repeat (first|apply Kd.R_alloc|apply Kd.R_drewN|apply Kd.R_drew));exact (Kd.R_mono (Kd.R_far (p:=⟨gb253,1,none⟩) (Kd.R_far (p:=⟨gb253,0,none⟩) (Kd.R_types HO248.out BK253.out (by decide)) (fun _ hk => hk.2) (.slice Ao40 t246.length co40)) (fun _ hk => hk.2) (.slice Ao44 t249.length co44)) (fun _ h_ => h_.1))))) (below_size (by repeat (first|(with_reducible first|exact HB.out|apply below_alloc|apply pw_below_drewN|apply below_drew1|refine below_set ?_ GE241.out|refine below_set ?_ GE242.out|refine below_set ?_ GE253.out)|exact HB.out))));have n3_:=aMx13 (Kd.R_lower (Kd.R_new' ho1 (Kd.R_lt (by (with_reducible repeat (first|apply Kd.R_alloc|apply Kd.R_drewN|apply Kd.R_drew));exact (Kd.R_mono (Kd.R_far (p:=⟨gb253,1,none⟩) (Kd.R_far (p:=⟨gb253,0,none⟩) (Kd.R_types HO251.out BK253.out (by decide)) (fun _ hk => hk.2) (.slice Ao40 t246.length co40)) (fun _ hk => hk.2) (.slice Ao44 t249.length co44)) (fun _ h_ => h_.1))))) (below_size (by repeat (first|(with_reducible first|exact HB.out|apply below_alloc|apply pw_below_drewN|apply below_drew1|refine below_set ?_ GE241.out|refine below_set ?_ GE242.out|refine below_set ?_ GE253.out)|exact HB.out))));have n4_:=aMx13 (blk_below (g:=gb241) (o:=.cells #[.slice A0_0 l0_0.length c0_0,.slice A0_1 l0_1.length c0_1] 25 (0,0)) (by (with_reducible repeat (first|refine blk_drewN ?_ _|refine blk_drew ?_|refine blk_alloc ?_ _));refine blk_far ?_ NB241_253.out _;(with_reducible repeat (first|refine blk_drewN ?_ _|refine blk_drew ?_|refine blk_alloc ?_ _));refine blk_far ?_ NB241_253.out _;(with_reducible repeat (first|refine blk_drewN ?_ _|refine blk_drew ?_|refine blk_alloc ?_ _));exact BK241.out) hb);have n5_:=aMx13 (blk_below (g:=gb242) (o:=.cells #[.slice A1_0 l1_0.length c1_0,.slice A1_1 l1_1.length c1_1] 25 (0,0)) (by (with_reducible repeat (first|refine blk_drewN ?_ _|refine blk_drew ?_|refine blk_alloc ?_ _));refine blk_far ?_ NB242_253.out _;(with_reducible repeat (first|refine blk_drewN ?_ _|refine blk_drew ?_|refine blk_alloc ?_ _));refine blk_far ?_ NB242_253.out _;(with_reducible repeat (first|refine blk_drewN ?_ _|refine blk_drew ?_|refine blk_alloc ?_ _));exact BK242.out) hb);have n6_:=aMx13 (blk_below (g:=gb253) (o:=.cells #[.slice Ao40 t246.length co40,.slice Ao44 t249.length co44] 25 (0,0)) (by (with_reducible repeat (first|refine blk_drewN ?_ _|refine blk_drew ?_|refine blk_alloc ?_ _));refine blk_put (cs:=#[.slice Ao40 t246.length co40,.slice none 0 0]) ?_ 1 _ rfl;(with_reducible repeat (first|refine blk_drewN ?_ _|refine blk_drew ?_|refine blk_alloc ?_ _));refine blk_put (cs:=#[.slice none 0 0,.slice none 0 0]) ?_ 0 _ rfl;(with_reducible repeat (first|refine blk_drewN ?_ _|refine blk_drew ?_|refine blk_alloc ?_ _));exact BK253.out) hb);have n7_:=aMx13 (below_step (by repeat (first|(with_reducible first|exact HB.out|apply below_alloc|apply pw_below_drewN|apply below_drew1|refine below_set ?_ GE241.out|refine below_set ?_ GE242.out|refine below_set ?_ GE253.out)|exact HB.out)) hb);clear HO248;clear HO251;clear BK241;clear BK242;clear BK253;clear HB;have HO248:=n0_;have HO251:=n1_;have HO256:=n2_;have HO259:=n3_;have BK241:=n4_;have BK242:=n5_;have BK253:=n6_;have HB:=n7_;clear n0_ n1_ n2_ n3_ n4_ n5_ n6_ n7_;(try clear hb);(try clear hb2);(try clear hk);(try clear hi);(try clear ho0);(try clear ho1))|((with_reducible refine gate_dst (N:=9) rfl ?_);(try (refine gate_guard (by rfl) ?_;dsimp only));refine box_event ?hg (N:=9) ?hd (cs:=#[.slice none 0 0,.slice none 0 0]) (t:=25) ?hr ?_;(case hd => rfl);(case hg => rfl);(case hr => first|(go_simp;done)|(go_simp;rfl));intro gb261 hg w47 hbox hb;have n0_:=aMx13 (Kd.R_below (by (with_reducible repeat (first|apply Kd.R_alloc|apply Kd.R_drewN|apply Kd.R_drew));exact HO248.out) hb);have n1_:=aMx13 (Kd.R_below (by (with_reducible repeat (first|apply Kd.R_alloc|apply Kd.R_drewN|apply Kd.R_drew));exact HO251.out) hb);have n2_:=aMx13 (Kd.R_below (by (with_reducible repeat (first|apply Kd.R_alloc|apply Kd.R_drewN|apply Kd.R_drew));exact HO256.out) hb);have n3_:=aMx13 (Kd.R_below (by (with_reducible repeat (first|apply Kd.R_alloc|apply Kd.R_drewN|apply Kd.R_drew));exact HO259.out) hb);have n4_:=aMx13 (blk_below (g:=gb241) (o:=.cells #[.slice A0_0 l0_0.length c0_0,.slice A0_1 l0_1.length c0_1] 25 (0,0)) (by (with_reducible repeat (first|refine blk_drewN ?_ _|refine blk_drew ?_|refine blk_alloc ?_ _));exact BK241.out) hb);have n5_:=aMx13 (blk_below (g:=gb242) (o:=.cells #[.slice A1_0 l1_0.length c1_0,.slice A1_1 l1_1.length c1_1] 25 (0,0)) (by (with_reducible repeat (first|refine blk_drewN ?_ _|refine blk_drew ?_|refine blk_alloc ?_ _));exact BK242.out) hb);have n6_:=aMx13 (blk_below (g:=gb253) (o:=.cells #[.slice Ao40 t246.length co40,.slice Ao44 t249.length co44] 25 (0,0)) (by (with_reducible repeat (first|refine blk_drewN ?_ _|refine blk_drew ?_|refine blk_alloc ?_ _));exact BK253.out) hb);have n7_:=aMx13 (below_step (by repeat (first|(with_reducible first|exact HB.out|apply below_alloc|apply pw_below_drewN|apply below_drew1|refine below_set ?_ GE241.out|refine below_set ?_ GE242.out|refine below_set ?_ GE253.out)|exact HB.out)) hb);have n8_:=aMx13 (hbox);have n9_:=aMx13 ((by rw [hg];exact (below_size (by repeat (first|(with_reducible first|exact HB.out|apply below_alloc|apply pw_below_drewN|apply below_drew1|refine below_set ?_ GE241.out|refine below_set ?_ GE242.out|refine below_set ?_ GE253.out)|exact HB.out))) : w.heap.size ≤ gb261));have n10_:=aMx13 ((by rw [hg];exact (below_size (by repeat (first|(with_reducible first|exact HB.out|apply below_alloc|apply pw_below_drewN|apply below_drew1|refine below_set ?_ GE241.out|refine below_set ?_ GE242.out|refine below_set ?_ GE253.out)|exact HB.out))) : w.heap.size ≤ gb261));have n11_:=aMx13 ((by rw [hg];exact Nat.ne_of_lt (blk_lt (g:=gb241) (o:=.cells #[.slice A0_0 l0_0.length c0_0,.slice A0_1 l0_1.length c0_1] 25 (0,0)) (by (with_reducible repeat (first|refine blk_drewN ?_ _|refine blk_drew ?_|refine blk_alloc ?_ _));exact BK241.out)) : gb241 ≠ gb261));have n12_:=aMx13 ((by rw [hg];exact Nat.ne_of_gt (blk_lt (g:=gb241) (o:=.cells #[.slice A0_0 l0_0.length c0_0,.slice A0_1 l0_1.length c0_1] 25 (0,0)) (by (with_reducible repeat (first|refine blk_drewN ?_ _|refine blk_drew ?_|refine blk_alloc ?_ _));exact BK241.out)) : gb261 ≠ gb241));have n13_:=aMx13 ((by rw [hg];exact Nat.ne_of_lt (blk_lt (g:=gb242) (o:=.cells #[.slice A1_0 l1_0.length c1_0,.slice A1_1 l1_1.length c1_1] 25 (0,0)) (by (with_reducible repeat (first|refine blk_drewN ?_ _|refine blk_drew ?_|refine blk_alloc ?_ _));exact BK242.out)) : gb242 ≠ gb261));have n14_:=aMx13 ((by rw [hg];exact Nat.ne_of_gt (blk_lt (g:=gb242) (o:=.cells #[.slice A1_0 l1_0.length c1_0,.slice A1_1 l1_1.length c1_1] 25 (0,0)) (by (with_reducible repeat (first|refine blk_drewN ?_ _|refine blk_drew ?_|refine blk_alloc ?_ _));exact BK242.out)) : gb261 ≠ gb242));have n15_:=aMx13 ((by rw [hg];exact Nat.ne_of_lt (blk_lt (g:=gb253) (o:=.cells #[.slice Ao40 t246.length co40,.slice Ao44 t249.length co44] 25 (0,0)) (by (with_reducible repeat (first|refine blk_drewN ?_ _|refine blk_drew ?_|refine blk_alloc ?_ _));exact BK253.out)) : gb253 ≠ gb261));have n16_:=aMx13 ((by rw [hg];exact Nat.ne_of_gt (blk_lt (g:=gb253) (o:=.cells #[.slice Ao40 t246.length co40,.slice Ao44 t249.length co44] 25 (0,0)) (by (with_reducible repeat (first|refine blk_drewN ?_ _|refine blk_drew ?_|refine blk_alloc ?_ _));exact BK253.out)) : gb261 ≠ gb253));clear HO248;clear HO251;clear HO256;clear HO259;clear BK241;clear BK242;clear BK253;clear HB;have HO248:=n0_;have HO251:=n1_;have HO256:=n2_;have HO259:=n3_;have BK241:=n4_;have BK242:=n5_;have BK253:=n6_;have HB:=n7_;have BK261:=n8_;have GW261:=n9_;have GE261:=n10_;have NB241_261:=n11_;have NB261_241:=n12_;have NB242_261:=n13_;have NB261_242:=n14_;have NB253_261:=n15_;have NB261_253:=n16_;clear n0_ n1_ n2_ n3_ n4_ n5_ n6_ n7_ n8_ n9_ n10_ n11_ n12_ n13_ n14_ n15_ n16_;clear hb hbox hg;obtain ⟨Ao48,co48,eo48⟩:=Kd.R_slice HO256.out;subst eo48;have hnb49:=NB261_241.out;have hnc49:=NB241_261.out;have hnb50:=NB261_242.out;have hnc50:=NB242_261.out;have hnb51:=NB261_253.out;have hnc51:=NB253_261.out;have hcz52_0 : w47.cell? ⟨gb261,0,none⟩ = some (.slice none 0 0):=(blk_cell BK261.out 0).trans rfl;have hcz52_1 : w47.cell? ⟨gb261,1,none⟩ = some (.slice none 0 0):=(blk_cell BK261.out 1).trans rfl;have hfz52_0:=blk_frozen BK261.out 0;have hfz52_1:=blk_frozen BK261.out 1;obtain ⟨Ao53,co53,eo53⟩:=Kd.R_slice HO259.out;subst eo53))
       have n0_ : Aside0 (Kd.R k45 45 ((w47.setCell ⟨gb261,0,none⟩ (.slice Ao48 t254.length co48)).setCell ⟨gb261,1,none⟩ (.slice Ao53 t257.length co53)) w.heap.size (fun k_ => some k_ ≠ (.slice Ao48 t254.length co48 : Value).ownBlock) (.slice Ao40 t246.length co40) t246):=⟨by (with_reducible repeat (first | apply Kd.R_alloc | apply Kd.R_drewN | apply Kd.R_drew));exact Kd.R_mono (Kd.R_far (p:=⟨gb261,1,none⟩) (Kd.R_far (p:=⟨gb261,0,none⟩) (Kd.R_types HO248.out BK261.out (by decide)) (fun _ hk => hk.2) (.slice Ao48 t254.length co48)) (fun _ hk => hk.2) (.slice Ao53 t257.length co53)) (fun _ hk => hk.1.2)⟩
       have n1_ : Aside0 (Kd.R k57 57 ((w47.setCell ⟨gb261,0,none⟩ (.slice Ao48 t254.length co48)).setCell ⟨gb261,1,none⟩ (.slice Ao53 t257.length co53)) w.heap.size (fun k_ => some k_ ≠ (.slice Ao53 t257.length co53 : Value).ownBlock) (.slice Ao44 t249.length co44) t249):=⟨by (with_reducible repeat (first | apply Kd.R_alloc | apply Kd.R_drewN | apply Kd.R_drew));exact Kd.R_mono (Kd.R_far (p:=⟨gb261,1,none⟩) (Kd.R_far (p:=⟨gb261,0,none⟩) (Kd.R_types HO251.out BK261.out (by decide)) (fun _ hk => hk.2) (.slice Ao48 t254.length co48)) (fun _ hk => hk.2) (.slice Ao53 t257.length co53)) (fun _ hk => hk.1.2)⟩
       have n2_ : Aside0 (Kd.R k45 45 ((w47.setCell ⟨gb261,0,none⟩ (.slice Ao48 t254.length co48)).setCell ⟨gb261,1,none⟩ (.slice Ao53 t257.length co53)) w.heap.size (fun k_ => some k_ ≠ (.slice Ao40 t246.length co40 : Value).ownBlock) (.slice Ao48 t254.length co48) t254):=⟨by (with_reducible repeat (first | apply Kd.R_alloc | apply Kd.R_drewN | apply Kd.R_drew));exact Kd.R_mono (Kd.R_far (p:=⟨gb261,1,none⟩) (Kd.R_far (p:=⟨gb261,0,none⟩) (Kd.R_types HO256.out BK261.out (by decide)) (fun _ hk => hk.2) (.slice Ao48 t254.length co48)) (fun _ hk => hk.2) (.slice Ao53 t257.length co53)) (fun _ hk => hk.1.2)⟩
       have n3_ : Aside0 (Kd.R k57 57 ((w47.setCell ⟨gb261,0,none⟩ (.slice Ao48 t254.length co48)).setCell ⟨gb261,1,none⟩ (.slice Ao53 t257.length co53)) w.heap.size (fun k_ => some k_ ≠ (.slice Ao44 t249.length co44 : Value).ownBlock) (.slice Ao53 t257.length co53) t257):=⟨by (with_reducible repeat (first | apply Kd.R_alloc | apply Kd.R_drewN | apply Kd.R_drew));exact Kd.R_mono (Kd.R_far (p:=⟨gb261,1,none⟩) (Kd.R_far (p:=⟨gb261,0,none⟩) (Kd.R_types HO259.out BK261.out (by decide)) (fun _ hk => hk.2) (.slice Ao48 t254.length co48)) (fun _ hk => hk.2) (.slice Ao53 t257.length co53)) (fun _ hk => hk.1.2)⟩
       have n4_ : Aside0 (((w47.setCell ⟨gb261,0,none⟩ (.slice Ao48 t254.length co48)).setCell ⟨gb261,1,none⟩ (.slice Ao53 t257.length co53)).heap[gb241]? = some (.cells #[.slice A0_0 l0_0.length c0_0,.slice A0_1 l0_1.length c0_1] 25 (0,0))):=⟨by (with_reducible repeat (first | refine blk_drewN ?_ _ | refine blk_drew ?_ | refine blk_alloc ?_ _));refine blk_far ?_ NB241_261.out _;(with_reducible repeat (first | refine blk_drewN ?_ _ | refine blk_drew ?_ | refine blk_alloc ?_ _));refine blk_far ?_ NB241_261.out _;(with_reducible repeat (first | refine blk_drewN ?_ _ | refine blk_drew ?_ | refine blk_alloc ?_ _));exact BK241.out⟩
       have n5_ : Aside0 (((w47.setCell ⟨gb261,0,none⟩ (.slice Ao48 t254.length co48)).setCell ⟨gb261,1,none⟩ (.slice Ao53 t257.length co53)).heap[gb242]? = some (.cells #[.slice A1_0 l1_0.length c1_0,.slice A1_1 l1_1.length c1_1] 25 (0,0))):=⟨by (with_reducible repeat (first | refine blk_drewN ?_ _ | refine blk_drew ?_ | refine blk_alloc ?_ _));refine blk_far ?_ NB242_261.out _;(with_reducible repeat (first | refine blk_drewN ?_ _ | refine blk_drew ?_ | refine blk_alloc ?_ _));refine blk_far ?_ NB242_261.out _;(with_reducible repeat (first | refine blk_drewN ?_ _ | refine blk_drew ?_ | refine blk_alloc ?_ _));exact BK242.out⟩
       have n6_ : Aside0 (((w47.setCell ⟨gb261,0,none⟩ (.slice Ao48 t254.length co48)).setCell ⟨gb261,1,none⟩ (.slice Ao53 t257.length co53)).heap[gb253]? = some (.cells #[.slice Ao40 t246.length co40,.slice Ao44 t249.length co44] 25 (0,0))):=⟨by (with_reducible repeat (first | refine blk_drewN ?_ _ | refine blk_drew ?_ | refine blk_alloc ?_ _));refine blk_far ?_ NB253_261.out _;(with_reducible repeat (first | refine blk_drewN ?_ _ | refine blk_drew ?_ | refine blk_alloc ?_ _));refine blk_far ?_ NB253_261.out _;(with_reducible repeat (first | refine blk_drewN ?_ _ | refine blk_drew ?_ | refine blk_alloc ?_ _));exact BK253.out⟩
       have n7_ : Aside0 (((w47.setCell ⟨gb261,0,none⟩ (.slice Ao48 t254.length co48)).setCell ⟨gb261,1,none⟩ (.slice Ao53 t257.length co53)).heap[gb261]? = some (.cells #[.slice Ao48 t254.length co48,.slice Ao53 t257.length co53] 25 (0,0))):=⟨by (with_reducible repeat (first | refine blk_drewN ?_ _ | refine blk_drew ?_ | refine blk_alloc ?_ _));refine blk_put (cs:=#[.slice Ao48 t254.length co48,.slice none 0 0]) ?_ 1 _ rfl;(with_reducible repeat (first | refine blk_drewN ?_ _ | refine blk_drew ?_ | refine blk_alloc ?_ _));refine blk_put (cs:=#[.slice none 0 0,.slice none 0 0]) ?_ 0 _ rfl;(with_reducible repeat (first | refine blk_drewN ?_ _ | refine blk_drew ?_ | refine blk_alloc ?_ _));exact BK261.out⟩
       have n8_ : Aside0 (Below w.heap.size w ((w47.setCell ⟨gb261,0,none⟩ (.slice Ao48 t254.length co48)).setCell ⟨gb261,1,none⟩ (.slice Ao53 t257.length co53))):=⟨by repeat (first | (with_reducible first | exact HB.out | apply below_alloc | apply pw_below_drewN | apply below_drew1 | refine below_set ?_ GE241.out | refine below_set ?_ GE242.out | refine below_set ?_ GE253.out | refine below_set ?_ GE261.out) | exact HB.out)⟩
       (try clear HO248)
       (try clear HO251)
       (try clear HO256)
       (try clear HO259)
       (try clear BK241)
       (try clear BK242)
       (try clear BK253)
       (try clear BK261)
       (try clear HB)
       generalize ((w47.setCell ⟨gb261,0,none⟩ (.slice Ao48 t254.length co48)).setCell ⟨gb261,1,none⟩ (.slice Ao53 t257.length co53)) = w54 at n0_ n1_ n2_ n3_ n4_ n5_ n6_ n7_ n8_ ⊢
       have HO248:=n0_
       have HO251:=n1_
       have HO256:=n2_
       have HO259:=n3_
       have BK241:=n4_
       have BK242:=n5_
       have BK253:=n6_
       have BK261:=n7_
       have HB:=n8_
       clear n0_ n1_ n2_ n3_ n4_ n5_ n6_ n7_ n8_
       have n0_:=aMx13 (Kd.R_drew HO248.out)
       have n1_:=aMx13 (Kd.R_drew HO251.out)
       have n2_:=aMx13 (Kd.R_drew HO256.out)
       have n3_:=aMx13 (Kd.R_drew HO259.out)
       have n4_:=aMx13 (blk_drew BK241.out)
       have n5_:=aMx13 (blk_drew BK242.out)
       have n6_:=aMx13 (blk_drew BK253.out)
       have n7_:=aMx13 (blk_drew BK261.out)
       have n8_:=aMx13 (below_drew1 HB.out)
       clear HO248
       clear HO251
       clear HO256
       clear HO259
       clear BK241
       clear BK242
       clear BK253
       clear BK261
       clear HB
       have HO248:=n0_
       have HO251:=n1_
       have HO256:=n2_
       have HO259:=n3_
       have BK241:=n4_
       have BK242:=n5_
       have BK253:=n6_
       have BK261:=n7_
       have HB:=n8_
       clear n0_ n1_ n2_ n3_ n4_ n5_ n6_ n7_ n8_
       refine start_ (n:=23) (S:=fun w' => w'.cell? ⟨gb241,0,none⟩ = some (.slice A0_0 l0_0.length c0_0) ∧ w'.cell? ⟨gb241,1,none⟩ = some (.slice A0_1 l0_1.length c0_1) ∧ w'.cell? ⟨gb242,0,none⟩ = some (.slice A1_0 l1_0.length c1_0) ∧ w'.cell? ⟨gb242,1,none⟩ = some (.slice A1_1 l1_1.length c1_1) ∧ w'.cell? ⟨gb253,0,none⟩ = some (.slice Ao40 t246.length co40) ∧ w'.cell? ⟨gb253,1,none⟩ = some (.slice Ao44 t249.length co44) ∧ w'.cell? ⟨gb261,0,none⟩ = some (.slice Ao48 t254.length co48) ∧ w'.cell? ⟨gb261,1,none⟩ = some (.slice Ao53 t257.length co53)) (ds:=[]) #[false,false,false,false,false,false,false,false,false,false,false,false,false,false,false,false,false,false,false,false,false,false,false] (by kernel_rfl) rfl rfl ⟨(blk_cell BK241.out 0).trans rfl,(blk_cell BK241.out 1).trans rfl,(blk_cell BK242.out 0).trans rfl,(blk_cell BK242.out 1).trans rfl,(blk_cell BK253.out 0).trans rfl,(blk_cell BK253.out 1).trans rfl,(blk_cell BK261.out 0).trans rfl,(blk_cell BK261.out 1).trans rfl⟩ (fun hHeld => ?_);refine with_tabW lapidarylaw13_IsoIs.tab5 lapidarylaw13_IsoIs.bits5 (fun HT_ HW_ => ?_)
       generalize w54.drew = w55 at HO248 HO251 HO256 HO259 BK241 BK242 BK253 BK261 HB hHeld ⊢
       refine pure_ (i:=2) (N:=some 37) (v:=?_) (a':=?_) #[false,false,true,false,false,false,false,false,false,false,false,false,false,false,false,false,false,false,false,false,false,false,false] rfl rfl (any_of HT_.out (by kernel_rfl)) (fun _ _ _ h => h) (Or.inl ⟨by rfl,?_⟩) ?_ ?_
       rotate_left
       ·intro w'
        go_simp
        with_reducible rfl
       rotate_left
       ·simp only [Act.put,sAx13,sBx13,sCx13,i64_w,i32_w]
        rfl
       refine pure_ (i:=6) (N:=some 41) (v:=?_) (a':=?_) #[false,false,true,false,false,false,true,false,false,false,false,false,false,false,false,false,false,false,false,false,false,false,false] rfl rfl (any_of HT_.out (by kernel_rfl)) (fun _ _ _ h => h) (Or.inl ⟨by rfl,?_⟩) ?_ ?_
       rotate_left
       ·intro w'
        go_simp
        with_reducible rfl
       rotate_left
       ·simp only [Act.put,sAx13,sBx13,sCx13,i64_w,i32_w]
        rfl
       refine take_ (i:=0) (N:=some 35) (v:=?_) (a':=?_) #[true,false,true,false,false,false,true,false,false,false,false,false,false,false,false,false,false,false,false,false,false,false,false] rfl rfl (take_ofW HT_.out HW_.out (by kernel_rfl)) (fun _ _ _ h => h) (Or.inl ⟨by rfl,?_⟩) hHeld ?_ ?_
       rotate_left
       ·rintro w' ⟨s0,s1,s2,s3,s4,s5,s6,s7⟩
        go_simp
        with_reducible rfl
       rotate_left
       ·simp only [Act.put,sAx13,sBx13,sCx13,i64_w,i32_w]
        rfl
       refine take_ (i:=1) (N:=some 36) (v:=?_) (a':=?_) #[true,true,true,false,false,false,true,false,false,false,false,false,false,false,false,false,false,false,false,false,false,false,false] rfl rfl (take_ofW HT_.out HW_.out (by kernel_rfl)) (fun _ _ _ h => h) (Or.inl ⟨by rfl,?_⟩) hHeld ?_ ?_
       rotate_left
       ·rintro w' ⟨s0,s1,s2,s3,s4,s5,s6,s7⟩
        go_simp
        with_reducible rfl
       rotate_left
       ·simp only [Act.put,sAx13,sBx13,sCx13,i64_w,i32_w]
        rfl
       refine take_ (i:=4) (N:=some 39) (v:=?_) (a':=?_) #[true,true,true,false,true,false,true,false,false,false,false,false,false,false,false,false,false,false,false,false,false,false,false] rfl rfl (take_ofW HT_.out HW_.out (by kernel_rfl)) (fun _ _ _ h => h) (Or.inl ⟨by rfl,?_⟩) hHeld ?_ ?_
       rotate_left
       ·rintro w' ⟨s0,s1,s2,s3,s4,s5,s6,s7⟩
        go_simp
        with_reducible rfl
       rotate_left
       ·simp only [Act.put,sAx13,sBx13,sCx13,i64_w,i32_w]
        rfl
       refine take_ (i:=5) (N:=some 40) (v:=?_) (a':=?_) #[true,true,true,false,true,true,true,false,false,false,false,false,false,false,false,false,false,false,false,false,false,false,false] rfl rfl (take_ofW HT_.out HW_.out (by kernel_rfl)) (fun _ _ _ h => h) (Or.inl ⟨by rfl,?_⟩) hHeld ?_ ?_
       rotate_left
       ·rintro w' ⟨s0,s1,s2,s3,s4,s5,s6,s7⟩
        go_simp
        with_reducible rfl
       rotate_left
       ·simp only [Act.put,sAx13,sBx13,sCx13,i64_w,i32_w]
        rfl
       refine one_ (i:=3) (N:=some 38) #[true,true,true,true,true,true,true,false,false,false,false,false,false,false,false,false,false,false,false,false,false,false,false] rfl rfl (one_of HT_.out (by kernel_rfl)) (by decide) (fun K hK => ?_)
       refine goes_ Tryd.func15 (by kernel_rfl) rfl #[.agg #[.slice A0_0 l0_0.length c0_0,.slice A0_1 l0_1.length c0_1],.agg #[.slice A1_0 l1_0.length c1_0,.slice A1_1 l1_1.length c1_1],.slice A2 l2.length c2] (by rfl) rfl rfl (by (try simp only [List.map_toArray,List.map_cons,List.map_nil]);first | done | rfl | (simp only [List.length_drop,List.length_take];rfl)) ?_
       with_reducible refine (iso_Is.calls _ _ l0_0 _ _ l0_1 _ _ l1_0 _ _ l1_1 _ _ l2 t262 _ ?side1 ?side2 ?side3 ?side4 ?side5 ?side6 ?side7 ?side8 ?side9 ?side10 ?sideG A29.out).mono ?_
       (case sideG => repeat (first|exact (Kd.C_below HG.out HB.out)|(with_reducible first|refine Kd.C_alloc ?_ _|refine Kd.C_drewN ?_ _|refine Kd.C_drew ?_)))
       (case side1 => repeat (first|exact (Kd.C_below HR0_0.out HB.out)|(with_reducible first|refine Kd.C_alloc ?_ _|refine Kd.C_drewN ?_ _|refine Kd.C_drew ?_)))
       (case side2 => exact HC0_0.out)
       (case side3 => repeat (first|exact (Kd.C_below HR0_1.out HB.out)|(with_reducible first|refine Kd.C_alloc ?_ _|refine Kd.C_drewN ?_ _|refine Kd.C_drew ?_)))
       (case side4 => exact HC0_1.out)
       (case side5 => repeat (first|exact (Kd.C_below HR1_0.out HB.out)|(with_reducible first|refine Kd.C_alloc ?_ _|refine Kd.C_drewN ?_ _|refine Kd.C_drew ?_)))
       (case side6 => exact HC1_0.out)
       (case side7 => repeat (first|exact (Kd.C_below HR1_1.out HB.out)|(with_reducible first|refine Kd.C_alloc ?_ _|refine Kd.C_drewN ?_ _|refine Kd.C_drew ?_)))
       (case side8 => exact HC1_1.out)
       (case side9 => repeat (first|exact (Kd.C_below HR2.out HB.out)|(with_reducible first|refine Kd.C_alloc ?_ _|refine Kd.C_drewN ?_ _|refine Kd.C_drew ?_)))
       (case side10 => exact HC2.out)
       rintro e w56 ⟨rfl,hb⟩
       refine ⟨_,rfl,?_⟩
       have n0_:=aMx13 (Kd.R_below (by (with_reducible repeat (first | apply Kd.R_alloc | apply Kd.R_drewN | apply Kd.R_drew));exact HO248.out) hb)
       have n1_:=aMx13 (Kd.R_below (by (with_reducible repeat (first | apply Kd.R_alloc | apply Kd.R_drewN | apply Kd.R_drew));exact HO251.out) hb)
       have n2_:=aMx13 (Kd.R_below (by (with_reducible repeat (first | apply Kd.R_alloc | apply Kd.R_drewN | apply Kd.R_drew));exact HO256.out) hb)
       have n3_:=aMx13 (Kd.R_below (by (with_reducible repeat (first | apply Kd.R_alloc | apply Kd.R_drewN | apply Kd.R_drew));exact HO259.out) hb)
       have n4_:=aMx13 (blk_below (g:=gb241) (o:=.cells #[.slice A0_0 l0_0.length c0_0,.slice A0_1 l0_1.length c0_1] 25 (0,0)) (by (with_reducible repeat (first | refine blk_drewN ?_ _ | refine blk_drew ?_ | refine blk_alloc ?_ _));exact BK241.out) hb)
       have n5_:=aMx13 (blk_below (g:=gb242) (o:=.cells #[.slice A1_0 l1_0.length c1_0,.slice A1_1 l1_1.length c1_1] 25 (0,0)) (by (with_reducible repeat (first | refine blk_drewN ?_ _ | refine blk_drew ?_ | refine blk_alloc ?_ _));exact BK242.out) hb)
       have n6_:=aMx13 (blk_below (g:=gb253) (o:=.cells #[.slice Ao40 t246.length co40,.slice Ao44 t249.length co44] 25 (0,0)) (by (with_reducible repeat (first | refine blk_drewN ?_ _ | refine blk_drew ?_ | refine blk_alloc ?_ _));exact BK253.out) hb)
       have n7_:=aMx13 (blk_below (g:=gb261) (o:=.cells #[.slice Ao48 t254.length co48,.slice Ao53 t257.length co53] 25 (0,0)) (by (with_reducible repeat (first | refine blk_drewN ?_ _ | refine blk_drew ?_ | refine blk_alloc ?_ _));exact BK261.out) hb)
       have n8_:=aMx13 (below_step (by repeat (first | (with_reducible first | exact HB.out | apply below_alloc | apply pw_below_drewN | apply below_drew1 | refine below_set ?_ GE241.out | refine below_set ?_ GE242.out | refine below_set ?_ GE253.out | refine below_set ?_ GE261.out) | exact HB.out)) hb)
       clear HO248
       clear HO251
       clear HO256
       clear HO259
       clear BK241
       clear BK242
       clear BK253
       clear BK261
       clear HB
       have HO248:=n0_
       have HO251:=n1_
       have HO256:=n2_
       have HO259:=n3_
       have BK241:=n4_
       have BK242:=n5_
       have BK253:=n6_
       have BK261:=n7_
       have HB:=n8_
       clear n0_ n1_ n2_ n3_ n4_ n5_ n6_ n7_ n8_
       (try clear hb)
       (try clear hb2)
       (try clear hk)
       (try clear hi)
       refine hK.out _ _ ⟨(blk_cell BK241.out 0).trans rfl,(blk_cell BK241.out 1).trans rfl,(blk_cell BK242.out 0).trans rfl,(blk_cell BK242.out 1).trans rfl,(blk_cell BK253.out 0).trans rfl,(blk_cell BK253.out 1).trans rfl,(blk_cell BK261.out 0).trans rfl,(blk_cell BK261.out 1).trans rfl⟩ (fun hHeld => ?_)
       clear hK K
       refine norm_ (a':=?_) ?_ ?_
       rotate_left
       ·show Act.put _ (some 38) _ = _
        simp only [Act.put,sAx13,sBx13,sCx13,i64_w,i32_w]
        rfl
       refine one_ (i:=7) (N:=some 42) #[true,true,true,true,true,true,true,true,false,false,false,false,false,false,false,false,false,false,false,false,false,false,false] rfl rfl (one_of HT_.out (by kernel_rfl)) (by decide) (fun K hK => ?_)
       refine goes_ Tryd.func16 (by kernel_rfl) rfl #[.agg #[.slice A0_0 l0_0.length c0_0,.slice A0_1 l0_1.length c0_1],.agg #[.slice A1_0 l1_0.length c1_0,.slice A1_1 l1_1.length c1_1],.slice A2 l2.length c2] (by rfl) rfl rfl (by (try simp only [List.map_toArray,List.map_cons,List.map_nil]);first | done | rfl | (simp only [List.length_drop,List.length_take];rfl)) ?_
       with_reducible refine (lapidaryref13_Is.calls kj3 _ _ l0_0 _ _ l0_1 _ _ l1_0 _ _ l1_1 _ _ l2 t263 _ ?side1 ?side2 ?side3 ?side4 ?side5 ?side6 ?side7 ?side8 ?side9 ?side10 A30.out).mono ?_
       (case side1 => repeat (first|exact (Kd.C_below HR0_0.out HB.out)|(with_reducible first|refine Kd.C_alloc ?_ _|refine Kd.C_drewN ?_ _|refine Kd.C_drew ?_)))
       (case side2 => exact HC0_0.out)
       (case side3 => repeat (first|exact (Kd.C_below HR0_1.out HB.out)|(with_reducible first|refine Kd.C_alloc ?_ _|refine Kd.C_drewN ?_ _|refine Kd.C_drew ?_)))
       (case side4 => exact HC0_1.out)
       (case side5 => repeat (first|exact (Kd.C_below HR1_0.out HB.out)|(with_reducible first|refine Kd.C_alloc ?_ _|refine Kd.C_drewN ?_ _|refine Kd.C_drew ?_)))
       (case side6 => exact HC1_0.out)
       (case side7 => repeat (first|exact (Kd.C_below HR1_1.out HB.out)|(with_reducible first|refine Kd.C_alloc ?_ _|refine Kd.C_drewN ?_ _|refine Kd.C_drew ?_)))
       (case side8 => exact HC1_1.out)
       (case side9 => repeat (first|exact (Kd.C_below HR2.out HB.out)|(with_reducible first|refine Kd.C_alloc ?_ _|refine Kd.C_drewN ?_ _|refine Kd.C_drew ?_)))
       (case side10 => exact HC2.out)
       rintro e w57 ⟨rfl,hb⟩
       refine ⟨_,rfl,?_⟩
       have n0_:=aMx13 (Kd.R_below (by (with_reducible repeat (first | apply Kd.R_alloc | apply Kd.R_drewN | apply Kd.R_drew));exact HO248.out) hb)
       have n1_:=aMx13 (Kd.R_below (by (with_reducible repeat (first | apply Kd.R_alloc | apply Kd.R_drewN | apply Kd.R_drew));exact HO251.out) hb)
       have n2_:=aMx13 (Kd.R_below (by (with_reducible repeat (first | apply Kd.R_alloc | apply Kd.R_drewN | apply Kd.R_drew));exact HO256.out) hb)
       have n3_:=aMx13 (Kd.R_below (by (with_reducible repeat (first | apply Kd.R_alloc | apply Kd.R_drewN | apply Kd.R_drew));exact HO259.out) hb)
       have n4_:=aMx13 (blk_below (g:=gb241) (o:=.cells #[.slice A0_0 l0_0.length c0_0,.slice A0_1 l0_1.length c0_1] 25 (0,0)) (by (with_reducible repeat (first | refine blk_drewN ?_ _ | refine blk_drew ?_ | refine blk_alloc ?_ _));exact BK241.out) hb)
       have n5_:=aMx13 (blk_below (g:=gb242) (o:=.cells #[.slice A1_0 l1_0.length c1_0,.slice A1_1 l1_1.length c1_1] 25 (0,0)) (by (with_reducible repeat (first | refine blk_drewN ?_ _ | refine blk_drew ?_ | refine blk_alloc ?_ _));exact BK242.out) hb)
       have n6_:=aMx13 (blk_below (g:=gb253) (o:=.cells #[.slice Ao40 t246.length co40,.slice Ao44 t249.length co44] 25 (0,0)) (by (with_reducible repeat (first | refine blk_drewN ?_ _ | refine blk_drew ?_ | refine blk_alloc ?_ _));exact BK253.out) hb)
       have n7_:=aMx13 (blk_below (g:=gb261) (o:=.cells #[.slice Ao48 t254.length co48,.slice Ao53 t257.length co53] 25 (0,0)) (by (with_reducible repeat (first | refine blk_drewN ?_ _ | refine blk_drew ?_ | refine blk_alloc ?_ _));exact BK261.out) hb)
       have n8_:=aMx13 (below_step (by repeat (first | (with_reducible first | exact HB.out | apply below_alloc | apply pw_below_drewN | apply below_drew1 | refine below_set ?_ GE241.out | refine below_set ?_ GE242.out | refine below_set ?_ GE253.out | refine below_set ?_ GE261.out) | exact HB.out)) hb)
       clear HO248
       clear HO251
       clear HO256
       clear HO259
       clear BK241
       clear BK242
       clear BK253
       clear BK261
       clear HB
       have HO248:=n0_
       have HO251:=n1_
       have HO256:=n2_
       have HO259:=n3_
       have BK241:=n4_
       have BK242:=n5_
       have BK253:=n6_
       have BK261:=n7_
       have HB:=n8_
       clear n0_ n1_ n2_ n3_ n4_ n5_ n6_ n7_ n8_
       (try clear hb)
       (try clear hb2)
       (try clear hk)
       (try clear hi)
       refine hK.out _ _ ⟨(blk_cell BK241.out 0).trans rfl,(blk_cell BK241.out 1).trans rfl,(blk_cell BK242.out 0).trans rfl,(blk_cell BK242.out 1).trans rfl,(blk_cell BK253.out 0).trans rfl,(blk_cell BK253.out 1).trans rfl,(blk_cell BK261.out 0).trans rfl,(blk_cell BK261.out 1).trans rfl⟩ (fun hHeld => ?_)
       clear hK K
       refine norm_ (a':=?_) ?_ ?_
       rotate_left
       ·show Act.put _ (some 42) _ = _
        simp only [Act.put,sAx13,sBx13,sCx13,i64_w,i32_w]
        rfl
       refine pure_ (i:=8) (N:=some 43) (v:=?_) (a':=?_) #[true,true,true,true,true,true,true,true,true,false,false,false,false,false,false,false,false,false,false,false,false,false,false] rfl rfl (any_of HT_.out (by kernel_rfl)) (fun _ _ _ h => h) (Or.inl ⟨by rfl,?_⟩) ?_ ?_
       rotate_left
       ·intro w'
        go_simp
        with_reducible rfl
       rotate_left
       ·simp only [Act.put,sAx13,sBx13,sCx13,i64_w,i32_w]
        rfl
       refine pure_ (i:=9) (N:=some 44) (v:=?_) (a':=?_) #[true,true,true,true,true,true,true,true,true,true,false,false,false,false,false,false,false,false,false,false,false,false,false] rfl rfl (any_of HT_.out (by kernel_rfl)) (fun _ _ _ h => h) (Or.inl ⟨by rfl,?_⟩) ?_ ?_
       rotate_left
       ·intro w'
        go_simp
        with_reducible rfl
       rotate_left
       ·simp only [Act.put,sAx13,sBx13,sCx13,i64_w,i32_w]
        rfl
       refine take_ (i:=10) (N:=some 45) (v:=?_) (a':=?_) #[true,true,true,true,true,true,true,true,true,true,true,false,false,false,false,false,false,false,false,false,false,false,false] rfl rfl (take_ofW HT_.out HW_.out (by kernel_rfl)) (fun _ _ _ h => h) (Or.inl ⟨by rfl,?_⟩) hHeld ?_ ?_
       rotate_left
       ·rintro w' ⟨s0,s1,s2,s3,s4,s5,s6,s7⟩
        go_simp
        with_reducible rfl
       rotate_left
       ·simp only [Act.put,sAx13,sBx13,sCx13,i64_w,i32_w]
        rfl
       refine take_ (i:=11) (N:=some 46) (v:=?_) (a':=?_) #[true,true,true,true,true,true,true,true,true,true,true,true,false,false,false,false,false,false,false,false,false,false,false] rfl rfl (take_ofW HT_.out HW_.out (by kernel_rfl)) (fun _ _ _ h => h) (Or.inl ⟨by rfl,?_⟩) hHeld ?_ ?_
       rotate_left
       ·rintro w' ⟨s0,s1,s2,s3,s4,s5,s6,s7⟩
        go_simp
        with_reducible rfl
       rotate_left
       ·simp only [Act.put,sAx13,sBx13,sCx13,i64_w,i32_w]
        rfl
       refine one_ (i:=12) (N:=some 47) #[true,true,true,true,true,true,true,true,true,true,true,true,true,false,false,false,false,false,false,false,false,false,false] rfl rfl (one_of HT_.out (by kernel_rfl)) (by decide) (fun K hK => ?_)
       refine goes_ Tryd.func17 (by kernel_rfl) rfl #[.agg #[.slice Ao40 t246.length co40,.slice Ao44 t249.length co44],.agg #[.slice Ao48 t254.length co48,.slice Ao53 t257.length co53]] (by rfl) rfl rfl (by (try simp only [List.map_toArray,List.map_cons,List.map_nil]);first | done | rfl | (simp only [List.length_drop,List.length_take];rfl)) ?_
       with_reducible refine (lapidaryref10_Same.calls kj3 _ _ t246 _ _ t249 _ _ t254 _ _ t257 true _ ?side1 ?side2 ?side3 ?side4 ?side5 ?side6 ?side7 ?side8 A32.out).mono ?_
       (case side1 => repeat (first|exact (Kd.R_reads' HO248.out).2.2|(with_reducible first|refine Kd.C_alloc ?_ _|refine Kd.C_drewN ?_ _|refine Kd.C_drew ?_)))
       (case side2 => exact (Kd.R_reads' HO248.out).2.1)
       (case side3 => repeat (first|exact (Kd.R_reads' HO251.out).2.2|(with_reducible first|refine Kd.C_alloc ?_ _|refine Kd.C_drewN ?_ _|refine Kd.C_drew ?_)))
       (case side4 => exact (Kd.R_reads' HO251.out).2.1)
       (case side5 => repeat (first|exact (Kd.R_reads' HO256.out).2.2|(with_reducible first|refine Kd.C_alloc ?_ _|refine Kd.C_drewN ?_ _|refine Kd.C_drew ?_)))
       (case side6 => exact (Kd.R_reads' HO256.out).2.1)
       (case side7 => repeat (first|exact (Kd.R_reads' HO259.out).2.2|(with_reducible first|refine Kd.C_alloc ?_ _|refine Kd.C_drewN ?_ _|refine Kd.C_drew ?_)))
       (case side8 => exact (Kd.R_reads' HO259.out).2.1)
       rintro e w58 ⟨rfl,hb⟩
       refine ⟨_,rfl,?_⟩
       have n0_:=aMx13 (Kd.R_below (by (with_reducible repeat (first | apply Kd.R_alloc | apply Kd.R_drewN | apply Kd.R_drew));exact HO248.out) hb)
       have n1_:=aMx13 (Kd.R_below (by (with_reducible repeat (first | apply Kd.R_alloc | apply Kd.R_drewN | apply Kd.R_drew));exact HO251.out) hb)
       have n2_:=aMx13 (Kd.R_below (by (with_reducible repeat (first | apply Kd.R_alloc | apply Kd.R_drewN | apply Kd.R_drew));exact HO256.out) hb)
       have n3_:=aMx13 (Kd.R_below (by (with_reducible repeat (first | apply Kd.R_alloc | apply Kd.R_drewN | apply Kd.R_drew));exact HO259.out) hb)
       have n4_:=aMx13 (blk_below (g:=gb241) (o:=.cells #[.slice A0_0 l0_0.length c0_0,.slice A0_1 l0_1.length c0_1] 25 (0,0)) (by (with_reducible repeat (first | refine blk_drewN ?_ _ | refine blk_drew ?_ | refine blk_alloc ?_ _));exact BK241.out) hb)
       have n5_:=aMx13 (blk_below (g:=gb242) (o:=.cells #[.slice A1_0 l1_0.length c1_0,.slice A1_1 l1_1.length c1_1] 25 (0,0)) (by (with_reducible repeat (first | refine blk_drewN ?_ _ | refine blk_drew ?_ | refine blk_alloc ?_ _));exact BK242.out) hb)
       have n6_:=aMx13 (blk_below (g:=gb253) (o:=.cells #[.slice Ao40 t246.length co40,.slice Ao44 t249.length co44] 25 (0,0)) (by (with_reducible repeat (first | refine blk_drewN ?_ _ | refine blk_drew ?_ | refine blk_alloc ?_ _));exact BK253.out) hb)
       have n7_:=aMx13 (blk_below (g:=gb261) (o:=.cells #[.slice Ao48 t254.length co48,.slice Ao53 t257.length co53] 25 (0,0)) (by (with_reducible repeat (first | refine blk_drewN ?_ _ | refine blk_drew ?_ | refine blk_alloc ?_ _));exact BK261.out) hb)
       have n8_:=aMx13 (below_step (by repeat (first | (with_reducible first | exact HB.out | apply below_alloc | apply pw_below_drewN | apply below_drew1 | refine below_set ?_ GE241.out | refine below_set ?_ GE242.out | refine below_set ?_ GE253.out | refine below_set ?_ GE261.out) | exact HB.out)) hb)
       clear HO248
       clear HO251
       clear HO256
       clear HO259
       clear BK241
       clear BK242
       clear BK253
       clear BK261
       clear HB
       have HO248:=n0_
       have HO251:=n1_
       have HO256:=n2_
       have HO259:=n3_
       have BK241:=n4_
       have BK242:=n5_
       have BK253:=n6_
       have BK261:=n7_
       have HB:=n8_
       clear n0_ n1_ n2_ n3_ n4_ n5_ n6_ n7_ n8_
       (try clear hb)
       (try clear hb2)
       (try clear hk)
       (try clear hi)
       refine hK.out _ _ ⟨(blk_cell BK241.out 0).trans rfl,(blk_cell BK241.out 1).trans rfl,(blk_cell BK242.out 0).trans rfl,(blk_cell BK242.out 1).trans rfl,(blk_cell BK253.out 0).trans rfl,(blk_cell BK253.out 1).trans rfl,(blk_cell BK261.out 0).trans rfl,(blk_cell BK261.out 1).trans rfl⟩ (fun hHeld => ?_)
       clear hK K
       refine norm_ (a':=?_) ?_ ?_
       rotate_left
       ·show Act.put _ (some 47) _ = _
        simp only [Act.put,sAx13,sBx13,sCx13,i64_w,i32_w]
        rfl
       refine pure_ (i:=13) (N:=some 48) (v:=?_) (a':=?_) #[true,true,true,true,true,true,true,true,true,true,true,true,true,true,false,false,false,false,false,false,false,false,false] rfl rfl (any_of HT_.out (by kernel_rfl)) (fun _ _ _ h => h) (Or.inl ⟨by rfl,?_⟩) ?_ ?_
       rotate_left
       ·intro w'
        go_simp
        with_reducible rfl
       rotate_left
       ·simp only [Act.put,sAx13,sBx13,sCx13,i64_w,i32_w]
        rfl
       refine pure_ (i:=14) (N:=some 49) (v:=?_) (a':=?_) #[true,true,true,true,true,true,true,true,true,true,true,true,true,true,true,false,false,false,false,false,false,false,false] rfl rfl (any_of HT_.out (by kernel_rfl)) (fun _ _ _ h => h) (Or.inl ⟨by rfl,?_⟩) ?_ ?_
       rotate_left
       ·intro w'
        go_simp
        with_reducible rfl
       rotate_left
       ·simp only [Act.put,sAx13,sBx13,sCx13,i64_w,i32_w]
        rfl
       refine pure_ (i:=15) (N:=some 50) (v:=?_) (a':=?_) #[true,true,true,true,true,true,true,true,true,true,true,true,true,true,true,true,false,false,false,false,false,false,false] rfl rfl (any_of HT_.out (by kernel_rfl)) (fun _ _ _ h => h) (Or.inl ⟨by rfl,?_⟩) ?_ ?_
       rotate_left
       ·intro w'
        go_simp
        with_reducible rfl
       rotate_left
       ·simp only [Act.put,sAx13,sBx13,sCx13,i64_w,i32_w]
        rfl
       refine pure_ (i:=16) (N:=some 51) (v:=?_) (a':=?_) #[true,true,true,true,true,true,true,true,true,true,true,true,true,true,true,true,true,false,false,false,false,false,false] rfl rfl (any_of HT_.out (by kernel_rfl)) (fun _ _ _ h => h) (Or.inl ⟨by rfl,?_⟩) ?_ ?_
       rotate_left
       ·intro w'
        go_simp
        with_reducible rfl
       rotate_left
       ·simp only [Act.put,sAx13,sBx13,sCx13,i64_w,i32_w]
        rfl
       refine pure_ (i:=17) (N:=some 52) (v:=?_) (a':=?_) #[true,true,true,true,true,true,true,true,true,true,true,true,true,true,true,true,true,true,false,false,false,false,false] rfl rfl (any_of HT_.out (by kernel_rfl)) (fun _ _ _ h => h) (Or.inl ⟨by rfl,?_⟩) ?_ ?_
       rotate_left
       ·intro w'
        go_simp
        with_reducible rfl
       rotate_left
       ·simp only [Act.put,sAx13,sBx13,sCx13,i64_w,i32_w]
        rfl
       refine pure_ (i:=18) (N:=some 53) (v:=?_) (a':=?_) #[true,true,true,true,true,true,true,true,true,true,true,true,true,true,true,true,true,true,true,false,false,false,false] rfl rfl (any_of HT_.out (by kernel_rfl)) (fun _ _ _ h => h) (Or.inl ⟨by rfl,?_⟩) ?_ ?_
       rotate_left
       ·intro w'
        go_simp
        with_reducible rfl
       rotate_left
       ·simp only [Act.put,sAx13,sBx13,sCx13,i64_w,i32_w]
        rfl
       refine pure_ (i:=19) (N:=some 54) (v:=?_) (a':=?_) #[true,true,true,true,true,true,true,true,true,true,true,true,true,true,true,true,true,true,true,true,false,false,false] rfl rfl (any_of HT_.out (by kernel_rfl)) (fun _ _ _ h => h) (Or.inl ⟨by rfl,?_⟩) ?_ ?_
       rotate_left
       ·intro w'
        go_simp
        with_reducible rfl
       rotate_left
       ·simp only [Act.put,sAx13,sBx13,sCx13,i64_w,i32_w]
        rfl
       refine one_ (i:=20) (N:=some 55) #[true,true,true,true,true,true,true,true,true,true,true,true,true,true,true,true,true,true,true,true,true,false,false] rfl rfl (one_of HT_.out (by kernel_rfl)) (by decide) (fun K hK => ?_)
       refine goes_ Tryd.func12 (by kernel_rfl) rfl #[] (by rfl) rfl rfl (by (try simp only [List.map_toArray,List.map_cons,List.map_nil]);first | done | rfl | (simp only [List.length_drop,List.length_take];rfl)) ?_
       with_reducible refine (lapidarylaw13_known.calls  t265 _ A35.out).mono ?_
       rintro e w59 ⟨rfl,hb⟩
       refine ⟨_,rfl,?_⟩
       have n0_:=aMx13 (Kd.R_below (by (with_reducible repeat (first | apply Kd.R_alloc | apply Kd.R_drewN | apply Kd.R_drew));exact HO248.out) hb)
       have n1_:=aMx13 (Kd.R_below (by (with_reducible repeat (first | apply Kd.R_alloc | apply Kd.R_drewN | apply Kd.R_drew));exact HO251.out) hb)
       have n2_:=aMx13 (Kd.R_below (by (with_reducible repeat (first | apply Kd.R_alloc | apply Kd.R_drewN | apply Kd.R_drew));exact HO256.out) hb)
       have n3_:=aMx13 (Kd.R_below (by (with_reducible repeat (first | apply Kd.R_alloc | apply Kd.R_drewN | apply Kd.R_drew));exact HO259.out) hb)
       have n4_:=aMx13 (blk_below (g:=gb241) (o:=.cells #[.slice A0_0 l0_0.length c0_0,.slice A0_1 l0_1.length c0_1] 25 (0,0)) (by (with_reducible repeat (first | refine blk_drewN ?_ _ | refine blk_drew ?_ | refine blk_alloc ?_ _));exact BK241.out) hb)
       have n5_:=aMx13 (blk_below (g:=gb242) (o:=.cells #[.slice A1_0 l1_0.length c1_0,.slice A1_1 l1_1.length c1_1] 25 (0,0)) (by (with_reducible repeat (first | refine blk_drewN ?_ _ | refine blk_drew ?_ | refine blk_alloc ?_ _));exact BK242.out) hb)
       have n6_:=aMx13 (blk_below (g:=gb253) (o:=.cells #[.slice Ao40 t246.length co40,.slice Ao44 t249.length co44] 25 (0,0)) (by (with_reducible repeat (first | refine blk_drewN ?_ _ | refine blk_drew ?_ | refine blk_alloc ?_ _));exact BK253.out) hb)
       have n7_:=aMx13 (blk_below (g:=gb261) (o:=.cells #[.slice Ao48 t254.length co48,.slice Ao53 t257.length co53] 25 (0,0)) (by (with_reducible repeat (first | refine blk_drewN ?_ _ | refine blk_drew ?_ | refine blk_alloc ?_ _));exact BK261.out) hb)
       have n8_:=aMx13 (below_step (by repeat (first | (with_reducible first | exact HB.out | apply below_alloc | apply pw_below_drewN | apply below_drew1 | refine below_set ?_ GE241.out | refine below_set ?_ GE242.out | refine below_set ?_ GE253.out | refine below_set ?_ GE261.out) | exact HB.out)) hb)
       clear HO248
       clear HO251
       clear HO256
       clear HO259
       clear BK241
       clear BK242
       clear BK253
       clear BK261
       clear HB
       have HO248:=n0_
       have HO251:=n1_
       have HO256:=n2_
       have HO259:=n3_
       have BK241:=n4_
       have BK242:=n5_
       have BK253:=n6_
       have BK261:=n7_
       have HB:=n8_
       clear n0_ n1_ n2_ n3_ n4_ n5_ n6_ n7_ n8_
       (try clear hb)
       (try clear hb2)
       (try clear hk)
       (try clear hi)
       refine hK.out _ _ ⟨(blk_cell BK241.out 0).trans rfl,(blk_cell BK241.out 1).trans rfl,(blk_cell BK242.out 0).trans rfl,(blk_cell BK242.out 1).trans rfl,(blk_cell BK253.out 0).trans rfl,(blk_cell BK253.out 1).trans rfl,(blk_cell BK261.out 0).trans rfl,(blk_cell BK261.out 1).trans rfl⟩ (fun hHeld => ?_)
       clear hK K
       refine norm_ (a':=?_) ?_ ?_
       rotate_left
       ·show Act.put _ (some 55) _ = _
        simp only [Act.put,sAx13,sBx13,sCx13,i64_w,i32_w]
        rfl
       refine pure_ (i:=21) (N:=some 56) (v:=?_) (a':=?_) #[true,true,true,true,true,true,true,true,true,true,true,true,true,true,true,true,true,true,true,true,true,true,false] rfl rfl (any_of HT_.out (by kernel_rfl)) (fun _ _ _ h => h) (Or.inl ⟨by rfl,?_⟩) ?_ ?_
       rotate_left
       ·intro w'
        go_simp
        with_reducible rfl
       rotate_left
       ·simp only [Act.put,sAx13,sBx13,sCx13,i64_w,i32_w]
        rfl
       refine pure_ (i:=22) (N:=some 6) (v:=?_) (a':=?_) #[true,true,true,true,true,true,true,true,true,true,true,true,true,true,true,true,true,true,true,true,true,true,true] rfl rfl (any_of HT_.out (by kernel_rfl)) (fun _ _ _ h => h) (Or.inl ⟨by rfl,?_⟩) ?_ ?_
       rotate_left
       ·intro w'
        go_simp
        with_reducible rfl
       rotate_left
       ·simp only [Act.put,sAx13,sBx13,sCx13,i64_w,i32_w]
        rfl
       refine done_ (done_of HT_.out (by kernel_rfl)) ?_
       try go_wp2
       go_ret
       exact ⟨by first | rfl | (simp [errW_none,errW_some]<;>rfl) | (simp [*,errW_none,errW_some]<;>rfl),by repeat (first | (with_reducible first | exact HB.out | apply below_alloc | apply pw_below_drewN | apply below_drew1 | refine below_set ?_ GE241.out | refine below_set ?_ GE242.out | refine below_set ?_ GE253.out | refine below_set ?_ GE261.out) | exact HB.out)⟩
      ·rw [if_neg c34] at H
       exact absurd (Option.some.inj H) (by rw [HRT.out];decide)
     ·replace c33:=Bool.eq_false_iff.mpr c33
      subst c33
      have H1 : (some false) = some r:=by rw [if_neg (show ¬ (false = true) by decide)] at H;exact H
      exact absurd (Option.some.inj H1) (by rw [HRT.out];decide)
    ·rw [if_neg c31] at H
     exact absurd (Option.some.inj H) (by rw [HRT.out];decide)
end Go.Proofs.YtbdpfmpbooikiaaDoor.PIsr
