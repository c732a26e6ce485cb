import Derived.Test.YtbdpfmpbooikiaaDoorPIsrx0
import Derived.Test.YtbdpfmpbooikiaaDoorPIsrx5
import Derived.Test.YtbdpfmpbooikiaaDoorPIsrx9
namespace Go.Proofs.YtbdpfmpbooikiaaDoor.PIsr
open Go Go.RowKit Go.Proofs.YtbdpfmpbooikiaaDoorW.PrintWords Go.Proofs.YtbdpfmpbooikiaaDoorW.PrintLast Go.Proofs.YtbdpfmpbooikiaaDoorW.PrintMore
attribute [local go_sem] max2_int min2_int max_two min_two max_three min_three max_four min_four
set_option linter.unusedVariables false
set_option linter.unusedSimpArgs false
attribute [local go_sem] idx57_0_0 idx57_1_0 idx57_2_0 idx86_0_0 idx86_1_0
theorem sAx10 {α : Type _} {l : List α} {i : Nat} {a : α} : l.toArray.setIfInBounds i a = (l.set i a).toArray := List.setIfInBounds_toArray ..
theorem sBx10 {α : Type _} {x y : α} {l : List α} : (x :: l).set 0 y = y :: l := rfl
theorem sCx10 {α : Type _} {x y : α} {l : List α} {i : Nat} : (x :: l).set (i + 1) y = x :: l.set i y := rfl
theorem aMx10 {p : Prop} (h : p) : Aside0 p := ⟨h⟩
mutual
def lapidaryref13_Renamed.j0 : Nat → List Int → List Int → Bool → List (S45) → List (S57) → Option ((List (S45)) × (List (S57)) × Int)
  | 0, _, _, _, _, _ => none
  | k + 1, x1, x7, x33, x196000, x196001 => if x33 = true then (some (([] : List (S45)), ([] : List (S57)), 2)) else (lapidaryref13_Renamed.l0 k x1 x7 0 x196000 x196001 ([] : List (S45)))
def lapidaryref13_Renamed.l0 : Nat → List Int → List Int → Int → List (S45) → List (S57) → List (S45) → Option ((List (S45)) × (List (S57)) × Int)
  | 0, _, _, _, _, _, _ => none
  | k + 1, x1, x7, x10, x196000, x196001, x203000 => if x10 < (x7.length : Int) then (if 0 ≤ x10 then (if 0 ≤ (rd x7 x10) then (if (rd x7 x10) < (x196000.length : Int) then (if x203000.length < 5864062014805 then (lapidaryref13_Renamed.l0 k x1 x7 (wrap64 (x10 + 1)) x196000 x196001 (x203000 ++ [(⟨(rd_T45 x196000 (rd x7 x10)).f0, (rd_T45 x196000 (rd x7 x10)).f1, (rd_T45 x196000 (rd x7 x10)).f2⟩ : S45)])) else (none)) else (none)) else (none)) else (none)) else (lapidaryref13_Renamed.l1 k x1 0 x196000 x196001 x203000 ([] : List (S57)))
def lapidaryref13_Renamed.l1 : Nat → List Int → Int → List (S45) → List (S57) → List (S45) → List (S57) → Option ((List (S45)) × (List (S57)) × Int)
  | 0, _, _, _, _, _, _ => none
  | k + 1, x1, x11, x196000, x196001, x203000, x203001 => if x11 < (x196001.length : Int) then (if 0 ≤ x11 then (if 0 ≤ ((rd_T57 x196001 x11).f0) then (if ((rd_T57 x196001 x11).f0) < (x1.length : Int) then (if 0 ≤ ((rd_T57 x196001 x11).f1) then (if ((rd_T57 x196001 x11).f1) < (x1.length : Int) then (if 0 ≤ ((rd_T57 x196001 x11).f2) then (if ((rd_T57 x196001 x11).f2) < (x1.length : Int) then (if x203001.length < 5864062014805 then (lapidaryref13_Renamed.l1 k x1 (wrap64 (x11 + 1)) x196000 x196001 x203000 (x203001 ++ [(⟨rd x1 ((rd_T57 x196001 x11).f0), rd x1 ((rd_T57 x196001 x11).f1), rd x1 ((rd_T57 x196001 x11).f2)⟩ : S57)])) else (none)) else (none)) else (none)) else (none)) else (none)) else (none)) else (none)) else (none)) else (some (x203000, x203001, 0))
end
def lapidaryref13_Renamed.f (k : Nat) (l0_0 : List (S45)) (l0_1 : List (S57)) (l1 : List Int) : Option ((List (S45)) × (List (S57)) × Int) := (lapidaryref10_Check.f k l0_0 l0_1).bind fun t197 => (if t197 = 0 then ((lapidaryref13_Back.f k l1).bind fun bt198 => (if bt198.2 = true then (lapidaryref13_Renamed.j0 k l1 bt198.1 ((l1.length : Int) != (l0_0.length : Int)) l0_0 l0_1) else (lapidaryref13_Renamed.j0 k l1 bt198.1 true l0_0 l0_1))) else (some (([] : List (S45)), ([] : List (S57)), t197)))
theorem lapidaryref13_Renamed.mono_l : ∀ k, (∀ y0 y1 y2 y3 y4, LeO (lapidaryref13_Renamed.j0 k y0 y1 y2 y3 y4) (lapidaryref13_Renamed.j0 (k + 1) y0 y1 y2 y3 y4)) ∧ (∀ y0 y1 y2 y3 y4 y5, LeO (lapidaryref13_Renamed.l0 k y0 y1 y2 y3 y4 y5) (lapidaryref13_Renamed.l0 (k + 1) y0 y1 y2 y3 y4 y5)) ∧ (∀ y0 y1 y2 y3 y4 y5, LeO (lapidaryref13_Renamed.l1 k y0 y1 y2 y3 y4 y5) (lapidaryref13_Renamed.l1 (k + 1) y0 y1 y2 y3 y4 y5))
  | 0 => ⟨fun _ _ _ _ _ r h => by simp [lapidaryref13_Renamed.j0] at h, fun _ _ _ _ _ _ r h => by simp [lapidaryref13_Renamed.l0] at h, fun _ _ _ _ _ _ r h => by simp [lapidaryref13_Renamed.l1] at h⟩
  | k + 1 => by
    obtain ⟨ih0, ih1, ih2⟩ := lapidaryref13_Renamed.mono_l k
    refine ⟨?_, ?_, ?_⟩
    · intro y0 y1 y2 y3 y4
      unfold lapidaryref13_Renamed.j0
      repeat' first
      | (with_reducible exact ih0 _ _ _ _ _)
      | (with_reducible exact ih1 _ _ _ _ _ _)
      | (with_reducible exact ih2 _ _ _ _ _ _)
      | (with_reducible exact lapidaryref10_Check.mono _ _ _)
      | (with_reducible exact lapidaryref13_Back.mono _ _)
      | (with_reducible exact LeO.refl _)
      | (with_reducible exact LeO.none _)
      | (with_reducible refine LeO.ite ?_ ?_)
      | (with_reducible refine LeO.bind ?_ (fun _ => ?_))
      | exact ih0 _ _ _ _ _
      | exact ih1 _ _ _ _ _ _
      | exact ih2 _ _ _ _ _ _
      | exact lapidaryref10_Check.mono _ _ _
      | exact lapidaryref13_Back.mono _ _
      | exact LeO.none _
      | refine LeO.ite ?_ ?_
      | refine LeO.bind ?_ (fun _ => ?_)
    · intro y0 y1 y2 y3 y4 y5
      unfold lapidaryref13_Renamed.l0
      repeat' first
      | (with_reducible exact ih0 _ _ _ _ _)
      | (with_reducible exact ih1 _ _ _ _ _ _)
      | (with_reducible exact ih2 _ _ _ _ _ _)
      | (with_reducible exact lapidaryref10_Check.mono _ _ _)
      | (with_reducible exact lapidaryref13_Back.mono _ _)
      | (with_reducible exact LeO.refl _)
      | (with_reducible exact LeO.none _)
      | (with_reducible refine LeO.ite ?_ ?_)
      | (with_reducible refine LeO.bind ?_ (fun _ => ?_))
      | exact ih0 _ _ _ _ _
      | exact ih1 _ _ _ _ _ _
      | exact ih2 _ _ _ _ _ _
      | exact lapidaryref10_Check.mono _ _ _
      | exact lapidaryref13_Back.mono _ _
      | exact LeO.none _
      | refine LeO.ite ?_ ?_
      | refine LeO.bind ?_ (fun _ => ?_)
    · intro y0 y1 y2 y3 y4 y5
      unfold lapidaryref13_Renamed.l1
      repeat' first
      | (with_reducible exact ih0 _ _ _ _ _)
      | (with_reducible exact ih1 _ _ _ _ _ _)
      | (with_reducible exact ih2 _ _ _ _ _ _)
      | (with_reducible exact lapidaryref10_Check.mono _ _ _)
      | (with_reducible exact lapidaryref13_Back.mono _ _)
      | (with_reducible exact LeO.refl _)
      | (with_reducible exact LeO.none _)
      | (with_reducible refine LeO.ite ?_ ?_)
      | (with_reducible refine LeO.bind ?_ (fun _ => ?_))
      | exact ih0 _ _ _ _ _
      | exact ih1 _ _ _ _ _ _
      | exact ih2 _ _ _ _ _ _
      | exact lapidaryref10_Check.mono _ _ _
      | exact lapidaryref13_Back.mono _ _
      | exact LeO.none _
      | refine LeO.ite ?_ ?_
      | refine LeO.bind ?_ (fun _ => ?_)
theorem lapidaryref13_Renamed.mono : ∀ a0 a1 a2 k, LeO (lapidaryref13_Renamed.f k a0 a1 a2) (lapidaryref13_Renamed.f (k + 1) a0 a1 a2) := by
  intro a0 a1 a2 k
  obtain ⟨ih0, ih1, ih2⟩ := lapidaryref13_Renamed.mono_l k
  unfold lapidaryref13_Renamed.f
  repeat' first
      | (with_reducible exact ih0 _ _ _ _ _)
      | (with_reducible exact ih1 _ _ _ _ _ _)
      | (with_reducible exact ih2 _ _ _ _ _ _)
      | (with_reducible exact lapidaryref10_Check.mono _ _ _)
      | (with_reducible exact lapidaryref13_Back.mono _ _)
      | (with_reducible exact LeO.refl _)
      | (with_reducible exact LeO.none _)
      | (with_reducible refine LeO.ite ?_ ?_)
      | (with_reducible refine LeO.bind ?_ (fun _ => ?_))
      | exact ih0 _ _ _ _ _
      | exact ih1 _ _ _ _ _ _
      | exact ih2 _ _ _ _ _ _
      | exact lapidaryref10_Check.mono _ _ _
      | exact lapidaryref13_Back.mono _ _
      | exact LeO.none _
      | refine LeO.ite ?_ ?_
      | refine LeO.bind ?_ (fun _ => ?_)
def lapidaryref13_Renamed.T11 : Bool × List (List Nat × List Nat) := (true, [([], []), ([0], [0]), ([], []), ([2], [2]), ([], []), ([], []), ([4, 5], [4, 5]), ([6], [6]), ([3, 7], [3, 7]), ([8], [8]), ([9], [9]), ([1, 10], [1, 10]), ([0, 1, 2, 3, 4, 5, 6, 7, 8, 9, 10, 11], []), ([12, 11, 11, 0, 1, 2, 3, 4, 5, 6, 7, 8, 9, 10, 11], [11, 12])])
def lapidaryref13_Renamed.B11 : List Nat := [0, 1, 0, 4, 0, 0, 48, 112, 252, 508, 1020, 2047, 4095, 8191]
theorem lapidaryref13_Renamed.tab11 : rtab .any (opsOf Tryd.f14 11) = lapidaryref13_Renamed.T11 := by kernel_rfl
theorem lapidaryref13_Renamed.bits11 : waitsOk lapidaryref13_Renamed.T11.2 lapidaryref13_Renamed.B11 = true := by kernel_rfl
def lapidaryref13_Renamed.T16 : Bool × List (List Nat × List Nat) := (true, [([], []), ([0], [0]), ([], []), ([], []), ([3], [3]), ([2, 4], [2, 4]), ([5], [5]), ([], []), ([], []), ([8], [8]), ([7, 9], [7, 9]), ([10], [10]), ([], []), ([], []), ([13], [13]), ([12, 14], [12, 14]), ([15], [15]), ([6, 11, 16], [6, 11, 16]), ([17], [17]), ([1, 18], [1, 18]), ([0, 1, 2, 3, 4, 5, 6, 7, 8, 9, 10, 11, 12, 13, 14, 15, 16, 17, 18, 19], []), ([20, 19, 19, 0, 1, 2, 3, 4, 5, 6, 7, 8, 9, 10, 11, 12, 13, 14, 15, 16, 17, 18, 19], [19, 20])])
def lapidaryref13_Renamed.B16 : List Nat := [0, 1, 0, 0, 8, 28, 60, 0, 0, 256, 896, 1920, 0, 0, 8192, 28672, 61440, 131068, 262140, 524287, 1048575, 2097151]
theorem lapidaryref13_Renamed.tab16 : rtab .any (opsOf Tryd.f14 16) = lapidaryref13_Renamed.T16 := by kernel_rfl
theorem lapidaryref13_Renamed.bits16 : waitsOk lapidaryref13_Renamed.T16.2 lapidaryref13_Renamed.B16 = true := by kernel_rfl
set_option maxHeartbeats 8000000 in
set_option maxRecDepth 100000 in
theorem lapidaryref13_Renamed.calls (k : Nat) (A0_0 : Option Addr) (c0_0 : Nat) (l0_0 : List (S45)) (A0_1 : Option Addr) (c0_1 : Nat) (l0_1 : List (S57)) (A1 : Option Addr) (c1 : Nat) (l1 : List Int) (r1 : List (S45)) (r2 : List (S57)) (r3 : Int) (w : World) (hr0_0 : Kd.C k45 w A0_0 l0_0.length l0_0) (hc0_0 : l0_0.length ≤ c0_0) (hr0_1 : Kd.C k57 w A0_1 l0_1.length l0_1) (hc0_1 : l0_1.length ≤ c0_1) (hr1 : Kd.C (Kd.int .i64) w A1 l1.length l1) (hc1 : l1.length ≤ c1) (h : lapidaryref13_Renamed.f k l0_0 l0_1 l1 = some (r1, r2, r3)) :
  Calls Tryd.prog 14 #[.agg #[.slice A0_0 l0_0.length c0_0,.slice A0_1 l0_1.length c0_1],.slice A1 l1.length c1] w fun e w' => ∃ v0_ v1_ : Value,e = .returned (.tuple #[.agg #[v0_,v1_],.int .i64 r3]) ∧ Kd.R k45 45 w' w.heap.size (fun _ => True) v0_ r1 ∧ Kd.R k57 57 w' w.heap.size (fun _ => True) v1_ r2 ∧ Below w.heap.size w w':=by
 have hu25:=Tryd.underlying25
 have hu45:=Tryd.underlying45
 have hu57:=Tryd.underlying57
 have HR0_0:=aMx10 hr0_0
 have HC0_0:=aMx10 hc0_0
 clear hr0_0 hc0_0
 have HR0_1:=aMx10 hr0_1
 have HC0_1:=aMx10 hc0_1
 clear hr0_1 hc0_1
 have HR1:=aMx10 hr1
 have HC1:=aMx10 hc1
 clear hr1 hc1
 have HB:=aMx10 (Below.refl w.heap.size w)
 have H : ((lapidaryref10_Check.f k l0_0 l0_1).bind fun t197 => (if t197 = 0 then ((lapidaryref13_Back.f k l1).bind fun bt198 => (if bt198.2 = true then (lapidaryref13_Renamed.j0 k l1 bt198.1 ((l1.length : Int) != (l0_0.length : Int)) l0_0 l0_1) else (lapidaryref13_Renamed.j0 k l1 bt198.1 true l0_0 l0_1))) else (some (([] : List (S45)),([] : List (S57)),t197)))) = some (r1,r2,r3):=h
 clear h
 replace H:=Option.bind_eq_some_iff.mp H
 obtain ⟨t197,A30,H⟩:=H
 replace H : (if t197 = 0 then ((lapidaryref13_Back.f k l1).bind fun bt198 => (if bt198.2 = true then (lapidaryref13_Renamed.j0 k l1 bt198.1 ((l1.length : Int) != (l0_0.length : Int)) l0_0 l0_1) else (lapidaryref13_Renamed.j0 k l1 bt198.1 true l0_0 l0_1))) else (some (([] : List (S45)),([] : List (S57)),t197))) = some (r1,r2,r3):=H
 have A3:=aMx10 A30
 clear A30
 by_cases c4 : t197 = 0
 ·rw [if_pos c4] at H
  have c4b0 : (t197 == 0) = true:=beq_iff_eq.mpr c4
  have c4b1 : (t197 != 0) = false:=bne_eq_false_iff_eq.mpr c4
  clear c4
  replace H:=Option.bind_eq_some_iff.mp H
  obtain ⟨⟨t198,t199⟩,A50,H⟩:=H
  replace H : (if t199 = true then (lapidaryref13_Renamed.j0 k l1 t198 ((l1.length : Int) != (l0_0.length : Int)) l0_0 l0_1) else (lapidaryref13_Renamed.j0 k l1 t198 true l0_0 l0_1)) = some (r1,r2,r3):=H
  have A5:=aMx10 A50
  clear A50
  have HC6:=aMx10 H
  clear H
  go_enter Tryd.func14,Tryd.ntmps14
  go_upto_region 5 with (first | ((with_reducible refine gate_dst (N:=2) rfl ?_);(try (refine gate_guard (by rfl) ?_;dsimp only));refine box_event ?hg (N:=2) ?hd (cs:=#[.slice A0_0 l0_0.length c0_0,.slice A0_1 l0_1.length c0_1]) (t:=25) ?hr ?_;(case hd => rfl);(case hg => rfl);(case hr => first | (go_simp;done) | (go_simp;rfl));intro gb195 hg w7 hbox hb;have n0_:=aMx10 (below_step (by repeat (first | (with_reducible first | exact HB.out | apply below_alloc | apply pw_below_drewN | apply below_drew1) | exact HB.out)) hb);have n1_:=aMx10 (hbox);have n2_:=aMx10 ((by rw [hg];exact (below_size (by repeat (first | (with_reducible first | exact HB.out | apply below_alloc | apply pw_below_drewN | apply below_drew1) | exact HB.out))) : w.heap.size ≤ gb195));have n3_:=aMx10 ((by rw [hg];exact (below_size (by repeat (first | (with_reducible first | exact HB.out | apply below_alloc | apply pw_below_drewN | apply below_drew1) | exact HB.out))) : w.heap.size ≤ gb195));clear HB;have HB:=n0_;have BK195:=n1_;have GW195:=n2_;have GE195:=n3_;clear n0_ n1_ n2_ n3_;clear hb hbox hg) | ((with_reducible refine gate_dst (N:=4) rfl ?_);(try (refine gate_guard (by rfl) ?_;dsimp only));refine box_event ?hg (N:=4) ?hd (cs:=#[.slice none 0 0,.slice none 0 0]) (t:=25) ?hr ?_;(case hd => rfl);(case hg => rfl);(case hr => first | (go_simp;done) | (go_simp;rfl));intro gb196 hg w8 hbox hb;have n0_:=aMx10 (blk_below (g:=gb195) (o:=.cells #[.slice A0_0 l0_0.length c0_0,.slice A0_1 l0_1.length c0_1] 25 (0,0)) (by (with_reducible repeat (first | refine blk_drewN ?_ _ | refine blk_drew ?_ | refine blk_alloc ?_ _));exact BK195.out) hb);have n1_:=aMx10 (below_step (by repeat (first | (with_reducible first | exact HB.out | apply below_alloc | apply pw_below_drewN | apply below_drew1 | refine below_set ?_ GE195.out) | exact HB.out)) hb);have n2_:=aMx10 (hbox);have n3_:=aMx10 ((by rw [hg];exact (below_size (by repeat (first | (with_reducible first | exact HB.out | apply below_alloc | apply pw_below_drewN | apply below_drew1 | refine below_set ?_ GE195.out) | exact HB.out))) : w.heap.size ≤ gb196));have n4_:=aMx10 ((by rw [hg];exact (below_size (by repeat (first | (with_reducible first | exact HB.out | apply below_alloc | apply pw_below_drewN | apply below_drew1 | refine below_set ?_ GE195.out) | exact HB.out))) : w.heap.size ≤ gb196));have n5_:=aMx10 ((by rw [hg];exact Nat.ne_of_lt (blk_lt (g:=gb195) (o:=.cells #[.slice A0_0 l0_0.length c0_0,.slice A0_1 l0_1.length c0_1] 25 (0,0)) (by (with_reducible repeat (first | refine blk_drewN ?_ _ | refine blk_drew ?_ | refine blk_alloc ?_ _));exact BK195.out)) : gb195 ≠ gb196));have n6_:=aMx10 ((by rw [hg];exact Nat.ne_of_gt (blk_lt (g:=gb195) (o:=.cells #[.slice A0_0 l0_0.length c0_0,.slice A0_1 l0_1.length c0_1] 25 (0,0)) (by (with_reducible repeat (first | refine blk_drewN ?_ _ | refine blk_drew ?_ | refine blk_alloc ?_ _));exact BK195.out)) : gb196 ≠ gb195));clear BK195;clear HB;have BK195:=n0_;have HB:=n1_;have BK196:=n2_;have GW196:=n3_;have GE196:=n4_;have NB195_196:=n5_;have NB196_195:=n6_;clear n0_ n1_ n2_ n3_ n4_ n5_ n6_;clear hb hbox hg;have hnb9:=NB195_196.out;have hnc9:=NB196_195.out;have hcz10_0 : w8.cell? ⟨gb195,0,none⟩ = some (.slice A0_0 l0_0.length c0_0):=(blk_cell BK195.out 0).trans rfl;have hcz10_1 : w8.cell? ⟨gb195,1,none⟩ = some (.slice A0_1 l0_1.length c0_1):=(blk_cell BK195.out 1).trans rfl;have hfz10_0:=blk_frozen BK195.out 0;have hfz10_1:=blk_frozen BK195.out 1) | ((with_reducible refine gate_callee (f:=21) rfl ?_);refine goesL_ (some 14) rfl rfl Tryd.func21 (by kernel_rfl) rfl #[.agg #[.slice A0_0 l0_0.length c0_0,.slice A0_1 l0_1.length c0_1]] rfl (by (try simp only [List.map_toArray,List.map_cons,List.map_nil]);first | done | rfl | (simp only [List.length_drop,List.length_take];rfl)) ?_;(with_reducible refine (lapidaryref10_Check.calls k _ _ l0_0 _ _ l0_1 t197 _ ?side1 ?side2 ?side3 ?side4 A3.out).mono ?_);(case side1 => repeat (first | exact (Kd.C_below HR0_0.out HB.out) | (with_reducible refine Kd.C_alloc ?_ _) | (with_reducible refine Kd.C_drewN ?_ _) | (with_reducible refine Kd.C_drew ?_)));(case side2 => exact HC0_0.out);(case side3 => repeat (first | exact (Kd.C_below HR0_1.out HB.out) | (with_reducible refine Kd.C_alloc ?_ _) | (with_reducible refine Kd.C_drewN ?_ _) | (with_reducible refine Kd.C_drew ?_)));(case side4 => exact HC0_1.out);rintro e w11 ⟨rfl,hb⟩;refine ⟨_,rfl,?_⟩;have n0_:=aMx10 (blk_below (g:=gb195) (o:=.cells #[.slice A0_0 l0_0.length c0_0,.slice A0_1 l0_1.length c0_1] 25 (0,0)) (by (with_reducible repeat (first | refine blk_drewN ?_ _ | refine blk_drew ?_ | refine blk_alloc ?_ _));exact BK195.out) hb);have n1_:=aMx10 (blk_below (g:=gb196) (o:=.cells #[.slice none 0 0,.slice none 0 0] 25 (0,0)) (by (with_reducible repeat (first | refine blk_drewN ?_ _ | refine blk_drew ?_ | refine blk_alloc ?_ _));exact BK196.out) hb);have n2_:=aMx10 (below_step (by repeat (first | (with_reducible first | exact HB.out | apply below_alloc | apply pw_below_drewN | apply below_drew1 | refine below_set ?_ GE195.out | refine below_set ?_ GE196.out) | exact HB.out)) hb);clear BK195;clear BK196;clear HB;have BK195:=n0_;have BK196:=n1_;have HB:=n2_;clear n0_ n1_ n2_;(try clear hb);(try clear hb2);(try clear hk);(try clear hi)) | ((with_reducible refine gate_callee (f:=19) rfl ?_);refine goesL_ (some 21) rfl rfl Tryd.func19 (by kernel_rfl) rfl #[.slice A1 l1.length c1] rfl (by (try simp only [List.map_toArray,List.map_cons,List.map_nil]);first | done | rfl | (simp only [List.length_drop,List.length_take];rfl)) ?_;(with_reducible refine (lapidaryref13_Back.calls k _ _ l1 t198 t199 _ ?side1 ?side2 A5.out).mono ?_);(case side1 => repeat (first | exact (Kd.C_below HR1.out HB.out) | (with_reducible refine Kd.C_alloc ?_ _) | (with_reducible refine Kd.C_drewN ?_ _) | (with_reducible refine Kd.C_drew ?_)));(case side2 => exact HC1.out);rintro e w12 ⟨v200,rfl,ho0,hb⟩;refine ⟨_,rfl,?_⟩;have n0_:=aMx10 (Kd.R_lower ho0 (below_size (by repeat (first | (with_reducible first | exact HB.out | apply below_alloc | apply pw_below_drewN | apply below_drew1 | refine below_set ?_ GE195.out | refine below_set ?_ GE196.out) | exact HB.out))));have n1_:=aMx10 (blk_below (g:=gb195) (o:=.cells #[.slice A0_0 l0_0.length c0_0,.slice A0_1 l0_1.length c0_1] 25 (0,0)) (by (with_reducible repeat (first | refine blk_drewN ?_ _ | refine blk_drew ?_ | refine blk_alloc ?_ _));exact BK195.out) hb);have n2_:=aMx10 (blk_below (g:=gb196) (o:=.cells #[.slice none 0 0,.slice none 0 0] 25 (0,0)) (by (with_reducible repeat (first | refine blk_drewN ?_ _ | refine blk_drew ?_ | refine blk_alloc ?_ _));exact BK196.out) hb);have n3_:=aMx10 (below_step (by repeat (first | (with_reducible first | exact HB.out | apply below_alloc | apply pw_below_drewN | apply below_drew1 | refine below_set ?_ GE195.out | refine below_set ?_ GE196.out) | exact HB.out)) hb);clear BK195;clear BK196;clear HB;have HO201:=n0_;have BK195:=n1_;have BK196:=n2_;have HB:=n3_;clear n0_ n1_ n2_ n3_;(try clear hb);(try clear hb2);(try clear hk);(try clear hi);(try clear ho0)))
  (try simp only [Act.put,sAx10,sBx10,sCx10])
  go_cut [33] (fun v33 wc => ∃ (kq : Nat) (x33_5 : Bool),v33 = .bool x33_5 ∧ Aside0 (lapidaryref13_Renamed.j0 kq l1 t198 x33_5 l0_0 l0_1 = some (r1,r2,r3)) ∧ Aside0 (kq ≤ k) ∧ Aside0 (Kd.R (Kd.int .i64) 3 wc w.heap.size (fun _ => True) v200 t198) ∧ Aside0 (wc.heap[gb195]? = some (.cells #[(.slice A0_0 l0_0.length c0_0),(.slice A0_1 l0_1.length c0_1)] 25 (0,0))) ∧ Aside0 (wc.heap[gb196]? = some (.cells #[(.slice none 0 0),(.slice none 0 0)] 25 (0,0))) ∧ Aside0 (Below w.heap.size w wc))
  case first =>
   have H:=HC6.out
   clear HC6
   by_cases c13 : t199 = true
   ·subst c13
    have H1 : (lapidaryref13_Renamed.j0 k l1 t198 ((l1.length : Int) != (l0_0.length : Int)) l0_0 l0_1) = some (r1,r2,r3):=by rw [if_pos rfl] at H;exact H
    clear H
    have H:=H1
    clear H1
    have H':=aMx10 H
    clear H
    have hnb14:=NB195_196.out
    have hnc14:=NB196_195.out
    have hcz15_0 : w12.cell? ⟨gb195,0,none⟩ = some (.slice A0_0 l0_0.length c0_0):=(blk_cell BK195.out 0).trans rfl
    have hcz15_1 : w12.cell? ⟨gb195,1,none⟩ = some (.slice A0_1 l0_1.length c0_1):=(blk_cell BK195.out 1).trans rfl
    have hfz15_0:=blk_frozen BK195.out 0
    have hfz15_1:=blk_frozen BK195.out 1
    go_wp2
    go_meet
    case rel => exact ⟨_,(((l1.length : Int) != (l0_0.length : Int))),(by first | rfl | (simp;done) | (simp [*];done) | (simp [wrap64];done)),H',⟨by first | omega | exact Nat.le_refl _⟩,⟨by (with_reducible repeat (first | apply Kd.R_alloc | apply Kd.R_drewN | apply Kd.R_drew));exact HO201.out⟩,⟨by (with_reducible repeat (first | refine blk_drewN ?_ _ | refine blk_drew ?_ | refine blk_alloc ?_ _));exact BK195.out⟩,⟨by (with_reducible repeat (first | refine blk_drewN ?_ _ | refine blk_drew ?_ | refine blk_alloc ?_ _));exact BK196.out⟩,⟨by repeat (first | (with_reducible first | exact HB.out | apply below_alloc | apply pw_below_drewN | apply below_drew1 | refine below_set ?_ GE195.out | refine below_set ?_ GE196.out) | exact HB.out)⟩⟩
   ·replace c13:=Bool.eq_false_iff.mpr c13
    subst c13
    have H1 : (lapidaryref13_Renamed.j0 k l1 t198 true l0_0 l0_1) = some (r1,r2,r3):=by rw [if_neg (show ¬ (false = true) by decide)] at H;exact H
    clear H
    have H:=H1
    clear H1
    have H':=aMx10 H
    clear H
    go_wp2
    go_meet
    case rel => exact ⟨_,(true),(by first | rfl | (simp;done) | (simp [*];done) | (simp [wrap64];done)),H',⟨by first | omega | exact Nat.le_refl _⟩,⟨by (with_reducible repeat (first | apply Kd.R_alloc | apply Kd.R_drewN | apply Kd.R_drew));exact HO201.out⟩,⟨by (with_reducible repeat (first | refine blk_drewN ?_ _ | refine blk_drew ?_ | refine blk_alloc ?_ _));exact BK195.out⟩,⟨by (with_reducible repeat (first | refine blk_drewN ?_ _ | refine blk_drew ?_ | refine blk_alloc ?_ _));exact BK196.out⟩,⟨by repeat (first | (with_reducible first | exact HB.out | apply below_alloc | apply pw_below_drewN | apply below_drew1 | refine below_set ?_ GE195.out | refine below_set ?_ GE196.out) | exact HB.out)⟩⟩
  case rest =>
   clear HC6
   (try clear c1);(try clear c2);(try clear p2);(try clear c4);(try clear c4b0);(try clear c4b1);(try clear c9);(try clear c13);(try clear c14);(try clear hcz10_0);(try clear hcz10_1);(try clear hcz15_0);(try clear hcz15_1);(try clear hfz10_0);(try clear hfz10_1);(try clear hfz15_0);(try clear hfz15_1)
   obtain ⟨kq,x33_5,rfl,HA,HJ5,HO_7,BK195,BK196,HB⟩:=hcut
   cases kq with
   | zero => exact absurd HA.out (by simp [lapidaryref13_Renamed.j0])
   | succ kj5 =>
    have H:=HA.out
    clear HA
    simp only [lapidaryref13_Renamed.j0] at H
    by_cases c16 : x33_5 = true
    ·subst c16
     have H1 : (some (([] : List (S45)),([] : List (S57)),2)) = some (r1,r2,r3):=by rw [if_pos rfl] at H;exact H
     clear H
     have H:=H1
     clear H1
     simp only [Option.some.injEq,Prod.mk.injEq] at H
     obtain ⟨rfl,rfl,rfl⟩:=H
     have hnb17:=NB196_195.out
     have hnc17:=NB195_196.out
     have hcz18_0 : wc.cell? ⟨gb196,0,none⟩ = some (.slice none 0 0):=(blk_cell BK196.out 0).trans rfl
     have hcz18_1 : wc.cell? ⟨gb196,1,none⟩ = some (.slice none 0 0):=(blk_cell BK196.out 1).trans rfl
     have hfz18_0:=blk_frozen BK196.out 0
     have hfz18_1:=blk_frozen BK196.out 1
     go_wp2
     refine bodyPost_ret (results_ct rfl _ _ gb196 25 #[.slice none 0 0,.slice none 0 0] (0,0) _ rfl (by (with_reducible repeat (first | refine blk_drewN ?_ _ | refine blk_drew ?_ | refine blk_alloc ?_ _));refine blk_put (cs:=#[.slice none 0 0,.slice none 0 0]) ?_ 1 _ rfl;(with_reducible repeat (first | refine blk_drewN ?_ _ | refine blk_drew ?_ | refine blk_alloc ?_ _));refine blk_put (cs:=#[.slice none 0 0,.slice none 0 0]) ?_ 0 _ rfl;(with_reducible repeat (first | refine blk_drewN ?_ _ | refine blk_drew ?_ | refine blk_alloc ?_ _));exact BK196.out) Tryd.underlying25 rfl (by kernel_rfl)) rfl ?_
     exact ⟨_,_,by first | rfl | (simp [errW_none,errW_some]<;>rfl) | (simp [*,errW_none,errW_some]<;>rfl),by first | exact Kd.R_nil _ _ _ _ _ | exact Kd.N_nil _ _ _ _ _ | exact Kd.V_nil _ _ _ _ _ | exact Kd.Q_nil _ _ _ _ _ | exact Kd.S_nil _ _ _ _ _,by first | exact Kd.R_nil _ _ _ _ _ | exact Kd.N_nil _ _ _ _ _ | exact Kd.V_nil _ _ _ _ _ | exact Kd.Q_nil _ _ _ _ _ | exact Kd.S_nil _ _ _ _ _,by repeat (first | (with_reducible first | exact HB.out | apply below_alloc | apply pw_below_drewN | apply below_drew1 | refine below_set ?_ GE195.out | refine below_set ?_ GE196.out) | exact HB.out)⟩
    ·replace c16:=Bool.eq_false_iff.mpr c16
     subst c16
     have H1 : (lapidaryref13_Renamed.l0 kj5 l1 t198 0 l0_0 l0_1 ([] : List (S45))) = some (r1,r2,r3):=by rw [if_neg (show ¬ (false = true) by decide)] at H;exact H
     clear H
     have H:=H1
     clear H1
     have H':=aMx10 H
     clear H
     go_wp2_with (first|((with_reducible refine gate_dst (N:=9) rfl ?_);(try (refine gate_guard (by rfl) ?_;dsimp only));refine box_event ?hg (N:=9) ?hd (cs:=#[.slice none 0 0,.slice none 0 0]) (t:=25) ?hr ?_;(case hd => rfl);(case hg => rfl);(case hr => first|(go_simp;done)|(go_simp;rfl));intro gb202 hg w19 hbox hb;have n0_:=aMx10 (Kd.R_below (by (with_reducible repeat (first|apply Kd.R_alloc|apply Kd.R_drewN|apply Kd.R_drew));exact HO_7.out) hb);have n1_:=aMx10 (blk_below (g:=gb195) (o:=.cells #[.slice A0_0 l0_0.length c0_0,.slice A0_1 l0_1.length c0_1] 25 (0,0)) (by (with_reducible repeat (first|refine blk_drewN ?_ _|refine blk_drew ?_|refine blk_alloc ?_ _));exact BK195.out) hb);have n2_:=aMx10 (blk_below (g:=gb196) (o:=.cells #[.slice none 0 0,.slice none 0 0] 25 (0,0)) (by (with_reducible repeat (first|refine blk_drewN ?_ _|refine blk_drew ?_|refine blk_alloc ?_ _));exact BK196.out) hb);have n3_:=aMx10 (below_step (by repeat (first|(with_reducible first|exact HB.out|apply below_alloc|apply pw_below_drewN|apply below_drew1|refine below_set ?_ GE195.out|refine below_set ?_ GE196.out)|exact HB.out)) hb);have n4_:=aMx10 (hbox);have n5_:=aMx10 ((by rw [hg];exact (below_size (by repeat (first|(with_reducible first|exact HB.out|apply below_alloc|apply pw_below_drewN|apply below_drew1|refine below_set ?_ GE195.out|refine below_set ?_ GE196.out)|exact HB.out))) : w.heap.size ≤ gb202));have n6_:=aMx10 ((by rw [hg];exact (below_size (by repeat (first|(with_reducible first|exact HB.out|apply below_alloc|apply pw_below_drewN|apply below_drew1|refine below_set ?_ GE195.out|refine below_set ?_ GE196.out)|exact HB.out))) : w.heap.size ≤ gb202));have n7_:=aMx10 ((by rw [hg];exact Nat.ne_of_lt (blk_lt (g:=gb195) (o:=.cells #[.slice A0_0 l0_0.length c0_0,.slice A0_1 l0_1.length c0_1] 25 (0,0)) (by (with_reducible repeat (first|refine blk_drewN ?_ _|refine blk_drew ?_|refine blk_alloc ?_ _));exact BK195.out)) : gb195 ≠ gb202));have n8_:=aMx10 ((by rw [hg];exact Nat.ne_of_gt (blk_lt (g:=gb195) (o:=.cells #[.slice A0_0 l0_0.length c0_0,.slice A0_1 l0_1.length c0_1] 25 (0,0)) (by (with_reducible repeat (first|refine blk_drewN ?_ _|refine blk_drew ?_|refine blk_alloc ?_ _));exact BK195.out)) : gb202 ≠ gb195));have n9_:=aMx10 ((by rw [hg];exact Nat.ne_of_lt (blk_lt (g:=gb196) (o:=.cells #[.slice none 0 0,.slice none 0 0] 25 (0,0)) (by (with_reducible repeat (first|refine blk_drewN ?_ _|refine blk_drew ?_|refine blk_alloc ?_ _));exact BK196.out)) : gb196 ≠ gb202));have n10_:=aMx10 ((by rw [hg];exact Nat.ne_of_gt (blk_lt (g:=gb196) (o:=.cells #[.slice none 0 0,.slice none 0 0] 25 (0,0)) (by (with_reducible repeat (first|refine blk_drewN ?_ _|refine blk_drew ?_|refine blk_alloc ?_ _));exact BK196.out)) : gb202 ≠ gb196));clear HO_7;clear BK195;clear BK196;clear HB;have HO_7:=n0_;have BK195:=n1_;have BK196:=n2_;have HB:=n3_;have BK202:=n4_;have GW202:=n5_;have GE202:=n6_;have NB195_202:=n7_;have NB202_195:=n8_;have NB196_202:=n9_;have NB202_196:=n10_;clear n0_ n1_ n2_ n3_ n4_ n5_ n6_ n7_ n8_ n9_ n10_;clear hb hbox hg;have hnb20:=NB202_195.out;have hnc20:=NB195_202.out;have hnb21:=NB202_196.out;have hnc21:=NB196_202.out;have hcz22_0 : w19.cell? ⟨gb202,0,none⟩ = some (.slice none 0 0):=(blk_cell BK202.out 0).trans rfl;have hcz22_1 : w19.cell? ⟨gb202,1,none⟩ = some (.slice none 0 0):=(blk_cell BK202.out 1).trans rfl;have hfz22_0:=blk_frozen BK202.out 0;have hfz22_1:=blk_frozen BK202.out 1))
     go_loopg [10] kj5 (fun kq v10 w' => ∃ (x10_2 : Int) (x203000_2 : List (S45)) (u203000 : Value),v10 = .int .i64 x10_2 ∧ Aside0 (lapidaryref13_Renamed.l0 kq l1 t198 x10_2 l0_0 l0_1 x203000_2 = some (r1,r2,r3)) ∧ Aside0 (kq ≤ kj5) ∧ Aside0 (Kd.R (Kd.int .i64) 3 w' w.heap.size (fun _ => True) v200 t198) ∧ Aside0 (Kd.R k45 45 w' w.heap.size (fun _ => True) u203000 x203000_2) ∧ Aside0 (w'.heap[gb195]? = some (.cells #[(.slice A0_0 l0_0.length c0_0),(.slice A0_1 l0_1.length c0_1)] 25 (0,0))) ∧ Aside0 (w'.heap[gb196]? = some (.cells #[(.slice none 0 0),(.slice none 0 0)] 25 (0,0))) ∧ Aside0 (w'.heap[gb202]? = some (.cells #[u203000,(.slice none 0 0)] 25 (0,0))) ∧ Aside0 (Below w.heap.size w w'))
     case atStart => exact ⟨(0),(([] : List (S45))),(.slice none 0 0),(by first | rfl | (simp;done) | (simp [*];done) | (simp [wrap64];done)),H',⟨Nat.le_refl _⟩,⟨by (with_reducible repeat (first | apply Kd.R_alloc | apply Kd.R_drewN | apply Kd.R_drew));exact Kd.R_mono (Kd.R_far (p:=⟨gb202,1,none⟩) (Kd.R_far (p:=⟨gb202,0,none⟩) (Kd.R_types HO_7.out BK202.out (by decide)) (fun _ hk => hk.2) (.slice none 0 0)) (fun _ hk => hk.2) (.slice none 0 0)) (fun _ hk => trivial)⟩,⟨by first | exact Kd.R_nil _ _ _ _ _ | exact Kd.N_nil _ _ _ _ _ | exact Kd.V_nil _ _ _ _ _ | exact Kd.Q_nil _ _ _ _ _ | exact Kd.S_nil _ _ _ _ _⟩,⟨by (with_reducible repeat (first | refine blk_drewN ?_ _ | refine blk_drew ?_ | refine blk_alloc ?_ _));refine blk_far ?_ NB195_202.out _;(with_reducible repeat (first | refine blk_drewN ?_ _ | refine blk_drew ?_ | refine blk_alloc ?_ _));refine blk_far ?_ NB195_202.out _;(with_reducible repeat (first | refine blk_drewN ?_ _ | refine blk_drew ?_ | refine blk_alloc ?_ _));exact BK195.out⟩,⟨by (with_reducible repeat (first | refine blk_drewN ?_ _ | refine blk_drew ?_ | refine blk_alloc ?_ _));refine blk_far ?_ NB196_202.out _;(with_reducible repeat (first | refine blk_drewN ?_ _ | refine blk_drew ?_ | refine blk_alloc ?_ _));refine blk_far ?_ NB196_202.out _;(with_reducible repeat (first | refine blk_drewN ?_ _ | refine blk_drew ?_ | refine blk_alloc ?_ _));exact BK196.out⟩,⟨by (with_reducible repeat (first | refine blk_drewN ?_ _ | refine blk_drew ?_ | refine blk_alloc ?_ _));refine blk_put (cs:=#[.slice none 0 0,.slice none 0 0]) ?_ 1 _ rfl;(with_reducible repeat (first | refine blk_drewN ?_ _ | refine blk_drew ?_ | refine blk_alloc ?_ _));refine blk_put (cs:=#[.slice none 0 0,.slice none 0 0]) ?_ 0 _ rfl;(with_reducible repeat (first | refine blk_drewN ?_ _ | refine blk_drew ?_ | refine blk_alloc ?_ _));exact BK202.out⟩,⟨by repeat (first | (with_reducible first | exact HB.out | apply below_alloc | apply pw_below_drewN | apply below_drew1 | refine below_set ?_ GE195.out | refine below_set ?_ GE196.out | refine below_set ?_ GE202.out) | exact HB.out)⟩⟩
     case round =>
      clear H'
      (try clear c1);(try clear c2);(try clear p2);(try clear c4);(try clear c4b0);(try clear c4b1);(try clear c9);(try clear c13);(try clear c14);(try clear c16);(try clear c17);(try clear c19);(try clear c20);(try clear c21);(try clear hcz10_0);(try clear hcz10_1);(try clear hcz15_0);(try clear hcz15_1);(try clear hcz18_0);(try clear hcz18_1);(try clear hcz22_0);(try clear hcz22_1);(try clear hfz10_0);(try clear hfz10_1);(try clear hfz15_0);(try clear hfz15_1);(try clear hfz18_0);(try clear hfz18_1);(try clear hfz22_0);(try clear hfz22_1);(try clear p2)
      obtain ⟨x10_2,x203000_2,u203000,rfl,HA,HK2,HO_7,HO_203000,BK195,BK196,BK202,HB⟩:=hrel
      cases gk with
      | zero => exact absurd HA.out (by simp [lapidaryref13_Renamed.l0])
      | succ k2 =>
       have H:=HA.out
       clear HA
       simp only [lapidaryref13_Renamed.l0] at H
       by_cases c23 : x10_2 < (t198.length : Int)
       ·rw [if_pos c23] at H
        have c23b0 : decide (x10_2 < (t198.length : Int)) = true:=decide_eq_true c23
        clear c23
        by_cases c24 : 0 ≤ x10_2
        ·rw [if_pos c24] at H
         have c24b0 : decide (0 ≤ x10_2) = true:=decide_eq_true c24
         clear c24
         by_cases c25 : 0 ≤ (rd t198 x10_2)
         ·rw [if_pos c25] at H
          have c25b0 : decide (0 ≤ (rd t198 x10_2)) = true:=decide_eq_true c25
          clear c25
          by_cases c26 : (rd t198 x10_2) < (l0_0.length : Int)
          ·rw [if_pos c26] at H
           have c26b0 : decide ((rd t198 x10_2) < (l0_0.length : Int)) = true:=decide_eq_true c26
           clear c26
           by_cases c27 : x203000_2.length < 5864062014805
           ·rw [if_pos c27] at H
            have LMc27:=aMx10 c27
            clear c27
            obtain ⟨y205,hy205⟩ : ∃ y_ : List (S45),y_ = (x203000_2++[(⟨(rd_T45 l0_0 (rd t198 x10_2)).f0,(rd_T45 l0_0 (rd t198 x10_2)).f1,(rd_T45 l0_0 (rd t198 x10_2)).f2⟩ : S45)]):=⟨_,rfl⟩
            replace H : (lapidaryref13_Renamed.l0 k2 l1 t198 (wrap64 (x10_2+1)) l0_0 l0_1 y205) = some (r1,r2,r3):=by first | (rw [hy205];with_reducible exact H) | (have H2_:=(Option.bind_some _ _).symm.trans H;rw [hy205];with_reducible exact H2_) | (have H2_:=(Option.bind_some _ _).symm.trans H;with_reducible exact H2_) | with_reducible exact H | (rw [hy205];exact H) | exact H
            have Ny205:=aMx10 hy205
            clear hy205
            have H':=aMx10 H
            clear H
            obtain ⟨Ao28,co28,eo28⟩:=Kd.R_slice HO_7.out
            subst eo28
            try go_wp2
            have n0_:=aMx10 (Kd.R_drew HO_7.out)
            have n1_:=aMx10 (Kd.R_drew HO_203000.out)
            have n2_:=aMx10 (blk_drew BK195.out)
            have n3_:=aMx10 (blk_drew BK196.out)
            have n4_:=aMx10 (blk_drew BK202.out)
            have n5_:=aMx10 (below_drew1 HB.out)
            clear HO_7
            clear HO_203000
            clear BK195
            clear BK196
            clear BK202
            clear HB
            have HO_7:=n0_
            have HO_203000:=n1_
            have BK195:=n2_
            have BK196:=n3_
            have BK202:=n4_
            have HB:=n5_
            clear n0_ n1_ n2_ n3_ n4_ n5_
            have p203 : 0 ≤ (x10_2 : Int):=of_decide_eq_true (by first | (with_reducible assumption) | assumption)
            have q203 : x10_2 < (t198.length : Int):=of_decide_eq_true (by first | (with_reducible assumption) | assumption)
            obtain ⟨ad203,e203,hx203_0⟩:=Kd.at_int (Kd.R_reads' HO_7.out).2.2 x10_2 p203 q203
            cases e203
            replace p203:=eq_true p203
            replace q203:=eq_true q203
            have p204 : 0 ≤ ((rd t198 x10_2) : Int):=of_decide_eq_true (by first | (with_reducible assumption) | assumption)
            have q204 : (rd t198 x10_2) < (l0_0.length : Int):=of_decide_eq_true (by first | (with_reducible assumption) | assumption)
            obtain ⟨ad204,e204,hx204_0,hx204_1,hx204_2⟩:=at_T45 HR0_0.out (rd t198 x10_2) p204 q204
            have hw204_2:=hx204_2
            have hw204_1:=hx204_1
            have hw204_0:=hx204_0
            cases e204
            replace hx204_0:=(HB.out.cell (World.block_lt_of_cell? w _ hx204_0)).trans hx204_0
            replace hx204_1:=(HB.out.cell (World.block_lt_of_cell? w _ hx204_1)).trans hx204_1
            replace hx204_2:=(HB.out.cell (World.block_lt_of_cell? w _ hx204_2)).trans hx204_2
            replace p204:=eq_true p204
            replace q204:=eq_true q204
            refine start_ (n:=14) (S:=fun w' => w'.cell? ⟨gb202,0,none⟩ = some (u203000) ∧ w'.cell? ⟨gb202,1,none⟩ = some (.slice none 0 0) ∧ w'.cell? ⟨gb195,0,none⟩ = some (.slice (some ad204) l0_0.length c0_0) ∧ w'.cell? ⟨gb195,1,none⟩ = some (.slice A0_1 l0_1.length c0_1) ∧ w'.cell? (ad203.add (x10_2).toNat) = some (.int .i64 (rd t198 x10_2)) ∧ w'.cell? (ad204.add (((rd t198 x10_2)).toNat * 3)) = some (.int .i64 ((rd_T45 l0_0 (rd t198 x10_2)).f0)) ∧ w'.cell? ⟨(ad204.add (((rd t198 x10_2)).toNat * 3)).block,(ad204.add (((rd t198 x10_2)).toNat * 3)).off+1,none⟩ = some (.int .i64 ((rd_T45 l0_0 (rd t198 x10_2)).f1)) ∧ w'.cell? ⟨(ad204.add (((rd t198 x10_2)).toNat * 3)).block,(ad204.add (((rd t198 x10_2)).toNat * 3)).off+2,none⟩ = some (.int .i64 ((rd_T45 l0_0 (rd t198 x10_2)).f2))) (ds:=[11,13]) #[false,false,false,false,false,false,false,false,false,false,false,false,false,false] (by kernel_rfl) rfl rfl ⟨(blk_cell BK202.out 0).trans rfl,(blk_cell BK202.out 1).trans rfl,(blk_cell BK195.out 0).trans rfl,(blk_cell BK195.out 1).trans rfl,hx203_0,((HB.out.cell (World.block_lt_of_cell? w _ hw204_0)).trans hw204_0),((HB.out.cell (World.block_lt_of_cell? w _ hw204_1)).trans hw204_1),((HB.out.cell (World.block_lt_of_cell? w _ hw204_2)).trans hw204_2)⟩ (fun hHeld => ?_);refine with_tabW lapidaryref13_Renamed.tab11 lapidaryref13_Renamed.bits11 (fun HT_ HW_ => ?_)
            generalize wr.drew = w29 at HO_7 HO_203000 BK195 BK196 BK202 HB hx203_0 hx204_0 hx204_1 hx204_2 hHeld ⊢
            refine pure_ (i:=0) (N:=some 42) (v:=?_) (a':=?_) #[true,false,false,false,false,false,false,false,false,false,false,false,false,false] rfl rfl (any_of HT_.out (by kernel_rfl)) (fun _ _ _ h => h) (Or.inl ⟨by rfl,?_⟩) ?_ ?_
            rotate_left
            ·intro w'
             go_simp
             with_reducible rfl
            rotate_left
            ·simp only [Act.put,sAx10,sBx10,sCx10,i64_w,i32_w]
             rfl
            refine pure_ (i:=2) (N:=some 44) (v:=?_) (a':=?_) #[true,false,true,false,false,false,false,false,false,false,false,false,false,false] rfl rfl (any_of HT_.out (by kernel_rfl)) (fun _ _ _ h => h) (Or.inl ⟨by rfl,?_⟩) ?_ ?_
            rotate_left
            ·intro w'
             go_simp
             with_reducible rfl
            rotate_left
            ·simp only [Act.put,sAx10,sBx10,sCx10,i64_w,i32_w]
             rfl
            refine pure_ (i:=4) (N:=some 46) (v:=?_) (a':=?_) #[true,false,true,false,true,false,false,false,false,false,false,false,false,false] rfl rfl (any_of HT_.out (by kernel_rfl)) (fun _ _ _ h => h) (Or.inl ⟨by rfl,?_⟩) ?_ ?_
            rotate_left
            ·intro w'
             go_simp
             with_reducible rfl
            rotate_left
            ·simp only [Act.put,sAx10,sBx10,sCx10,i64_w,i32_w]
             rfl
            refine pure_ (i:=5) (N:=some 47) (v:=?_) (a':=?_) #[true,false,true,false,true,true,false,false,false,false,false,false,false,false] rfl rfl (any_of HT_.out (by kernel_rfl)) (fun _ _ _ h => h) (Or.inl ⟨by rfl,?_⟩) ?_ ?_
            rotate_left
            ·intro w'
             go_simp
             with_reducible rfl
            rotate_left
            ·simp only [Act.put,sAx10,sBx10,sCx10,i64_w,i32_w]
             rfl
            refine pure_ (i:=6) (N:=some 48) (v:=?_) (a':=?_) #[true,false,true,false,true,true,true,false,false,false,false,false,false,false] rfl rfl (any_of HT_.out (by kernel_rfl)) (fun _ _ _ h => h) (Or.inl ⟨by rfl,?_⟩) ?_ ?_
            rotate_left
            ·intro w'
             go_simp
             with_reducible rfl
            rotate_left
            ·simp only [Act.put,sAx10,sBx10,sCx10,i64_w,i32_w]
             rfl
            refine take_ (i:=1) (N:=some 43) (v:=?_) (a':=?_) #[true,true,true,false,true,true,true,false,false,false,false,false,false,false] rfl rfl (take_ofW HT_.out HW_.out (by kernel_rfl)) (fun _ _ _ h => h) (Or.inl ⟨by rfl,?_⟩) hHeld ?_ ?_
            rotate_left
            ·rintro w' ⟨s0,s1,s2,s3,s4,s5,s6,s7⟩
             go_simp
             with_reducible rfl
            rotate_left
            ·simp only [Act.put,sAx10,sBx10,sCx10,i64_w,i32_w]
             rfl
            refine take_ (i:=3) (N:=some 45) (v:=?_) (a':=?_) #[true,true,true,true,true,true,true,false,false,false,false,false,false,false] rfl rfl (take_ofW HT_.out HW_.out (by kernel_rfl)) (fun _ _ _ h => h) (Or.inl ⟨by rfl,?_⟩) hHeld ?_ ?_
            rotate_left
            ·rintro w' ⟨s0,s1,s2,s3,s4,s5,s6,s7⟩
             go_simp
             with_reducible rfl
            rotate_left
            ·simp only [Act.put,sAx10,sBx10,sCx10,i64_w,i32_w]
             rfl
            refine take_ (i:=7) (N:=some 49) (v:=?_) (a':=?_) #[true,true,true,true,true,true,true,true,false,false,false,false,false,false] rfl rfl (take_ofW HT_.out HW_.out (by kernel_rfl)) (fun _ _ _ h => h) (Or.inl ⟨by rfl,?_⟩) hHeld ?_ ?_
            rotate_left
            ·rintro w' ⟨s0,s1,s2,s3,s4,s5,s6,s7⟩
             go_simp
             with_reducible rfl
            rotate_left
            ·simp only [Act.put,sAx10,sBx10,sCx10,i64_w,i32_w]
             rfl
            refine pure_ (i:=8) (N:=some 50) (v:=?_) (a':=?_) #[true,true,true,true,true,true,true,true,true,false,false,false,false,false] rfl rfl (any_of HT_.out (by kernel_rfl)) (fun _ _ _ h => h) (Or.inl ⟨by rfl,?_⟩) ?_ ?_
            rotate_left
            ·intro w'
             go_simp
             with_reducible rfl
            rotate_left
            ·simp only [Act.put,sAx10,sBx10,sCx10,i64_w,i32_w]
             rfl
            refine take_ (i:=9) (N:=some 51) (v:=?_) (a':=?_) #[true,true,true,true,true,true,true,true,true,true,false,false,false,false] rfl rfl (take_ofW HT_.out HW_.out (by kernel_rfl)) (fun _ _ _ h => h) (Or.inl ⟨by rfl,?_⟩) hHeld ?_ ?_
            rotate_left
            ·rintro w' ⟨s0,s1,s2,s3,s4,s5,s6,s7⟩
             go_simp
             with_reducible rfl
            rotate_left
            ·simp only [Act.put,sAx10,sBx10,sCx10,i64_w,i32_w]
             rfl
            refine one_ (i:=10) (N:=some 52) #[true,true,true,true,true,true,true,true,true,true,true,false,false,false] rfl rfl (one_of HT_.out (by kernel_rfl)) (by decide) (fun K hK => ?_)
            refine value_ (w1:=?_) (v:=?_) (by rfl) rfl ?_ ?_
            rotate_left 2
            ·go_simp
             constructor
             ·rfl
             ·rfl
            refine hK.out _ _ ⟨(blk_cell (blk_alloc BK202.out _) 0).trans rfl,(blk_cell (blk_alloc BK202.out _) 1).trans rfl,(blk_cell (blk_alloc BK195.out _) 0).trans rfl,(blk_cell (blk_alloc BK195.out _) 1).trans rfl,(World.cell?_alloc_lt _ _ _ (World.block_lt_of_cell? _ _ (hHeld.2.2.2.2.1))).trans (hHeld.2.2.2.2.1),(World.cell?_alloc_lt _ _ _ (World.block_lt_of_cell? _ _ (((HB.out.cell (World.block_lt_of_cell? w _ hw204_0)).trans hw204_0)))).trans (((HB.out.cell (World.block_lt_of_cell? w _ hw204_0)).trans hw204_0)),(World.cell?_alloc_lt _ _ _ (World.block_lt_of_cell? _ _ (((HB.out.cell (World.block_lt_of_cell? w _ hw204_1)).trans hw204_1)))).trans (((HB.out.cell (World.block_lt_of_cell? w _ hw204_1)).trans hw204_1)),(World.cell?_alloc_lt _ _ _ (World.block_lt_of_cell? _ _ (((HB.out.cell (World.block_lt_of_cell? w _ hw204_2)).trans hw204_2)))).trans (((HB.out.cell (World.block_lt_of_cell? w _ hw204_2)).trans hw204_2))⟩ (fun hHeld => ?_)
            clear hK K
            refine norm_ (a':=?_) ?_ ?_
            rotate_left
            ·show Act.put _ (some 52) _ = _
             simp only [Act.put,sAx10,sBx10,sCx10,i64_w,i32_w]
             rfl
            refine last_ (i:=11) (N:=some 53) #[true,true,true,true,true,true,true,true,true,true,true,true,false,false] rfl rfl (one_of HT_.out (by kernel_rfl)) (by decide) (fun K hK => ?_)
            refine Kd.R_append_step k45 (w0:=w) w.heap.size (by rfl) (.tmp 43) (.tmp 52) 22 45 (.agg #[(.int .i64 0),(.int .i64 0),(.int .i64 0)]) 24 rfl Tryd.underlying22 info45 rfl (by decide) (by omega) u203000 x203000_2 (⟨(rd_T45 l0_0 (rd t198 x10_2)).f0,(rd_T45 l0_0 (rd t198 x10_2)).f1,(rd_T45 l0_0 (rd t198 x10_2)).f2⟩ : S45) [.int .i64 ((rd_T45 l0_0 (rd t198 x10_2)).f0),.int .i64 ((rd_T45 l0_0 (rd t198 x10_2)).f1),.int .i64 ((rd_T45 l0_0 (rd t198 x10_2)).f2)] (fun _ => True) (fun _ => False) rfl rfl ?aP (fun _ hk => hk.elim) ?aF ?aO ?aB ?aS ?aL ?_
            (case aP => exact k45_mkM _ _ _ (⟨(rd_T45 l0_0 (rd t198 x10_2)).f0,(rd_T45 l0_0 (rd t198 x10_2)).f1,(rd_T45 l0_0 (rd t198 x10_2)).f2⟩ : S45))
            (case aB => exact (by repeat (first|(with_reducible first|exact HB.out|apply below_alloc|apply pw_below_drewN|apply below_drew1|refine below_set ?_ GE195.out|refine below_set ?_ GE196.out|refine below_set ?_ GE202.out)|exact HB.out)))
            (case aF => exact (fun _ _ => trivial))
            (case aO => exact (by (with_reducible repeat (first|apply Kd.R_alloc|apply Kd.R_drewN|apply Kd.R_drew));exact HO_203000.out))
            (case aS => exact (below_size (by repeat (first|(with_reducible first|exact HB.out|apply below_alloc|apply pw_below_drewN|apply below_drew1|refine below_set ?_ GE195.out|refine below_set ?_ GE196.out|refine below_set ?_ GE202.out)|exact HB.out))))
            (case aL => have:=LMc27.out;omega)
            intro v206 w30 ho hb hg hat
            rw [← Ny205.out] at ho
            have n0_:=aMx10 (Kd.R_over' (by (with_reducible repeat (first | apply Kd.R_alloc | apply Kd.R_drewN | apply Kd.R_drew));exact HO_7.out) (Kd.R_typed (by (with_reducible repeat (first | apply Kd.R_alloc | apply Kd.R_drewN | apply Kd.R_drew));exact HO_203000.out)) (by decide) hg)
            have n1_:=aMx10 (blk_grown (g:=gb195) (o:=.cells #[.slice (some ad204) l0_0.length c0_0,.slice A0_1 l0_1.length c0_1] 25 (0,0)) (by (with_reducible repeat (first | refine blk_drewN ?_ _ | refine blk_drew ?_ | refine blk_alloc ?_ _));exact BK195.out) hg (Kd.R_ne HO_203000.out BK195.out (by decide)))
            have n2_:=aMx10 (blk_grown (g:=gb196) (o:=.cells #[.slice none 0 0,.slice none 0 0] 25 (0,0)) (by (with_reducible repeat (first | refine blk_drewN ?_ _ | refine blk_drew ?_ | refine blk_alloc ?_ _));exact BK196.out) hg (Kd.R_ne HO_203000.out BK196.out (by decide)))
            have n3_:=aMx10 (blk_grown (g:=gb202) (o:=.cells #[u203000,.slice none 0 0] 25 (0,0)) (by (with_reducible repeat (first | refine blk_drewN ?_ _ | refine blk_drew ?_ | refine blk_alloc ?_ _));exact BK202.out) hg (Kd.R_ne HO_203000.out BK202.out (by decide)))
            have n4_:=aMx10 (hb)
            have n5_:=aMx10 (ho)
            clear HO_7
            clear BK195
            clear BK196
            clear BK202
            clear HB
            clear HO_203000
            have HO_7:=n0_
            have BK195:=n1_
            have BK196:=n2_
            have BK202:=n3_
            have HB:=n4_
            have HO207:=n5_
            clear n0_ n1_ n2_ n3_ n4_ n5_
            clear ho hb hg hat
            obtain ⟨Ao31,co31,eo31⟩:=Kd.R_slice HO207.out
            (first | subst eo31 | (injection eo31 with f1_ f2_ f3_;have f4_:=f1_.symm;have f5_:=f3_.symm;clear f1_ f2_ f3_;subst f4_;subst f5_))
            refine hK.out _ _ ?_
            clear hK K
            refine norm_ (a':=?_) ?_ ?_
            rotate_left
            ·show Act.put _ (some 53) _ = _
             simp only [Act.put,sAx10,sBx10,sCx10,i64_w,i32_w]
             rfl
            refine pure_ (i:=12) (N:=some 54) (v:=?_) (a':=?_) #[true,true,true,true,true,true,true,true,true,true,true,true,true,false] rfl rfl (any_of HT_.out (by kernel_rfl)) (fun _ _ _ h => h) (Or.inl ⟨by rfl,?_⟩) ?_ ?_
            rotate_left
            ·intro w'
             go_simp
             with_reducible rfl
            rotate_left
            ·simp only [Act.put,sAx10,sBx10,sCx10,i64_w,i32_w]
             rfl
            refine last_ (i:=13) (N:=none) #[true,true,true,true,true,true,true,true,true,true,true,true,true,true] rfl rfl (one_of HT_.out (by kernel_rfl)) (by decide) (fun K hK => ?_)
            have hs32 : w30.cell? ⟨gb202,0,none⟩ = some (u203000):=(blk_cell BK202.out 0).trans rfl
            have hfs32:=blk_frozen BK202.out 0
            have hns32_0:=NB195_202.out
            have hns32_1:=NB196_202.out
            have hms32_0:=NB202_195.out
            have hms32_1:=NB202_196.out
            refine skip_ (w1:=?_) (by rfl) rfl ?_ ?_
            rotate_left
            ·go_simp
             rfl
            refine hK.out _ _ ?_
            clear hK K
            refine done_ (done_of HT_.out (by kernel_rfl)) ?_
            try go_wp2
            go_roundg k2
            case measure => have:=HJ5.out;have:=HK2.out;omega
            case rel => exact ⟨(wrap64 (x10_2+1)),(y205),(.slice Ao31 y205.length co31),(by first | rfl | (simp;done) | (simp [*];done) | (simp [wrap64];done)),H',⟨by have:=HJ5.out;have:=HK2.out;omega⟩,⟨by (with_reducible repeat (first | apply Kd.R_alloc | apply Kd.R_drewN | apply Kd.R_drew));exact Kd.R_mono (Kd.R_far (p:=⟨gb202,0,none⟩) (Kd.R_types HO_7.out BK202.out (by decide)) (fun _ hk => hk.2) (.slice Ao31 y205.length co31)) (fun _ hk => trivial)⟩,⟨by (with_reducible repeat (first | apply Kd.R_alloc | apply Kd.R_drewN | apply Kd.R_drew));exact Kd.R_mono (Kd.R_far (p:=⟨gb202,0,none⟩) (Kd.R_types HO207.out BK202.out (by decide)) (fun _ hk => hk.2) (.slice Ao31 y205.length co31)) (fun _ hk => trivial)⟩,⟨by (with_reducible repeat (first | refine blk_drewN ?_ _ | refine blk_drew ?_ | refine blk_alloc ?_ _));refine blk_far ?_ NB195_202.out _;(with_reducible repeat (first | refine blk_drewN ?_ _ | refine blk_drew ?_ | refine blk_alloc ?_ _));exact BK195.out⟩,⟨by (with_reducible repeat (first | refine blk_drewN ?_ _ | refine blk_drew ?_ | refine blk_alloc ?_ _));refine blk_far ?_ NB196_202.out _;(with_reducible repeat (first | refine blk_drewN ?_ _ | refine blk_drew ?_ | refine blk_alloc ?_ _));exact BK196.out⟩,⟨by (with_reducible repeat (first | refine blk_drewN ?_ _ | refine blk_drew ?_ | refine blk_alloc ?_ _));refine blk_put (cs:=#[u203000,.slice none 0 0]) ?_ 0 _ rfl;(with_reducible repeat (first | refine blk_drewN ?_ _ | refine blk_drew ?_ | refine blk_alloc ?_ _));exact BK202.out⟩,⟨by repeat (first | (with_reducible first | exact HB.out | apply below_alloc | apply pw_below_drewN | apply below_drew1 | refine below_set ?_ GE195.out | refine below_set ?_ GE196.out | refine below_set ?_ GE202.out) | exact HB.out)⟩⟩
           ·rw [if_neg c27] at H
            exact absurd H (by simp)
          ·rw [if_neg c26] at H
           exact absurd H (by simp)
         ·rw [if_neg c25] at H
          exact absurd H (by simp)
        ·rw [if_neg c24] at H
         exact absurd H (by simp)
       ·rw [if_neg c23] at H
        have c23b0 : decide (x10_2 < (t198.length : Int)) = false:=decide_eq_false c23
        clear c23
        have H':=aMx10 H
        clear H
        obtain ⟨Ao33,co33,eo33⟩:=Kd.R_slice HO_7.out
        subst eo33
        go_wp2
        go_loopg [11] k2 (fun kq v11 w' => ∃ (x11_3 : Int) (x203001_3 : List (S57)) (u203001 : Value),v11 = .int .i64 x11_3 ∧ Aside0 (lapidaryref13_Renamed.l1 kq l1 x11_3 l0_0 l0_1 x203000_2 x203001_3 = some (r1,r2,r3)) ∧ Aside0 (kq ≤ k2) ∧ Aside0 (Kd.R k45 45 w' w.heap.size (fun _ => True) u203000 x203000_2) ∧ Aside0 (Kd.R k57 57 w' w.heap.size (fun _ => True) u203001 x203001_3) ∧ Aside0 (w'.heap[gb195]? = some (.cells #[(.slice A0_0 l0_0.length c0_0),(.slice A0_1 l0_1.length c0_1)] 25 (0,0))) ∧ Aside0 (w'.heap[gb196]? = some (.cells #[(.slice none 0 0),(.slice none 0 0)] 25 (0,0))) ∧ Aside0 (w'.heap[gb202]? = some (.cells #[u203000,u203001] 25 (0,0))) ∧ Aside0 (Below w.heap.size w w'))
        case atStart => exact ⟨(0),(([] : List (S57))),(.slice none 0 0),(by first | rfl | (simp;done) | (simp [*];done) | (simp [wrap64];done)),H',⟨Nat.le_refl _⟩,⟨by (with_reducible repeat (first | apply Kd.R_alloc | apply Kd.R_drewN | apply Kd.R_drew));exact HO_203000.out⟩,⟨by first | exact Kd.R_nil _ _ _ _ _ | exact Kd.N_nil _ _ _ _ _ | exact Kd.V_nil _ _ _ _ _ | exact Kd.Q_nil _ _ _ _ _ | exact Kd.S_nil _ _ _ _ _⟩,⟨by (with_reducible repeat (first | refine blk_drewN ?_ _ | refine blk_drew ?_ | refine blk_alloc ?_ _));exact BK195.out⟩,⟨by (with_reducible repeat (first | refine blk_drewN ?_ _ | refine blk_drew ?_ | refine blk_alloc ?_ _));exact BK196.out⟩,⟨by (with_reducible repeat (first | refine blk_drewN ?_ _ | refine blk_drew ?_ | refine blk_alloc ?_ _));exact BK202.out⟩,⟨by repeat (first | (with_reducible first | exact HB.out | apply below_alloc | apply pw_below_drewN | apply below_drew1 | refine below_set ?_ GE195.out | refine below_set ?_ GE196.out | refine below_set ?_ GE202.out) | exact HB.out)⟩⟩
        case round =>
         clear H'
         (try clear c1);(try clear c2);(try clear p2);(try clear q2);(try clear hx2);(try clear c4);(try clear c4b0);(try clear c4b1);(try clear p6);(try clear c9);(try clear c13);(try clear c14);(try clear c16);(try clear c17);(try clear c19);(try clear c20);(try clear p20);(try clear q20);(try clear hx20);(try clear c21);(try clear c23);(try clear c23b0);(try clear c24);(try clear c24b0);(try clear c25);(try clear c25b0);(try clear c26);(try clear c26b0);(try clear c27);(try clear hcz10_0);(try clear hcz10_1);(try clear hcz15_0);(try clear hcz15_1);(try clear hcz18_0);(try clear hcz18_1);(try clear hcz22_0);(try clear hcz22_1);(try clear hfz10_0);(try clear hfz10_1);(try clear hfz15_0);(try clear hfz15_1);(try clear hfz18_0);(try clear hfz18_1);(try clear hfz22_0);(try clear hfz22_1);(try clear hx203_0);(try clear hx204_0);(try clear hx204_1);(try clear hx204_2);(try clear p2);(try clear p203);(try clear p204);(try clear q203);(try clear q204)
         obtain ⟨x11_3,x203001_3,u203001,rfl,HA,HK3,HO_203000,HO_203001,BK195,BK196,BK202,HB⟩:=hrel
         cases gk with
         | zero => exact absurd HA.out (by simp [lapidaryref13_Renamed.l1])
         | succ k3 =>
          have H:=HA.out
          clear HA
          simp only [lapidaryref13_Renamed.l1] at H
          by_cases c34 : x11_3 < (l0_1.length : Int)
          ·rw [if_pos c34] at H
           have c34b0 : decide (x11_3 < (l0_1.length : Int)) = true:=decide_eq_true c34
           clear c34
           by_cases c35 : 0 ≤ x11_3
           ·rw [if_pos c35] at H
            have c35b0 : decide (0 ≤ x11_3) = true:=decide_eq_true c35
            clear c35
            by_cases c36 : 0 ≤ ((rd_T57 l0_1 x11_3).f0)
            ·rw [if_pos c36] at H
             have c36b0 : decide (0 ≤ ((rd_T57 l0_1 x11_3).f0)) = true:=decide_eq_true c36
             clear c36
             by_cases c37 : ((rd_T57 l0_1 x11_3).f0) < (l1.length : Int)
             ·rw [if_pos c37] at H
              have c37b0 : decide (((rd_T57 l0_1 x11_3).f0) < (l1.length : Int)) = true:=decide_eq_true c37
              clear c37
              by_cases c38 : 0 ≤ ((rd_T57 l0_1 x11_3).f1)
              ·rw [if_pos c38] at H
               have c38b0 : decide (0 ≤ ((rd_T57 l0_1 x11_3).f1)) = true:=decide_eq_true c38
               clear c38
               by_cases c39 : ((rd_T57 l0_1 x11_3).f1) < (l1.length : Int)
               ·rw [if_pos c39] at H
                have c39b0 : decide (((rd_T57 l0_1 x11_3).f1) < (l1.length : Int)) = true:=decide_eq_true c39
                clear c39
                by_cases c40 : 0 ≤ ((rd_T57 l0_1 x11_3).f2)
                ·rw [if_pos c40] at H
                 have c40b0 : decide (0 ≤ ((rd_T57 l0_1 x11_3).f2)) = true:=decide_eq_true c40
                 clear c40
                 by_cases c41 : ((rd_T57 l0_1 x11_3).f2) < (l1.length : Int)
                 ·rw [if_pos c41] at H
                  have c41b0 : decide (((rd_T57 l0_1 x11_3).f2) < (l1.length : Int)) = true:=decide_eq_true c41
                  clear c41
                  by_cases c42 : x203001_3.length < 5864062014805
                  ·rw [if_pos c42] at H
                   have LMc42:=aMx10 c42
                   clear c42
                   obtain ⟨y213,hy213⟩ : ∃ y_ : List (S57),y_ = (x203001_3++[(⟨rd l1 ((rd_T57 l0_1 x11_3).f0),rd l1 ((rd_T57 l0_1 x11_3).f1),rd l1 ((rd_T57 l0_1 x11_3).f2)⟩ : S57)]):=⟨_,rfl⟩
                   replace H : (lapidaryref13_Renamed.l1 k3 l1 (wrap64 (x11_3+1)) l0_0 l0_1 x203000_2 y213) = some (r1,r2,r3):=by first | (rw [hy213];with_reducible exact H) | (have H2_:=(Option.bind_some _ _).symm.trans H;rw [hy213];with_reducible exact H2_) | (have H2_:=(Option.bind_some _ _).symm.trans H;with_reducible exact H2_) | with_reducible exact H | (rw [hy213];exact H) | exact H
                   have Ny213:=aMx10 hy213
                   clear hy213
                   have H':=aMx10 H
                   clear H
                   have hnb43:=NB195_196.out
                   have hnc43:=NB196_195.out
                   have hnb44:=NB195_202.out
                   have hnc44:=NB202_195.out
                   have hcz45_0 : wr.cell? ⟨gb195,0,none⟩ = some (.slice A0_0 l0_0.length c0_0):=(blk_cell BK195.out 0).trans rfl
                   have hcz45_1 : wr.cell? ⟨gb195,1,none⟩ = some (.slice A0_1 l0_1.length c0_1):=(blk_cell BK195.out 1).trans rfl
                   have hfz45_0:=blk_frozen BK195.out 0
                   have hfz45_1:=blk_frozen BK195.out 1
                   have p208 : 0 ≤ (x11_3 : Int):=of_decide_eq_true (by first | (with_reducible assumption) | assumption)
                   have q208 : x11_3 < (l0_1.length : Int):=of_decide_eq_true (by first | (with_reducible assumption) | assumption)
                   obtain ⟨ad208,e208,hx208_0,hx208_1,hx208_2⟩:=at_T57 HR0_1.out x11_3 p208 q208
                   cases e208
                   replace hx208_0:=(HB.out.cell (World.block_lt_of_cell? w _ hx208_0)).trans hx208_0
                   replace hx208_1:=(HB.out.cell (World.block_lt_of_cell? w _ hx208_1)).trans hx208_1
                   replace hx208_2:=(HB.out.cell (World.block_lt_of_cell? w _ hx208_2)).trans hx208_2
                   replace p208:=eq_true p208
                   replace q208:=eq_true q208
                   try go_wp2_with (first|((with_reducible refine gate_dst (N:=12) rfl ?_);(try (refine gate_guard (by rfl) ?_;dsimp only));refine box_event ?hg (N:=12) ?hd (cs:=#[.int .i64 0,.int .i64 0,.int .i64 0]) (t:=57) ?hr ?_;(case hd => rfl);(case hg => rfl);(case hr => first|(go_simp;done)|(go_simp;rfl));intro gb209 hg w46 hbox hb;have n0_:=aMx10 (Kd.R_below (by (with_reducible repeat (first|apply Kd.R_alloc|apply Kd.R_drewN|apply Kd.R_drew));exact HO_203000.out) hb);have n1_:=aMx10 (Kd.R_below (Kd.R_elderB (by (with_reducible repeat (first|apply Kd.R_alloc|apply Kd.R_drewN|apply Kd.R_drew));exact HO_203001.out) gb209 (Nat.le_of_eq hg.symm)) hb);have n2_:=aMx10 (blk_below (g:=gb195) (o:=.cells #[.slice A0_0 l0_0.length c0_0,.slice (some ad208) l0_1.length c0_1] 25 (0,0)) (by (with_reducible repeat (first|refine blk_drewN ?_ _|refine blk_drew ?_|refine blk_alloc ?_ _));exact BK195.out) hb);have n3_:=aMx10 (blk_below (g:=gb196) (o:=.cells #[.slice none 0 0,.slice none 0 0] 25 (0,0)) (by (with_reducible repeat (first|refine blk_drewN ?_ _|refine blk_drew ?_|refine blk_alloc ?_ _));exact BK196.out) hb);have n4_:=aMx10 (blk_below (g:=gb202) (o:=.cells #[u203000,u203001] 25 (0,0)) (by (with_reducible repeat (first|refine blk_drewN ?_ _|refine blk_drew ?_|refine blk_alloc ?_ _));exact BK202.out) hb);have n5_:=aMx10 (below_step (by repeat (first|(with_reducible first|exact HB.out|apply below_alloc|apply pw_below_drewN|apply below_drew1|refine below_set ?_ GE195.out|refine below_set ?_ GE196.out|refine below_set ?_ GE202.out)|exact HB.out)) hb);have n6_:=aMx10 (hbox);have n7_:=aMx10 ((by rw [hg];exact (below_size (by repeat (first|(with_reducible first|exact HB.out|apply below_alloc|apply pw_below_drewN|apply below_drew1|refine below_set ?_ GE195.out|refine below_set ?_ GE196.out|refine below_set ?_ GE202.out)|exact HB.out))) : w.heap.size ≤ gb209));have n8_:=aMx10 ((by rw [hg];exact (below_size (by repeat (first|(with_reducible first|exact HB.out|apply below_alloc|apply pw_below_drewN|apply below_drew1|refine below_set ?_ GE195.out|refine below_set ?_ GE196.out|refine below_set ?_ GE202.out)|exact HB.out))) : w.heap.size ≤ gb209));have n9_:=aMx10 ((by rw [hg];exact Nat.ne_of_lt (blk_lt (g:=gb195) (o:=.cells #[.slice A0_0 l0_0.length c0_0,.slice (some ad208) l0_1.length c0_1] 25 (0,0)) (by (with_reducible repeat (first|refine blk_drewN ?_ _|refine blk_drew ?_|refine blk_alloc ?_ _));exact BK195.out)) : gb195 ≠ gb209));have n10_:=aMx10 ((by rw [hg];exact Nat.ne_of_gt (blk_lt (g:=gb195) (o:=.cells #[.slice A0_0 l0_0.length c0_0,.slice (some ad208) l0_1.length c0_1] 25 (0,0)) (by (with_reducible repeat (first|refine blk_drewN ?_ _|refine blk_drew ?_|refine blk_alloc ?_ _));exact BK195.out)) : gb209 ≠ gb195));have n11_:=aMx10 ((by rw [hg];exact Nat.ne_of_lt (blk_lt (g:=gb196) (o:=.cells #[.slice none 0 0,.slice none 0 0] 25 (0,0)) (by (with_reducible repeat (first|refine blk_drewN ?_ _|refine blk_drew ?_|refine blk_alloc ?_ _));exact BK196.out)) : gb196 ≠ gb209));have n12_:=aMx10 ((by rw [hg];exact Nat.ne_of_gt (blk_lt (g:=gb196) (o:=.cells #[.slice none 0 0,.slice none 0 0] 25 (0,0)) (by (with_reducible repeat (first|refine blk_drewN ?_ _|refine blk_drew ?_|refine blk_alloc ?_ _));exact BK196.out)) : gb209 ≠ gb196));have n13_:=aMx10 ((by rw [hg];exact Nat.ne_of_lt (blk_lt (g:=gb202) (o:=.cells #[u203000,u203001] 25 (0,0)) (by (with_reducible repeat (first|refine blk_drewN ?_ _|refine blk_drew ?_|refine blk_alloc ?_ _));exact BK202.out)) : gb202 ≠ gb209));have n14_:=aMx10 ((by rw [hg];exact Nat.ne_of_gt (blk_lt (g:=gb202) (o:=.cells #[u203000,u203001] 25 (0,0)) (by (with_reducible repeat (first|refine blk_drewN ?_ _|refine blk_drew ?_|refine blk_alloc ?_ _));exact BK202.out)) : gb209 ≠ gb202));clear HO_203000;clear HO_203001;clear BK195;clear BK196;clear BK202;clear HB;have HO_203000:=n0_;have HO_203001:=n1_;have BK195:=n2_;have BK196:=n3_;have BK202:=n4_;have HB:=n5_;have BK209:=n6_;have GW209:=n7_;have GE209:=n8_;have NB195_209:=n9_;have NB209_195:=n10_;have NB196_209:=n11_;have NB209_196:=n12_;have NB202_209:=n13_;have NB209_202:=n14_;clear n0_ n1_ n2_ n3_ n4_ n5_ n6_ n7_ n8_ n9_ n10_ n11_ n12_ n13_ n14_;clear hb hbox hg;have hnb47:=NB209_195.out;have hnc47:=NB195_209.out;have hnb48:=NB209_196.out;have hnc48:=NB196_209.out;have hnb49:=NB209_202.out;have hnc49:=NB202_209.out;have hcz50_0 : w46.cell? ⟨gb209,0,none⟩ = some (.int .i64 0):=(blk_cell BK209.out 0).trans rfl;have hcz50_1 : w46.cell? ⟨gb209,1,none⟩ = some (.int .i64 0):=(blk_cell BK209.out 1).trans rfl;have hcz50_2 : w46.cell? ⟨gb209,2,none⟩ = some (.int .i64 0):=(blk_cell BK209.out 2).trans rfl;have hfz50_0:=blk_frozen BK209.out 0;have hfz50_1:=blk_frozen BK209.out 1;have hfz50_2:=blk_frozen BK209.out 2))
                   have n0_ : Aside0 (Kd.R k45 45 (((w46.setCell ⟨gb209,0,none⟩ (.int .i64 ((rd_T57 l0_1 x11_3).f0))).setCell ⟨gb209,1,none⟩ (.int .i64 ((rd_T57 l0_1 x11_3).f1))).setCell ⟨gb209,2,none⟩ (.int .i64 ((rd_T57 l0_1 x11_3).f2))) w.heap.size (fun _ => True) u203000 x203000_2):=⟨by (with_reducible repeat (first | apply Kd.R_alloc | apply Kd.R_drewN | apply Kd.R_drew));exact Kd.R_mono (Kd.R_far (p:=⟨gb209,2,none⟩) (Kd.R_far (p:=⟨gb209,1,none⟩) (Kd.R_far (p:=⟨gb209,0,none⟩) (Kd.R_types HO_203000.out BK209.out (by decide)) (fun _ hk => hk.2) (.int .i64 ((rd_T57 l0_1 x11_3).f0))) (fun _ hk => hk.2) (.int .i64 ((rd_T57 l0_1 x11_3).f1))) (fun _ hk => hk.2) (.int .i64 ((rd_T57 l0_1 x11_3).f2))) (fun _ hk => trivial)⟩
                   have n1_ : Aside0 (Kd.R k57 57 (((w46.setCell ⟨gb209,0,none⟩ (.int .i64 ((rd_T57 l0_1 x11_3).f0))).setCell ⟨gb209,1,none⟩ (.int .i64 ((rd_T57 l0_1 x11_3).f1))).setCell ⟨gb209,2,none⟩ (.int .i64 ((rd_T57 l0_1 x11_3).f2))) w.heap.size (fun k_ => k_ ≠ gb209) u203001 x203001_3):=⟨by (with_reducible repeat (first | apply Kd.R_alloc | apply Kd.R_drewN | apply Kd.R_drew));exact Kd.R_mono (Kd.R_far (p:=⟨gb209,2,none⟩) (Kd.R_far (p:=⟨gb209,1,none⟩) (Kd.R_far (p:=⟨gb209,0,none⟩) (Kd.R_mono HO_203001.out (fun k_ hk => (⟨hk,hk.2⟩ : _ ∧ k_ ≠ gb209))) (fun _ hk => hk.2) (.int .i64 ((rd_T57 l0_1 x11_3).f0))) (fun _ hk => hk.2) (.int .i64 ((rd_T57 l0_1 x11_3).f1))) (fun _ hk => hk.2) (.int .i64 ((rd_T57 l0_1 x11_3).f2))) (fun _ hk => hk.1.2)⟩
                   have n2_ : Aside0 ((((w46.setCell ⟨gb209,0,none⟩ (.int .i64 ((rd_T57 l0_1 x11_3).f0))).setCell ⟨gb209,1,none⟩ (.int .i64 ((rd_T57 l0_1 x11_3).f1))).setCell ⟨gb209,2,none⟩ (.int .i64 ((rd_T57 l0_1 x11_3).f2))).heap[gb195]? = some (.cells #[.slice A0_0 l0_0.length c0_0,.slice (some ad208) l0_1.length c0_1] 25 (0,0))):=⟨by (with_reducible repeat (first | refine blk_drewN ?_ _ | refine blk_drew ?_ | refine blk_alloc ?_ _));refine blk_far ?_ NB195_209.out _;(with_reducible repeat (first | refine blk_drewN ?_ _ | refine blk_drew ?_ | refine blk_alloc ?_ _));refine blk_far ?_ NB195_209.out _;(with_reducible repeat (first | refine blk_drewN ?_ _ | refine blk_drew ?_ | refine blk_alloc ?_ _));refine blk_far ?_ NB195_209.out _;(with_reducible repeat (first | refine blk_drewN ?_ _ | refine blk_drew ?_ | refine blk_alloc ?_ _));exact BK195.out⟩
                   have n3_ : Aside0 ((((w46.setCell ⟨gb209,0,none⟩ (.int .i64 ((rd_T57 l0_1 x11_3).f0))).setCell ⟨gb209,1,none⟩ (.int .i64 ((rd_T57 l0_1 x11_3).f1))).setCell ⟨gb209,2,none⟩ (.int .i64 ((rd_T57 l0_1 x11_3).f2))).heap[gb196]? = some (.cells #[.slice none 0 0,.slice none 0 0] 25 (0,0))):=⟨by (with_reducible repeat (first | refine blk_drewN ?_ _ | refine blk_drew ?_ | refine blk_alloc ?_ _));refine blk_far ?_ NB196_209.out _;(with_reducible repeat (first | refine blk_drewN ?_ _ | refine blk_drew ?_ | refine blk_alloc ?_ _));refine blk_far ?_ NB196_209.out _;(with_reducible repeat (first | refine blk_drewN ?_ _ | refine blk_drew ?_ | refine blk_alloc ?_ _));refine blk_far ?_ NB196_209.out _;(with_reducible repeat (first | refine blk_drewN ?_ _ | refine blk_drew ?_ | refine blk_alloc ?_ _));exact BK196.out⟩
                   have n4_ : Aside0 ((((w46.setCell ⟨gb209,0,none⟩ (.int .i64 ((rd_T57 l0_1 x11_3).f0))).setCell ⟨gb209,1,none⟩ (.int .i64 ((rd_T57 l0_1 x11_3).f1))).setCell ⟨gb209,2,none⟩ (.int .i64 ((rd_T57 l0_1 x11_3).f2))).heap[gb202]? = some (.cells #[u203000,u203001] 25 (0,0))):=⟨by (with_reducible repeat (first | refine blk_drewN ?_ _ | refine blk_drew ?_ | refine blk_alloc ?_ _));refine blk_far ?_ NB202_209.out _;(with_reducible repeat (first | refine blk_drewN ?_ _ | refine blk_drew ?_ | refine blk_alloc ?_ _));refine blk_far ?_ NB202_209.out _;(with_reducible repeat (first | refine blk_drewN ?_ _ | refine blk_drew ?_ | refine blk_alloc ?_ _));refine blk_far ?_ NB202_209.out _;(with_reducible repeat (first | refine blk_drewN ?_ _ | refine blk_drew ?_ | refine blk_alloc ?_ _));exact BK202.out⟩
                   have n5_ : Aside0 ((((w46.setCell ⟨gb209,0,none⟩ (.int .i64 ((rd_T57 l0_1 x11_3).f0))).setCell ⟨gb209,1,none⟩ (.int .i64 ((rd_T57 l0_1 x11_3).f1))).setCell ⟨gb209,2,none⟩ (.int .i64 ((rd_T57 l0_1 x11_3).f2))).heap[gb209]? = some (.cells #[.int .i64 ((rd_T57 l0_1 x11_3).f0),.int .i64 ((rd_T57 l0_1 x11_3).f1),.int .i64 ((rd_T57 l0_1 x11_3).f2)] 57 (0,0))):=⟨by (with_reducible repeat (first | refine blk_drewN ?_ _ | refine blk_drew ?_ | refine blk_alloc ?_ _));refine blk_put (cs:=#[.int .i64 ((rd_T57 l0_1 x11_3).f0),.int .i64 ((rd_T57 l0_1 x11_3).f1),.int .i64 0]) ?_ 2 _ rfl;(with_reducible repeat (first | refine blk_drewN ?_ _ | refine blk_drew ?_ | refine blk_alloc ?_ _));refine blk_put (cs:=#[.int .i64 ((rd_T57 l0_1 x11_3).f0),.int .i64 0,.int .i64 0]) ?_ 1 _ rfl;(with_reducible repeat (first | refine blk_drewN ?_ _ | refine blk_drew ?_ | refine blk_alloc ?_ _));refine blk_put (cs:=#[.int .i64 0,.int .i64 0,.int .i64 0]) ?_ 0 _ rfl;(with_reducible repeat (first | refine blk_drewN ?_ _ | refine blk_drew ?_ | refine blk_alloc ?_ _));exact BK209.out⟩
                   have n6_ : Aside0 (Below w.heap.size w (((w46.setCell ⟨gb209,0,none⟩ (.int .i64 ((rd_T57 l0_1 x11_3).f0))).setCell ⟨gb209,1,none⟩ (.int .i64 ((rd_T57 l0_1 x11_3).f1))).setCell ⟨gb209,2,none⟩ (.int .i64 ((rd_T57 l0_1 x11_3).f2)))):=⟨by repeat (first | (with_reducible first | exact HB.out | apply below_alloc | apply pw_below_drewN | apply below_drew1 | refine below_set ?_ GE195.out | refine below_set ?_ GE196.out | refine below_set ?_ GE202.out | refine below_set ?_ GE209.out) | exact HB.out)⟩
                   (try clear HO_203000)
                   (try clear HO_203001)
                   (try clear BK195)
                   (try clear BK196)
                   (try clear BK202)
                   (try clear BK209)
                   (try clear HB)
                   generalize (((w46.setCell ⟨gb209,0,none⟩ (.int .i64 ((rd_T57 l0_1 x11_3).f0))).setCell ⟨gb209,1,none⟩ (.int .i64 ((rd_T57 l0_1 x11_3).f1))).setCell ⟨gb209,2,none⟩ (.int .i64 ((rd_T57 l0_1 x11_3).f2))) = w51 at n0_ n1_ n2_ n3_ n4_ n5_ n6_ ⊢
                   have HO_203000:=n0_
                   have HO_203001:=n1_
                   have BK195:=n2_
                   have BK196:=n3_
                   have BK202:=n4_
                   have BK209:=n5_
                   have HB:=n6_
                   clear n0_ n1_ n2_ n3_ n4_ n5_ n6_
                   have n0_:=aMx10 (Kd.R_drew HO_203000.out)
                   have n1_:=aMx10 (Kd.R_drew HO_203001.out)
                   have n2_:=aMx10 (blk_drew BK195.out)
                   have n3_:=aMx10 (blk_drew BK196.out)
                   have n4_:=aMx10 (blk_drew BK202.out)
                   have n5_:=aMx10 (blk_drew BK209.out)
                   have n6_:=aMx10 (below_drew1 HB.out)
                   clear HO_203000
                   clear HO_203001
                   clear BK195
                   clear BK196
                   clear BK202
                   clear BK209
                   clear HB
                   have HO_203000:=n0_
                   have HO_203001:=n1_
                   have BK195:=n2_
                   have BK196:=n3_
                   have BK202:=n4_
                   have BK209:=n5_
                   have HB:=n6_
                   clear n0_ n1_ n2_ n3_ n4_ n5_ n6_
                   have p210 : 0 ≤ (((rd_T57 l0_1 x11_3).f0) : Int):=of_decide_eq_true (by first | (with_reducible assumption) | assumption)
                   have q210 : ((rd_T57 l0_1 x11_3).f0) < (l1.length : Int):=of_decide_eq_true (by first | (with_reducible assumption) | assumption)
                   obtain ⟨ad210,e210,hx210_0⟩:=Kd.at_int HR1.out ((rd_T57 l0_1 x11_3).f0) p210 q210
                   have hw210_0:=hx210_0
                   cases e210
                   replace hx210_0:=(HB.out.cell (World.block_lt_of_cell? w _ hx210_0)).trans hx210_0
                   replace p210:=eq_true p210
                   replace q210:=eq_true q210
                   have p211 : 0 ≤ (((rd_T57 l0_1 x11_3).f1) : Int):=of_decide_eq_true (by first | (with_reducible assumption) | assumption)
                   have q211 : ((rd_T57 l0_1 x11_3).f1) < (l1.length : Int):=of_decide_eq_true (by first | (with_reducible assumption) | assumption)
                   obtain ⟨ad211,e211,hx211_0⟩:=Kd.at_int HR1.out ((rd_T57 l0_1 x11_3).f1) p211 q211
                   have hw211_0:=hx211_0
                   obtain rfl : ad210 = ad211:=(by injection e211)
                   replace hx211_0:=(HB.out.cell (World.block_lt_of_cell? w _ hx211_0)).trans hx211_0
                   replace p211:=eq_true p211
                   replace q211:=eq_true q211
                   have p212 : 0 ≤ (((rd_T57 l0_1 x11_3).f2) : Int):=of_decide_eq_true (by first | (with_reducible assumption) | assumption)
                   have q212 : ((rd_T57 l0_1 x11_3).f2) < (l1.length : Int):=of_decide_eq_true (by first | (with_reducible assumption) | assumption)
                   obtain ⟨ad212,e212,hx212_0⟩:=Kd.at_int HR1.out ((rd_T57 l0_1 x11_3).f2) p212 q212
                   have hw212_0:=hx212_0
                   obtain rfl : ad210 = ad212:=(by injection e212)
                   replace hx212_0:=(HB.out.cell (World.block_lt_of_cell? w _ hx212_0)).trans hx212_0
                   replace p212:=eq_true p212
                   replace q212:=eq_true q212
                   refine start_ (n:=22) (S:=fun w' => w'.cell? ⟨gb202,0,none⟩ = some (u203000) ∧ w'.cell? ⟨gb202,1,none⟩ = some (u203001) ∧ w'.cell? ⟨gb209,0,none⟩ = some (.int .i64 ((rd_T57 l0_1 x11_3).f0)) ∧ w'.cell? ⟨gb209,1,none⟩ = some (.int .i64 ((rd_T57 l0_1 x11_3).f1)) ∧ w'.cell? ⟨gb209,2,none⟩ = some (.int .i64 ((rd_T57 l0_1 x11_3).f2)) ∧ w'.cell? (ad210.add (((rd_T57 l0_1 x11_3).f0)).toNat) = some (.int .i64 (rd l1 ((rd_T57 l0_1 x11_3).f0))) ∧ w'.cell? (ad210.add (((rd_T57 l0_1 x11_3).f1)).toNat) = some (.int .i64 (rd l1 ((rd_T57 l0_1 x11_3).f1))) ∧ w'.cell? (ad210.add (((rd_T57 l0_1 x11_3).f2)).toNat) = some (.int .i64 (rd l1 ((rd_T57 l0_1 x11_3).f2)))) (ds:=[21]) #[false,false,false,false,false,false,false,false,false,false,false,false,false,false,false,false,false,false,false,false,false,false] (by kernel_rfl) rfl rfl ⟨(blk_cell BK202.out 0).trans rfl,(blk_cell BK202.out 1).trans rfl,(blk_cell BK209.out 0).trans rfl,(blk_cell BK209.out 1).trans rfl,(blk_cell BK209.out 2).trans rfl,((HB.out.cell (World.block_lt_of_cell? w _ hw210_0)).trans hw210_0),((HB.out.cell (World.block_lt_of_cell? w _ hw211_0)).trans hw211_0),((HB.out.cell (World.block_lt_of_cell? w _ hw212_0)).trans hw212_0)⟩ (fun hHeld => ?_);refine with_tabW lapidaryref13_Renamed.tab16 lapidaryref13_Renamed.bits16 (fun HT_ HW_ => ?_)
                   generalize w51.drew = w52 at HO_203000 HO_203001 BK195 BK196 BK202 BK209 HB hx210_0 hx211_0 hx212_0 hHeld ⊢
                   refine pure_ (i:=0) (N:=some 67) (v:=?_) (a':=?_) #[true,false,false,false,false,false,false,false,false,false,false,false,false,false,false,false,false,false,false,false,false,false] rfl rfl (any_of HT_.out (by kernel_rfl)) (fun _ _ _ h => h) (Or.inl ⟨by rfl,?_⟩) ?_ ?_
                   rotate_left
                   ·intro w'
                    go_simp
                    with_reducible rfl
                   rotate_left
                   ·simp only [Act.put,sAx10,sBx10,sCx10,i64_w,i32_w]
                    rfl
                   refine pure_ (i:=2) (N:=some 69) (v:=?_) (a':=?_) #[true,false,true,false,false,false,false,false,false,false,false,false,false,false,false,false,false,false,false,false,false,false] rfl rfl (any_of HT_.out (by kernel_rfl)) (fun _ _ _ h => h) (Or.inl ⟨by rfl,?_⟩) ?_ ?_
                   rotate_left
                   ·intro w'
                    go_simp
                    with_reducible rfl
                   rotate_left
                   ·simp only [Act.put,sAx10,sBx10,sCx10,i64_w,i32_w]
                    rfl
                   refine pure_ (i:=3) (N:=some 70) (v:=?_) (a':=?_) #[true,false,true,true,false,false,false,false,false,false,false,false,false,false,false,false,false,false,false,false,false,false] rfl rfl (any_of HT_.out (by kernel_rfl)) (fun _ _ _ h => h) (Or.inl ⟨by rfl,?_⟩) ?_ ?_
                   rotate_left
                   ·intro w'
                    go_simp
                    with_reducible rfl
                   rotate_left
                   ·simp only [Act.put,sAx10,sBx10,sCx10,i64_w,i32_w]
                    rfl
                   refine pure_ (i:=7) (N:=some 74) (v:=?_) (a':=?_) #[true,false,true,true,false,false,false,true,false,false,false,false,false,false,false,false,false,false,false,false,false,false] rfl rfl (any_of HT_.out (by kernel_rfl)) (fun _ _ _ h => h) (Or.inl ⟨by rfl,?_⟩) ?_ ?_
                   rotate_left
                   ·intro w'
                    go_simp
                    with_reducible rfl
                   rotate_left
                   ·simp only [Act.put,sAx10,sBx10,sCx10,i64_w,i32_w]
                    rfl
                   refine pure_ (i:=8) (N:=some 75) (v:=?_) (a':=?_) #[true,false,true,true,false,false,false,true,true,false,false,false,false,false,false,false,false,false,false,false,false,false] rfl rfl (any_of HT_.out (by kernel_rfl)) (fun _ _ _ h => h) (Or.inl ⟨by rfl,?_⟩) ?_ ?_
                   rotate_left
                   ·intro w'
                    go_simp
                    with_reducible rfl
                   rotate_left
                   ·simp only [Act.put,sAx10,sBx10,sCx10,i64_w,i32_w]
                    rfl
                   refine pure_ (i:=12) (N:=some 79) (v:=?_) (a':=?_) #[true,false,true,true,false,false,false,true,true,false,false,false,true,false,false,false,false,false,false,false,false,false] rfl rfl (any_of HT_.out (by kernel_rfl)) (fun _ _ _ h => h) (Or.inl ⟨by rfl,?_⟩) ?_ ?_
                   rotate_left
                   ·intro w'
                    go_simp
                    with_reducible rfl
                   rotate_left
                   ·simp only [Act.put,sAx10,sBx10,sCx10,i64_w,i32_w]
                    rfl
                   refine pure_ (i:=13) (N:=some 80) (v:=?_) (a':=?_) #[true,false,true,true,false,false,false,true,true,false,false,false,true,true,false,false,false,false,false,false,false,false] rfl rfl (any_of HT_.out (by kernel_rfl)) (fun _ _ _ h => h) (Or.inl ⟨by rfl,?_⟩) ?_ ?_
                   rotate_left
                   ·intro w'
                    go_simp
                    with_reducible rfl
                   rotate_left
                   ·simp only [Act.put,sAx10,sBx10,sCx10,i64_w,i32_w]
                    rfl
                   refine take_ (i:=1) (N:=some 68) (v:=?_) (a':=?_) #[true,true,true,true,false,false,false,true,true,false,false,false,true,true,false,false,false,false,false,false,false,false] rfl rfl (take_ofW HT_.out HW_.out (by kernel_rfl)) (fun _ _ _ h => h) (Or.inl ⟨by rfl,?_⟩) hHeld ?_ ?_
                   rotate_left
                   ·rintro w' ⟨s0,s1,s2,s3,s4,s5,s6,s7⟩
                    go_simp
                    with_reducible rfl
                   rotate_left
                   ·simp only [Act.put,sAx10,sBx10,sCx10,i64_w,i32_w]
                    rfl
                   refine take_ (i:=4) (N:=some 71) (v:=?_) (a':=?_) #[true,true,true,true,true,false,false,true,true,false,false,false,true,true,false,false,false,false,false,false,false,false] rfl rfl (take_ofW HT_.out HW_.out (by kernel_rfl)) (fun _ _ _ h => h) (Or.inl ⟨by rfl,?_⟩) hHeld ?_ ?_
                   rotate_left
                   ·rintro w' ⟨s0,s1,s2,s3,s4,s5,s6,s7⟩
                    go_simp
                    with_reducible rfl
                   rotate_left
                   ·simp only [Act.put,sAx10,sBx10,sCx10,i64_w,i32_w]
                    rfl
                   refine pure_ (i:=5) (N:=some 72) (v:=?_) (a':=?_) #[true,true,true,true,true,true,false,true,true,false,false,false,true,true,false,false,false,false,false,false,false,false] rfl rfl (any_of HT_.out (by kernel_rfl)) (fun _ _ _ h => h) (Or.inl ⟨by rfl,?_⟩) ?_ ?_
                   rotate_left
                   ·intro w'
                    go_simp
                    with_reducible rfl
                   rotate_left
                   ·simp only [Act.put,sAx10,sBx10,sCx10,i64_w,i32_w]
                    rfl
                   refine take_ (i:=6) (N:=some 73) (v:=?_) (a':=?_) #[true,true,true,true,true,true,true,true,true,false,false,false,true,true,false,false,false,false,false,false,false,false] rfl rfl (take_ofW HT_.out HW_.out (by kernel_rfl)) (fun _ _ _ h => h) (Or.inl ⟨by rfl,?_⟩) hHeld ?_ ?_
                   rotate_left
                   ·rintro w' ⟨s0,s1,s2,s3,s4,s5,s6,s7⟩
                    go_simp
                    with_reducible rfl
                   rotate_left
                   ·simp only [Act.put,sAx10,sBx10,sCx10,i64_w,i32_w]
                    rfl
                   refine take_ (i:=9) (N:=some 76) (v:=?_) (a':=?_) #[true,true,true,true,true,true,true,true,true,true,false,false,true,true,false,false,false,false,false,false,false,false] rfl rfl (take_ofW HT_.out HW_.out (by kernel_rfl)) (fun _ _ _ h => h) (Or.inl ⟨by rfl,?_⟩) hHeld ?_ ?_
                   rotate_left
                   ·rintro w' ⟨s0,s1,s2,s3,s4,s5,s6,s7⟩
                    go_simp
                    with_reducible rfl
                   rotate_left
                   ·simp only [Act.put,sAx10,sBx10,sCx10,i64_w,i32_w]
                    rfl
                   refine pure_ (i:=10) (N:=some 77) (v:=?_) (a':=?_) #[true,true,true,true,true,true,true,true,true,true,true,false,true,true,false,false,false,false,false,false,false,false] rfl rfl (any_of HT_.out (by kernel_rfl)) (fun _ _ _ h => h) (Or.inl ⟨by rfl,?_⟩) ?_ ?_
                   rotate_left
                   ·intro w'
                    go_simp
                    with_reducible rfl
                   rotate_left
                   ·simp only [Act.put,sAx10,sBx10,sCx10,i64_w,i32_w]
                    rfl
                   refine take_ (i:=11) (N:=some 78) (v:=?_) (a':=?_) #[true,true,true,true,true,true,true,true,true,true,true,true,true,true,false,false,false,false,false,false,false,false] rfl rfl (take_ofW HT_.out HW_.out (by kernel_rfl)) (fun _ _ _ h => h) (Or.inl ⟨by rfl,?_⟩) hHeld ?_ ?_
                   rotate_left
                   ·rintro w' ⟨s0,s1,s2,s3,s4,s5,s6,s7⟩
                    go_simp
                    with_reducible rfl
                   rotate_left
                   ·simp only [Act.put,sAx10,sBx10,sCx10,i64_w,i32_w]
                    rfl
                   refine take_ (i:=14) (N:=some 81) (v:=?_) (a':=?_) #[true,true,true,true,true,true,true,true,true,true,true,true,true,true,true,false,false,false,false,false,false,false] rfl rfl (take_ofW HT_.out HW_.out (by kernel_rfl)) (fun _ _ _ h => h) (Or.inl ⟨by rfl,?_⟩) hHeld ?_ ?_
                   rotate_left
                   ·rintro w' ⟨s0,s1,s2,s3,s4,s5,s6,s7⟩
                    go_simp
                    with_reducible rfl
                   rotate_left
                   ·simp only [Act.put,sAx10,sBx10,sCx10,i64_w,i32_w]
                    rfl
                   refine pure_ (i:=15) (N:=some 82) (v:=?_) (a':=?_) #[true,true,true,true,true,true,true,true,true,true,true,true,true,true,true,true,false,false,false,false,false,false] rfl rfl (any_of HT_.out (by kernel_rfl)) (fun _ _ _ h => h) (Or.inl ⟨by rfl,?_⟩) ?_ ?_
                   rotate_left
                   ·intro w'
                    go_simp
                    with_reducible rfl
                   rotate_left
                   ·simp only [Act.put,sAx10,sBx10,sCx10,i64_w,i32_w]
                    rfl
                   refine take_ (i:=16) (N:=some 83) (v:=?_) (a':=?_) #[true,true,true,true,true,true,true,true,true,true,true,true,true,true,true,true,true,false,false,false,false,false] rfl rfl (take_ofW HT_.out HW_.out (by kernel_rfl)) (fun _ _ _ h => h) (Or.inl ⟨by rfl,?_⟩) hHeld ?_ ?_
                   rotate_left
                   ·rintro w' ⟨s0,s1,s2,s3,s4,s5,s6,s7⟩
                    go_simp
                    with_reducible rfl
                   rotate_left
                   ·simp only [Act.put,sAx10,sBx10,sCx10,i64_w,i32_w]
                    rfl
                   refine pure_ (i:=17) (N:=some 84) (v:=?_) (a':=?_) #[true,true,true,true,true,true,true,true,true,true,true,true,true,true,true,true,true,true,false,false,false,false] rfl rfl (any_of HT_.out (by kernel_rfl)) (fun _ _ _ h => h) (Or.inl ⟨by rfl,?_⟩) ?_ ?_
                   rotate_left
                   ·intro w'
                    go_simp
                    with_reducible rfl
                   rotate_left
                   ·simp only [Act.put,sAx10,sBx10,sCx10,i64_w,i32_w]
                    rfl
                   refine one_ (i:=18) (N:=some 85) #[true,true,true,true,true,true,true,true,true,true,true,true,true,true,true,true,true,true,true,false,false,false] rfl rfl (one_of HT_.out (by kernel_rfl)) (by decide) (fun K hK => ?_)
                   refine value_ (w1:=?_) (v:=?_) (by rfl) rfl ?_ ?_
                   rotate_left 2
                   ·go_simp
                    constructor
                    ·rfl
                    ·rfl
                   refine hK.out _ _ ⟨(blk_cell (blk_alloc BK202.out _) 0).trans rfl,(blk_cell (blk_alloc BK202.out _) 1).trans rfl,(blk_cell (blk_alloc BK209.out _) 0).trans rfl,(blk_cell (blk_alloc BK209.out _) 1).trans rfl,(blk_cell (blk_alloc BK209.out _) 2).trans rfl,(World.cell?_alloc_lt _ _ _ (World.block_lt_of_cell? _ _ (((HB.out.cell (World.block_lt_of_cell? w _ hw210_0)).trans hw210_0)))).trans (((HB.out.cell (World.block_lt_of_cell? w _ hw210_0)).trans hw210_0)),(World.cell?_alloc_lt _ _ _ (World.block_lt_of_cell? _ _ (((HB.out.cell (World.block_lt_of_cell? w _ hw211_0)).trans hw211_0)))).trans (((HB.out.cell (World.block_lt_of_cell? w _ hw211_0)).trans hw211_0)),(World.cell?_alloc_lt _ _ _ (World.block_lt_of_cell? _ _ (((HB.out.cell (World.block_lt_of_cell? w _ hw212_0)).trans hw212_0)))).trans (((HB.out.cell (World.block_lt_of_cell? w _ hw212_0)).trans hw212_0))⟩ (fun hHeld => ?_)
                   clear hK K
                   refine norm_ (a':=?_) ?_ ?_
                   rotate_left
                   ·show Act.put _ (some 85) _ = _
                    simp only [Act.put,sAx10,sBx10,sCx10,i64_w,i32_w]
                    rfl
                   refine one_ (i:=19) (N:=some 86) #[true,true,true,true,true,true,true,true,true,true,true,true,true,true,true,true,true,true,true,true,false,false] rfl rfl (one_of HT_.out (by kernel_rfl)) (by decide) (fun K hK => ?_)
                   refine Kd.R_append_step k57 (w0:=w) w.heap.size (by rfl) (.tmp 68) (.tmp 85) 23 57 (.agg #[(.int .i64 0),(.int .i64 0),(.int .i64 0)]) 24 rfl Tryd.underlying23 info57 rfl (by decide) (by omega) u203001 x203001_3 (⟨rd l1 ((rd_T57 l0_1 x11_3).f0),rd l1 ((rd_T57 l0_1 x11_3).f1),rd l1 ((rd_T57 l0_1 x11_3).f2)⟩ : S57) [.int .i64 (rd l1 ((rd_T57 l0_1 x11_3).f0)),.int .i64 (rd l1 ((rd_T57 l0_1 x11_3).f1)),.int .i64 (rd l1 ((rd_T57 l0_1 x11_3).f2))] (fun k_ => k_ ≠ gb209) (fun _ => False) rfl rfl ?aP (fun _ hk => hk.elim) ?aF ?aO ?aB ?aS ?aL ?_
                   (case aP => exact k57_mkM _ _ _ (⟨rd l1 ((rd_T57 l0_1 x11_3).f0),rd l1 ((rd_T57 l0_1 x11_3).f1),rd l1 ((rd_T57 l0_1 x11_3).f2)⟩ : S57))
                   (case aB => exact (by repeat (first|(with_reducible first|exact HB.out|apply below_alloc|apply pw_below_drewN|apply below_drew1|refine below_set ?_ GE195.out|refine below_set ?_ GE196.out|refine below_set ?_ GE202.out|refine below_set ?_ GE209.out)|exact HB.out)))
                   (case aF => exact (fun k_ hk => Kd.freshB (g:=gb209) (o:=.cells #[.int .i64 ((rd_T57 l0_1 x11_3).f0),.int .i64 ((rd_T57 l0_1 x11_3).f1),.int .i64 ((rd_T57 l0_1 x11_3).f2)] 57 (0,0)) (by (with_reducible repeat (first|refine blk_drewN ?_ _|refine blk_drew ?_|refine blk_alloc ?_ _));exact BK209.out) k_ hk))
                   (case aO => exact (by (with_reducible repeat (first|apply Kd.R_alloc|apply Kd.R_drewN|apply Kd.R_drew));exact HO_203001.out))
                   (case aS => exact (below_size (by repeat (first|(with_reducible first|exact HB.out|apply below_alloc|apply pw_below_drewN|apply below_drew1|refine below_set ?_ GE195.out|refine below_set ?_ GE196.out|refine below_set ?_ GE202.out|refine below_set ?_ GE209.out)|exact HB.out))))
                   (case aL => have:=LMc42.out;omega)
                   intro v214 w53 ho hb hg hat
                   rw [← Ny213.out] at ho
                   have n0_:=aMx10 (Kd.R_over' (by (with_reducible repeat (first | apply Kd.R_alloc | apply Kd.R_drewN | apply Kd.R_drew));exact HO_203000.out) (Kd.R_typed (by (with_reducible repeat (first | apply Kd.R_alloc | apply Kd.R_drewN | apply Kd.R_drew));exact HO_203001.out)) (by decide) hg)
                   have n1_:=aMx10 (blk_grown (g:=gb195) (o:=.cells #[.slice A0_0 l0_0.length c0_0,.slice (some ad208) l0_1.length c0_1] 25 (0,0)) (by (with_reducible repeat (first | refine blk_drewN ?_ _ | refine blk_drew ?_ | refine blk_alloc ?_ _));exact BK195.out) hg (Kd.R_ne HO_203001.out BK195.out (by decide)))
                   have n2_:=aMx10 (blk_grown (g:=gb196) (o:=.cells #[.slice none 0 0,.slice none 0 0] 25 (0,0)) (by (with_reducible repeat (first | refine blk_drewN ?_ _ | refine blk_drew ?_ | refine blk_alloc ?_ _));exact BK196.out) hg (Kd.R_ne HO_203001.out BK196.out (by decide)))
                   have n3_:=aMx10 (blk_grown (g:=gb202) (o:=.cells #[u203000,u203001] 25 (0,0)) (by (with_reducible repeat (first | refine blk_drewN ?_ _ | refine blk_drew ?_ | refine blk_alloc ?_ _));exact BK202.out) hg (Kd.R_ne HO_203001.out BK202.out (by decide)))
                   have n4_:=aMx10 (blk_grown (g:=gb209) (o:=.cells #[.int .i64 ((rd_T57 l0_1 x11_3).f0),.int .i64 ((rd_T57 l0_1 x11_3).f1),.int .i64 ((rd_T57 l0_1 x11_3).f2)] 57 (0,0)) (by (with_reducible repeat (first | refine blk_drewN ?_ _ | refine blk_drew ?_ | refine blk_alloc ?_ _));exact BK209.out) hg (Kd.R_away HO_203001.out (fun _ hk => hk)))
                   have n5_:=aMx10 (hb)
                   have n6_:=aMx10 (ho)
                   clear HO_203000
                   clear BK195
                   clear BK196
                   clear BK202
                   clear BK209
                   clear HB
                   clear HO_203001
                   have HO_203000:=n0_
                   have BK195:=n1_
                   have BK196:=n2_
                   have BK202:=n3_
                   have BK209:=n4_
                   have HB:=n5_
                   have HO215:=n6_
                   clear n0_ n1_ n2_ n3_ n4_ n5_ n6_
                   clear ho hb hg hat
                   obtain ⟨Ao54,co54,eo54⟩:=Kd.R_slice HO215.out
                   (first | subst eo54 | (injection eo54 with f1_ f2_ f3_;have f4_:=f1_.symm;have f5_:=f3_.symm;clear f1_ f2_ f3_;subst f4_;subst f5_))
                   refine hK.out _ _ ⟨(blk_cell BK202.out 0).trans rfl,(blk_cell BK202.out 1).trans rfl,(blk_cell BK209.out 0).trans rfl,(blk_cell BK209.out 1).trans rfl,(blk_cell BK209.out 2).trans rfl,((HB.out.cell (World.block_lt_of_cell? w _ hw210_0)).trans hw210_0),((HB.out.cell (World.block_lt_of_cell? w _ hw211_0)).trans hw211_0),((HB.out.cell (World.block_lt_of_cell? w _ hw212_0)).trans hw212_0)⟩ (fun hHeld => ?_)
                   clear hK K
                   refine norm_ (a':=?_) ?_ ?_
                   rotate_left
                   ·show Act.put _ (some 86) _ = _
                    simp only [Act.put,sAx10,sBx10,sCx10,i64_w,i32_w]
                    rfl
                   refine pure_ (i:=20) (N:=some 87) (v:=?_) (a':=?_) #[true,true,true,true,true,true,true,true,true,true,true,true,true,true,true,true,true,true,true,true,true,false] rfl rfl (any_of HT_.out (by kernel_rfl)) (fun _ _ _ h => h) (Or.inl ⟨by rfl,?_⟩) ?_ ?_
                   rotate_left
                   ·intro w'
                    go_simp
                    with_reducible rfl
                   rotate_left
                   ·simp only [Act.put,sAx10,sBx10,sCx10,i64_w,i32_w]
                    rfl
                   refine last_ (i:=21) (N:=none) #[true,true,true,true,true,true,true,true,true,true,true,true,true,true,true,true,true,true,true,true,true,true] rfl rfl (one_of HT_.out (by kernel_rfl)) (by decide) (fun K hK => ?_)
                   have hs55 : w53.cell? ⟨gb202,1,none⟩ = some (u203001):=(blk_cell BK202.out 1).trans rfl
                   have hfs55:=blk_frozen BK202.out 1
                   have hns55_0:=NB195_202.out
                   have hns55_1:=NB196_202.out
                   have hns55_3:=NB209_202.out
                   have hms55_0:=NB202_195.out
                   have hms55_1:=NB202_196.out
                   have hms55_3:=NB202_209.out
                   refine skip_ (w1:=?_) (by rfl) rfl ?_ ?_
                   rotate_left
                   ·go_simp
                    rfl
                   refine hK.out _ _ ?_
                   clear hK K
                   refine done_ (done_of HT_.out (by kernel_rfl)) ?_
                   try go_wp2
                   go_roundg k3
                   case measure => have:=HJ5.out;have:=HK2.out;have:=HK3.out;omega
                   case rel => exact ⟨(wrap64 (x11_3+1)),(y213),(.slice Ao54 y213.length co54),(by first | rfl | (simp;done) | (simp [*];done) | (simp [wrap64];done)),H',⟨by have:=HJ5.out;have:=HK2.out;have:=HK3.out;omega⟩,⟨by (with_reducible repeat (first | apply Kd.R_alloc | apply Kd.R_drewN | apply Kd.R_drew));exact Kd.R_mono (Kd.R_far (p:=⟨gb202,1,none⟩) (Kd.R_types HO_203000.out BK202.out (by decide)) (fun _ hk => hk.2) (.slice Ao54 y213.length co54)) (fun _ hk => trivial)⟩,⟨by (with_reducible repeat (first | apply Kd.R_alloc | apply Kd.R_drewN | apply Kd.R_drew));exact Kd.R_mono (Kd.R_far (p:=⟨gb202,1,none⟩) (Kd.R_types HO215.out BK202.out (by decide)) (fun _ hk => hk.2) (.slice Ao54 y213.length co54)) (fun _ hk => trivial)⟩,⟨by (with_reducible repeat (first | refine blk_drewN ?_ _ | refine blk_drew ?_ | refine blk_alloc ?_ _));refine blk_far ?_ NB195_202.out _;(with_reducible repeat (first | refine blk_drewN ?_ _ | refine blk_drew ?_ | refine blk_alloc ?_ _));exact BK195.out⟩,⟨by (with_reducible repeat (first | refine blk_drewN ?_ _ | refine blk_drew ?_ | refine blk_alloc ?_ _));refine blk_far ?_ NB196_202.out _;(with_reducible repeat (first | refine blk_drewN ?_ _ | refine blk_drew ?_ | refine blk_alloc ?_ _));exact BK196.out⟩,⟨by (with_reducible repeat (first | refine blk_drewN ?_ _ | refine blk_drew ?_ | refine blk_alloc ?_ _));refine blk_put (cs:=#[u203000,u203001]) ?_ 1 _ rfl;(with_reducible repeat (first | refine blk_drewN ?_ _ | refine blk_drew ?_ | refine blk_alloc ?_ _));exact BK202.out⟩,⟨by repeat (first | (with_reducible first | exact HB.out | apply below_alloc | apply pw_below_drewN | apply below_drew1 | refine below_set ?_ GE195.out | refine below_set ?_ GE196.out | refine below_set ?_ GE202.out | refine below_set ?_ GE209.out) | exact HB.out)⟩⟩
                  ·rw [if_neg c42] at H
                   exact absurd H (by simp)
                 ·rw [if_neg c41] at H
                  exact absurd H (by simp)
                ·rw [if_neg c40] at H
                 exact absurd H (by simp)
               ·rw [if_neg c39] at H
                exact absurd H (by simp)
              ·rw [if_neg c38] at H
               exact absurd H (by simp)
             ·rw [if_neg c37] at H
              exact absurd H (by simp)
            ·rw [if_neg c36] at H
             exact absurd H (by simp)
           ·rw [if_neg c35] at H
            exact absurd H (by simp)
          ·rw [if_neg c34] at H
           have c34b0 : decide (x11_3 < (l0_1.length : Int)) = false:=decide_eq_false c34
           clear c34
           simp only [Option.some.injEq,Prod.mk.injEq] at H
           obtain ⟨rfl,rfl,rfl⟩:=H
           have hnb56:=NB195_196.out
           have hnc56:=NB196_195.out
           have hnb57:=NB195_202.out
           have hnc57:=NB202_195.out
           have hcz58_0 : wr.cell? ⟨gb195,0,none⟩ = some (.slice A0_0 l0_0.length c0_0):=(blk_cell BK195.out 0).trans rfl
           have hcz58_1 : wr.cell? ⟨gb195,1,none⟩ = some (.slice A0_1 l0_1.length c0_1):=(blk_cell BK195.out 1).trans rfl
           have hfz58_0:=blk_frozen BK195.out 0
           have hfz58_1:=blk_frozen BK195.out 1
           have hnb59:=NB202_196.out
           have hnc59:=NB196_202.out
           have hcz60_0 : wr.cell? ⟨gb202,0,none⟩ = some (u203000):=(blk_cell BK202.out 0).trans rfl
           have hcz60_1 : wr.cell? ⟨gb202,1,none⟩ = some (u203001):=(blk_cell BK202.out 1).trans rfl
           have hfz60_0:=blk_frozen BK202.out 0
           have hfz60_1:=blk_frozen BK202.out 1
           obtain ⟨Ao61,co61,eo61⟩:=Kd.R_slice HO_203000.out
           subst eo61
           have hcz62_0 : wr.cell? ⟨gb196,0,none⟩ = some (.slice none 0 0):=(blk_cell BK196.out 0).trans rfl
           have hcz62_1 : wr.cell? ⟨gb196,1,none⟩ = some (.slice none 0 0):=(blk_cell BK196.out 1).trans rfl
           have hfz62_0:=blk_frozen BK196.out 0
           have hfz62_1:=blk_frozen BK196.out 1
           obtain ⟨Ao63,co63,eo63⟩:=Kd.R_slice HO_203001.out
           subst eo63
           go_wp2
           refine bodyPost_ret (results_ct rfl _ _ gb196 25 #[.slice Ao61 x203000_2.length co61,.slice Ao63 x203001_3.length co63] (0,0) _ rfl (by (with_reducible repeat (first | refine blk_drewN ?_ _ | refine blk_drew ?_ | refine blk_alloc ?_ _));refine blk_put (cs:=#[.slice Ao61 x203000_2.length co61,.slice none 0 0]) ?_ 1 _ rfl;(with_reducible repeat (first | refine blk_drewN ?_ _ | refine blk_drew ?_ | refine blk_alloc ?_ _));refine blk_put (cs:=#[.slice none 0 0,.slice none 0 0]) ?_ 0 _ rfl;(with_reducible repeat (first | refine blk_drewN ?_ _ | refine blk_drew ?_ | refine blk_alloc ?_ _));exact BK196.out) Tryd.underlying25 rfl (by kernel_rfl)) rfl ?_
           exact ⟨_,_,by first | rfl | (simp [errW_none,errW_some]<;>rfl) | (simp [*,errW_none,errW_some]<;>rfl),by (with_reducible repeat (first | apply Kd.R_alloc | apply Kd.R_drewN | apply Kd.R_drew));exact Kd.R_mono (Kd.R_far (p:=⟨gb196,1,none⟩) (Kd.R_far (p:=⟨gb196,0,none⟩) (Kd.R_types HO_203000.out BK196.out (by decide)) (fun _ hk => hk.2) (.slice Ao61 x203000_2.length co61)) (fun _ hk => hk.2) (.slice Ao63 x203001_3.length co63)) (fun _ hk => trivial),by (with_reducible repeat (first | apply Kd.R_alloc | apply Kd.R_drewN | apply Kd.R_drew));exact Kd.R_mono (Kd.R_far (p:=⟨gb196,1,none⟩) (Kd.R_far (p:=⟨gb196,0,none⟩) (Kd.R_types HO_203001.out BK196.out (by decide)) (fun _ hk => hk.2) (.slice Ao61 x203000_2.length co61)) (fun _ hk => hk.2) (.slice Ao63 x203001_3.length co63)) (fun _ hk => trivial),by repeat (first | (with_reducible first | exact HB.out | apply below_alloc | apply pw_below_drewN | apply below_drew1 | refine below_set ?_ GE195.out | refine below_set ?_ GE196.out | refine below_set ?_ GE202.out) | exact HB.out)⟩
 ·rw [if_neg c4] at H
  have c4b0 : (t197 == 0) = false:=beq_eq_false_iff_ne.mpr c4
  have c4b1 : (t197 != 0) = true:=bne_iff_ne.mpr c4
  simp only [Option.some.injEq,Prod.mk.injEq] at H
  obtain ⟨rfl,rfl,rfl⟩:=H
  go_enter Tryd.func14,Tryd.ntmps14
  go_wp2_with (first|((with_reducible refine gate_dst (N:=2) rfl ?_);(try (refine gate_guard (by rfl) ?_;dsimp only));refine box_event ?hg (N:=2) ?hd (cs:=#[.slice A0_0 l0_0.length c0_0,.slice A0_1 l0_1.length c0_1]) (t:=25) ?hr ?_;(case hd => rfl);(case hg => rfl);(case hr => first|(go_simp;done)|(go_simp;rfl));intro gb195 hg w64 hbox hb;have n0_:=aMx10 (below_step (by repeat (with_reducible first|exact HB.out|apply below_alloc|apply pw_below_drewN|apply below_drew1)) hb);have n1_:=aMx10 (hbox);have n2_:=aMx10 ((by rw [hg];exact (below_size (by repeat (with_reducible first|exact HB.out|apply below_alloc|apply pw_below_drewN|apply below_drew1))) : w.heap.size ≤ gb195));have n3_:=aMx10 ((by rw [hg];exact (below_size (by repeat (with_reducible first|exact HB.out|apply below_alloc|apply pw_below_drewN|apply below_drew1))) : w.heap.size ≤ gb195));clear HB;have HB:=n0_;have BK195:=n1_;have GW195:=n2_;have GE195:=n3_;clear n0_ n1_ n2_ n3_;clear hb hbox hg)|((with_reducible refine gate_dst (N:=4) rfl ?_);(try (refine gate_guard (by rfl) ?_;dsimp only));refine box_event ?hg (N:=4) ?hd (cs:=#[.slice none 0 0,.slice none 0 0]) (t:=25) ?hr ?_;(case hd => rfl);(case hg => rfl);(case hr => first|(go_simp;done)|(go_simp;rfl));intro gb196 hg w65 hbox hb;have n0_:=aMx10 (blk_below (g:=gb195) (o:=.cells #[.slice A0_0 l0_0.length c0_0,.slice A0_1 l0_1.length c0_1] 25 (0,0)) (by (with_reducible repeat (first|refine blk_drewN ?_ _|refine blk_drew ?_|refine blk_alloc ?_ _));exact BK195.out) hb);have n1_:=aMx10 (below_step (by repeat (first|(with_reducible first|exact HB.out|apply below_alloc|apply pw_below_drewN|apply below_drew1|refine below_set ?_ GE195.out)|exact HB.out)) hb);have n2_:=aMx10 (hbox);have n3_:=aMx10 ((by rw [hg];exact (below_size (by repeat (first|(with_reducible first|exact HB.out|apply below_alloc|apply pw_below_drewN|apply below_drew1|refine below_set ?_ GE195.out)|exact HB.out))) : w.heap.size ≤ gb196));have n4_:=aMx10 ((by rw [hg];exact (below_size (by repeat (first|(with_reducible first|exact HB.out|apply below_alloc|apply pw_below_drewN|apply below_drew1|refine below_set ?_ GE195.out)|exact HB.out))) : w.heap.size ≤ gb196));have n5_:=aMx10 ((by rw [hg];exact Nat.ne_of_lt (blk_lt (g:=gb195) (o:=.cells #[.slice A0_0 l0_0.length c0_0,.slice A0_1 l0_1.length c0_1] 25 (0,0)) (by (with_reducible repeat (first|refine blk_drewN ?_ _|refine blk_drew ?_|refine blk_alloc ?_ _));exact BK195.out)) : gb195 ≠ gb196));have n6_:=aMx10 ((by rw [hg];exact Nat.ne_of_gt (blk_lt (g:=gb195) (o:=.cells #[.slice A0_0 l0_0.length c0_0,.slice A0_1 l0_1.length c0_1] 25 (0,0)) (by (with_reducible repeat (first|refine blk_drewN ?_ _|refine blk_drew ?_|refine blk_alloc ?_ _));exact BK195.out)) : gb196 ≠ gb195));clear BK195;clear HB;have BK195:=n0_;have HB:=n1_;have BK196:=n2_;have GW196:=n3_;have GE196:=n4_;have NB195_196:=n5_;have NB196_195:=n6_;clear n0_ n1_ n2_ n3_ n4_ n5_ n6_;clear hb hbox hg;have hnb66:=NB195_196.out;have hnc66:=NB196_195.out;have hcz67_0 : w65.cell? ⟨gb195,0,none⟩ = some (.slice A0_0 l0_0.length c0_0):=(blk_cell BK195.out 0).trans rfl;have hcz67_1 : w65.cell? ⟨gb195,1,none⟩ = some (.slice A0_1 l0_1.length c0_1):=(blk_cell BK195.out 1).trans rfl;have hfz67_0:=blk_frozen BK195.out 0;have hfz67_1:=blk_frozen BK195.out 1)|((with_reducible refine gate_callee (f:=21) rfl ?_);refine goesL_ (some 14) rfl rfl Tryd.func21 (by kernel_rfl) rfl #[.agg #[.slice A0_0 l0_0.length c0_0,.slice A0_1 l0_1.length c0_1]] rfl (by (try simp only [List.map_toArray,List.map_cons,List.map_nil]);first|done|rfl|(simp only [List.length_drop,List.length_take];rfl)) ?_;(with_reducible refine (lapidaryref10_Check.calls k _ _ l0_0 _ _ l0_1 t197 _ ?side1 ?side2 ?side3 ?side4 A3.out).mono ?_);(case side1 => repeat (first|exact (Kd.C_below HR0_0.out HB.out)|(with_reducible first|refine Kd.C_alloc ?_ _|refine Kd.C_drewN ?_ _|refine Kd.C_drew ?_)));(case side2 => exact HC0_0.out);(case side3 => repeat (first|exact (Kd.C_below HR0_1.out HB.out)|(with_reducible first|refine Kd.C_alloc ?_ _|refine Kd.C_drewN ?_ _|refine Kd.C_drew ?_)));(case side4 => exact HC0_1.out);rintro e w68 ⟨rfl,hb⟩;refine ⟨_,rfl,?_⟩;have n0_:=aMx10 (blk_below (g:=gb195) (o:=.cells #[.slice A0_0 l0_0.length c0_0,.slice A0_1 l0_1.length c0_1] 25 (0,0)) (by (with_reducible repeat (first|refine blk_drewN ?_ _|refine blk_drew ?_|refine blk_alloc ?_ _));exact BK195.out) hb);have n1_:=aMx10 (blk_below (g:=gb196) (o:=.cells #[.slice none 0 0,.slice none 0 0] 25 (0,0)) (by (with_reducible repeat (first|refine blk_drewN ?_ _|refine blk_drew ?_|refine blk_alloc ?_ _));exact BK196.out) hb);have n2_:=aMx10 (below_step (by repeat (first|(with_reducible first|exact HB.out|apply below_alloc|apply pw_below_drewN|apply below_drew1|refine below_set ?_ GE195.out|refine below_set ?_ GE196.out)|exact HB.out)) hb);clear BK195;clear BK196;clear HB;have BK195:=n0_;have BK196:=n1_;have HB:=n2_;clear n0_ n1_ n2_;(try clear hb);(try clear hb2);(try clear hk);(try clear hi);have hcz69_0 : w68.cell? ⟨gb196,0,none⟩ = some (.slice none 0 0):=(blk_cell BK196.out 0).trans rfl;have hcz69_1 : w68.cell? ⟨gb196,1,none⟩ = some (.slice none 0 0):=(blk_cell BK196.out 1).trans rfl;have hfz69_0:=blk_frozen BK196.out 0;have hfz69_1:=blk_frozen BK196.out 1))
  refine bodyPost_ret (results_ct rfl _ _ gb196 25 #[.slice none 0 0,.slice none 0 0] (0,0) _ rfl (by (with_reducible repeat (first | refine blk_drewN ?_ _ | refine blk_drew ?_ | refine blk_alloc ?_ _));refine blk_put (cs:=#[.slice none 0 0,.slice none 0 0]) ?_ 1 _ rfl;(with_reducible repeat (first | refine blk_drewN ?_ _ | refine blk_drew ?_ | refine blk_alloc ?_ _));refine blk_put (cs:=#[.slice none 0 0,.slice none 0 0]) ?_ 0 _ rfl;(with_reducible repeat (first | refine blk_drewN ?_ _ | refine blk_drew ?_ | refine blk_alloc ?_ _));exact BK196.out) Tryd.underlying25 rfl (by kernel_rfl)) rfl ?_
  exact ⟨_,_,by first | rfl | (simp [errW_none,errW_some]<;>rfl) | (simp [*,errW_none,errW_some]<;>rfl),by first | exact Kd.R_nil _ _ _ _ _ | exact Kd.N_nil _ _ _ _ _ | exact Kd.V_nil _ _ _ _ _ | exact Kd.Q_nil _ _ _ _ _ | exact Kd.S_nil _ _ _ _ _,by first | exact Kd.R_nil _ _ _ _ _ | exact Kd.N_nil _ _ _ _ _ | exact Kd.V_nil _ _ _ _ _ | exact Kd.Q_nil _ _ _ _ _ | exact Kd.S_nil _ _ _ _ _,by repeat (first | (with_reducible first | exact HB.out | apply below_alloc | apply pw_below_drewN | apply below_drew1 | refine below_set ?_ GE195.out | refine below_set ?_ GE196.out) | exact HB.out)⟩
end Go.Proofs.YtbdpfmpbooikiaaDoor.PIsr
