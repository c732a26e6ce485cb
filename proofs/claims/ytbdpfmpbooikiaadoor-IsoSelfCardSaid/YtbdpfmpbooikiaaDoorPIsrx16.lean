import Derived.Test.YtbdpfmpbooikiaaDoorPIsrx0
import Derived.Test.YtbdpfmpbooikiaaDoorPIsrx1
import Derived.Test.YtbdpfmpbooikiaaDoorPIsrx3
import Derived.Test.YtbdpfmpbooikiaaDoorPIsrx9
import Derived.Test.YtbdpfmpbooikiaaDoorIsoStub
import Derived.Test.YtbdpfmpbooikiaaDoorIsStub
namespace Go.Proofs.YtbdpfmpbooikiaaDoor.PIsr
open Go Go.RowKit Go.Proofs.YtbdpfmpbooikiaaDoorW.PrintWords Go.Proofs.YtbdpfmpbooikiaaDoorW.PrintLast Go.Proofs.YtbdpfmpbooikiaaDoorW.PrintMore
attribute [local go_sem] max2_int min2_int max_two min_two max_three min_three max_four min_four
set_option linter.unusedVariables false
set_option linter.unusedSimpArgs false
attribute [local go_sem high] eqA45
attribute [local go_sem] idx57_0_0 idx57_1_0 idx57_2_0 idx86_0_0 idx86_1_0
theorem bcx16 {w : World} {g : Nat} {cs : Array Value} {t : TypeId} {v : Value} (h : w.heap[g]? = some (.cells cs t (0, 0))) (i : Nat) (hv : cs[i]? = some v) : w.cell? ⟨g, i, none⟩ = some v := (blk_cell h i).trans hv
theorem sAx16 {α : Type _} {l : List α} {i : Nat} {a : α} : l.toArray.setIfInBounds i a = (l.set i a).toArray := List.setIfInBounds_toArray ..
theorem sBx16 {α : Type _} {x y : α} {l : List α} : (x :: l).set 0 y = y :: l := rfl
theorem sCx16 {α : Type _} {x y : α} {l : List α} {i : Nat} : (x :: l).set (i + 1) y = x :: l.set i y := rfl
theorem aMx16 {p : Prop} (h : p) : Aside0 p := ⟨h⟩
mutual
noncomputable def lapidarylaw13_IsoSelf.j0 : Nat → Int → Bool → List (S45) → List (S57) → Option (Bool)
  | 0, _, _, _, _ => none
  | k + 1, x1, x15, x192000, x192001 => if x15 = true then ((lapidarylaw13_known.f).bind fun t194 => (some t194)) else (lapidarylaw13_IsoSelf.l0 k x1 ([] : List Int) 0 x192000 x192001)
noncomputable def lapidarylaw13_IsoSelf.l0 : Nat → Int → List Int → Int → List (S45) → List (S57) → Option (Bool)
  | 0, _, _, _, _, _ => none
  | k + 1, x1, x5, x6, x192000, x192001 => if x6 < (x192000.length : Int) then (if x5.length < 17592186044416 then (lapidarylaw13_IsoSelf.l0 k x1 (x5 ++ [x6]) (wrap64 (x6 + 1)) x192000 x192001) else (none)) else ((iso_Is.f x192000 x192001 x192000 x192001 x5).bind fun t198 => (if t198 = true then (if (x192001.length : Int) = 0 then ((lapidarylaw13_known.f).bind fun t199 => (some t199)) else (if ([] : List (S45)).length + x192000.length < 5864062014805 then ((some (([] : List (S45)) ++ x192000 : List (S45))).bind fun y200 => (if (y200.length : Int) = 0 then (none) else (if 0 ≤ (Int.tmod (wrap64 (x1)) (y200.length : Int)) then (if (Int.tmod (wrap64 (x1)) (y200.length : Int)) < (y200.length : Int) then ((some (y200.set ((Int.tmod (wrap64 (x1)) (y200.length : Int)) : Int).toNat (⟨(rd_T45 y200 (Int.tmod (wrap64 (x1)) (y200.length : Int))).f0, (rd_T45 y200 (Int.tmod (wrap64 (x1)) (y200.length : Int))).f1, wrap64 (Int.tdiv ((rd_T45 y200 (Int.tmod (wrap64 (x1)) (y200.length : Int))).f2) 2)⟩ : S45) : List (S45))).bind fun y204 => (if (Int.tmod (wrap64 (x1)) (y200.length : Int)) < (x192000.length : Int) then (if (((rd_T45 y204 (Int.tmod (wrap64 (x1)) (y200.length : Int))).f0) == ((rd_T45 x192000 (Int.tmod (wrap64 (x1)) (y200.length : Int))).f0) && (((rd_T45 y204 (Int.tmod (wrap64 (x1)) (y200.length : Int))).f1) == ((rd_T45 x192000 (Int.tmod (wrap64 (x1)) (y200.length : Int))).f1) && (((rd_T45 y204 (Int.tmod (wrap64 (x1)) (y200.length : Int))).f2) == ((rd_T45 x192000 (Int.tmod (wrap64 (x1)) (y200.length : Int))).f2)))) = true then ((some (y204.set ((Int.tmod (wrap64 (x1)) (y200.length : Int)) : Int).toNat (⟨(rd_T45 y204 (Int.tmod (wrap64 (x1)) (y200.length : Int))).f0, (rd_T45 y204 (Int.tmod (wrap64 (x1)) (y200.length : Int))).f1, 1⟩ : S45) : List (S45))).bind fun y207 => ((iso_Is.f x192000 x192001 y207 x192001 x5).bind fun t208 => (if (t208 == (((rd_T45 y207 (Int.tmod (wrap64 (x1)) (y200.length : Int))).f0) == ((rd_T45 x192000 (Int.tmod (wrap64 (x1)) (y200.length : Int))).f0) && (((rd_T45 y207 (Int.tmod (wrap64 (x1)) (y200.length : Int))).f1) == ((rd_T45 x192000 (Int.tmod (wrap64 (x1)) (y200.length : Int))).f1) && (((rd_T45 y207 (Int.tmod (wrap64 (x1)) (y200.length : Int))).f2) == ((rd_T45 x192000 (Int.tmod (wrap64 (x1)) (y200.length : Int))).f2))))) = true then (if 1 ≤ (x192001.length : Int) then ((iso_Is.f x192000 x192001 x192000 (x192001.drop 1) x5).bind fun t215 => (if t215 = true then (some false) else ((lapidarylaw13_known.f).bind fun t216 => (some t216)))) else (none)) else (some false)))) else ((iso_Is.f x192000 x192001 y204 x192001 x5).bind fun t217 => (if (t217 == (((rd_T45 y204 (Int.tmod (wrap64 (x1)) (y200.length : Int))).f0) == ((rd_T45 x192000 (Int.tmod (wrap64 (x1)) (y200.length : Int))).f0) && (((rd_T45 y204 (Int.tmod (wrap64 (x1)) (y200.length : Int))).f1) == ((rd_T45 x192000 (Int.tmod (wrap64 (x1)) (y200.length : Int))).f1) && (((rd_T45 y204 (Int.tmod (wrap64 (x1)) (y200.length : Int))).f2) == ((rd_T45 x192000 (Int.tmod (wrap64 (x1)) (y200.length : Int))).f2))))) = true then (if 1 ≤ (x192001.length : Int) then ((iso_Is.f x192000 x192001 x192000 (x192001.drop 1) x5).bind fun t224 => (if t224 = true then (some false) else ((lapidarylaw13_known.f).bind fun t225 => (some t225)))) else (none)) else (some false)))) else (none))) else (none)) else (none)))) else (none))) else (some false)))
end
noncomputable def lapidarylaw13_IsoSelf.f (k : Nat) (l0_0 : List (S45)) (l0_1 : List (S57)) (a1 : Int) : Option (Bool) := (lapidarylaw13_long.f l0_0 l0_1).bind fun t192 => (if t192 = true then (lapidarylaw13_IsoSelf.j0 k a1 true l0_0 l0_1) else ((lapidaryref10_Check.f k l0_0 l0_1).bind fun t193 => (lapidarylaw13_IsoSelf.j0 k a1 (t193 != 0) l0_0 l0_1)))
def lapidarylaw13_IsoSelf.T16 : Bool × List (List Nat × List Nat) := (true, [([], []), ([], []), ([0, 1], [0, 1]), ([2], [2]), ([], []), ([4], [4]), ([], []), ([5, 6], [5, 6]), ([7], [7]), ([3, 8], [3, 8])])
def lapidarylaw13_IsoSelf.B16 : List Nat := [0, 0, 3, 7, 0, 16, 0, 112, 240, 511]
theorem lapidarylaw13_IsoSelf.tab16 : rtab .any (opsOf Tryd.f6 16) = lapidarylaw13_IsoSelf.T16 := by kernel_rfl
theorem lapidarylaw13_IsoSelf.bits16 : waitsOk lapidarylaw13_IsoSelf.T16.2 lapidarylaw13_IsoSelf.B16 = true := by kernel_rfl
def lapidarylaw13_IsoSelf.T18 : Bool × List (List Nat × List Nat) := (true, [([], []), ([], []), ([], []), ([2], [2]), ([1, 3], [1, 3]), ([], []), ([0, 4, 5], [0, 4, 5]), ([], []), ([], []), ([7, 8], [7, 8]), ([9], [9]), ([], []), ([11], [11]), ([], []), ([12, 13], [12, 13]), ([14], [14]), ([10, 15], [10, 15]), ([6, 16], [6, 16]), ([17, 6], [17]), ([18], [18]), ([18], [18]), ([20, 18], [18, 20]), ([18], [18]), ([22, 18], [18, 22]), ([23, 18], [18, 23]), ([21, 24, 18], [18, 21, 24]), ([18], [18]), ([19, 25, 26, 18, 18], [18, 19, 25, 26]), ([27, 18], [18, 27]), ([18, 28], [18, 28]), ([29, 27], [29]), ([30, 30], [30]), ([30, 31], [30, 31]), ([32, 31, 0, 1, 2, 3, 4, 5, 6, 7, 8, 9, 10, 11, 12, 13, 14, 15, 16, 17, 18, 19, 20, 21, 22, 23, 24, 25, 26, 27, 28, 29, 30, 31, 32], [32])])
def lapidarylaw13_IsoSelf.B18 : List Nat := [0, 0, 0, 4, 14, 0, 63, 0, 0, 384, 896, 0, 2048, 0, 14336, 30720, 65408, 131071, 262143, 524287, 524287, 1572863, 524287, 4718591, 13107199, 33030143, 524287, 134217727, 268435455, 536870911, 1073741823, 2147483647, 4294967295, 8589934591]
theorem lapidarylaw13_IsoSelf.tab18 : rtab .any (opsOf Tryd.f6 18) = lapidarylaw13_IsoSelf.T18 := by kernel_rfl
theorem lapidarylaw13_IsoSelf.bits18 : waitsOk lapidarylaw13_IsoSelf.T18.2 lapidarylaw13_IsoSelf.B18 = true := by kernel_rfl
set_option maxHeartbeats 8000000 in
set_option maxRecDepth 100000 in
theorem lapidarylaw13_IsoSelf.calls (k : Nat) (A0_0 : Option Addr) (c0_0 : Nat) (l0_0 : List (S45)) (A0_1 : Option Addr) (c0_1 : Nat) (l0_1 : List (S57)) (a1 : Int) (r : Bool) (w : World) (hr0_0 : Kd.C k45 w A0_0 l0_0.length l0_0) (hc0_0 : l0_0.length ≤ c0_0) (hr0_1 : Kd.C k57 w A0_1 l0_1.length l0_1) (hc0_1 : l0_1.length ≤ c0_1) (hG : Kd.C k57 w (some ⟨0, 0, none⟩) 1 [⟨1, 2, 0⟩]) (hrt : r = true) (h : lapidarylaw13_IsoSelf.f k l0_0 l0_1 a1 = some r) :
  Calls Tryd.prog 6 #[.agg #[.slice A0_0 l0_0.length c0_0,.slice A0_1 l0_1.length c0_1],.int .u8 a1] w fun e w' => e = .returned (.bool r) ∧ Below w.heap.size w w':=by
 have HRT:=aMx16 hrt
 clear hrt
 have HG:=aMx16 hG
 clear hG
 have hu25:=Tryd.underlying25
 have hu45:=Tryd.underlying45
 have HR0_0:=aMx16 hr0_0
 have HC0_0:=aMx16 hc0_0
 clear hr0_0 hc0_0
 have HR0_1:=aMx16 hr0_1
 have HC0_1:=aMx16 hc0_1
 clear hr0_1 hc0_1
 have HB:=aMx16 (Below.refl w.heap.size w)
 have H : ((lapidarylaw13_long.f l0_0 l0_1).bind fun t192 => (if t192 = true then (lapidarylaw13_IsoSelf.j0 k a1 true l0_0 l0_1) else ((lapidaryref10_Check.f k l0_0 l0_1).bind fun t193 => (lapidarylaw13_IsoSelf.j0 k a1 (t193 != 0) l0_0 l0_1)))) = some r:=h
 clear h
 have HC3:=aMx16 H
 clear H
 go_enter Tryd.func6,Tryd.ntmps6
 go_upto_region 1 with (first | ((with_reducible refine gate_dst (N:=2) rfl ?_);refine box_event ?hg (N:=2) ?hd (cs:=#[.slice A0_0 l0_0.length c0_0,.slice A0_1 l0_1.length c0_1]) (t:=25) ?hr ?_;(case hd => rfl);(case hg => rfl);(case hr => first | (go_simp;done) | (go_simp;rfl));intro gb191 hg w4 hbox hb;have n0_:=aMx16 (below_step (by repeat (first | (with_reducible first | exact HB.out | apply below_alloc | apply pw_below_drewN | apply below_drew1) | exact HB.out)) hb);have n1_:=aMx16 (hbox);have n2_:=aMx16 ((by rw [hg];exact (below_size (by repeat (first | (with_reducible first | exact HB.out | apply below_alloc | apply pw_below_drewN | apply below_drew1) | exact HB.out))) : w.heap.size ≤ gb191));have n3_:=aMx16 ((by rw [hg];exact (below_size (by repeat (first | (with_reducible first | exact HB.out | apply below_alloc | apply pw_below_drewN | apply below_drew1) | exact HB.out))) : w.heap.size ≤ gb191));clear HB;have HB:=n0_;have BK191:=n1_;have GW191:=n2_;have GE191:=n3_;clear n0_ n1_ n2_ n3_;clear hb hbox hg))
 (try simp only [Act.put,sAx16,sBx16,sCx16])
 go_cut [15] (fun v15 wc => ∃ (kq : Nat) (x15_2 : Bool),v15 = .bool x15_2 ∧ Aside0 (lapidarylaw13_IsoSelf.j0 kq a1 x15_2 l0_0 l0_1 = some r) ∧ Aside0 (kq ≤ k) ∧ Aside0 (wc.heap[gb191]? = some (.cells #[(.slice A0_0 l0_0.length c0_0),(.slice A0_1 l0_1.length c0_1)] 25 (0,0))) ∧ Aside0 (Below w.heap.size w wc))
 case first =>
  have H:=HC3.out
  clear HC3
  replace H:=Option.bind_eq_some_iff.mp H
  obtain ⟨t192,A50,H⟩:=H
  replace H : (if t192 = true then (lapidarylaw13_IsoSelf.j0 k a1 true l0_0 l0_1) else ((lapidaryref10_Check.f k l0_0 l0_1).bind fun t193 => (lapidarylaw13_IsoSelf.j0 k a1 (t193 != 0) l0_0 l0_1))) = some r:=H
  have A5:=aMx16 A50
  clear A50
  by_cases c6 : t192 = true
  ·subst c6
   have H1 : (lapidarylaw13_IsoSelf.j0 k a1 true l0_0 l0_1) = some r:=by rw [if_pos rfl] at H;exact H
   clear H
   have H:=H1
   clear H1
   have H':=aMx16 H
   clear H
   have hcz7_0:=bcx16 BK191.out 0 rfl
   have hcz7_1:=bcx16 BK191.out 1 rfl
   go_wp2_with (first|((with_reducible refine gate_callee (f:=11) rfl ?_);refine goesL_ (some 10) rfl rfl Tryd.func11 (by kernel_rfl) rfl #[.agg #[.slice A0_0 l0_0.length c0_0,.slice A0_1 l0_1.length c0_1]] rfl (by (try simp only [List.map_toArray,List.map_cons,List.map_nil]);first|done|rfl|(simp only [List.length_drop,List.length_take];rfl)) ?_;(with_reducible refine (lapidarylaw13_long.calls _ _ l0_0 _ _ l0_1 true _ ?side1 ?side2 ?side3 ?side4 A5.out).mono ?_);(case side1 => repeat (first|exact (Kd.C_below HR0_0.out HB.out)|(with_reducible first|refine Kd.C_alloc ?_ _|refine Kd.C_drewN ?_ _|refine Kd.C_drew ?_)));(case side2 => exact HC0_0.out);(case side3 => repeat (first|exact (Kd.C_below HR0_1.out HB.out)|(with_reducible first|refine Kd.C_alloc ?_ _|refine Kd.C_drewN ?_ _|refine Kd.C_drew ?_)));(case side4 => exact HC0_1.out);rintro e w8 ⟨rfl,hb⟩;refine ⟨_,rfl,?_⟩;have n0_:=aMx16 (blk_below (g:=gb191) (o:=.cells #[.slice A0_0 l0_0.length c0_0,.slice A0_1 l0_1.length c0_1] 25 (0,0)) (by (with_reducible repeat (first|refine blk_drewN ?_ _|refine blk_drew ?_|refine blk_alloc ?_ _));exact BK191.out) hb);have n1_:=aMx16 (below_step (by repeat (first|(with_reducible first|exact HB.out|apply below_alloc|apply pw_below_drewN|apply below_drew1|refine below_set ?_ GE191.out)|exact HB.out)) hb);clear BK191;clear HB;have BK191:=n0_;have HB:=n1_;clear n0_ n1_;(try clear hb);(try clear hb2);(try clear hk);(try clear hi)))
   go_meet
   case rel => exact ⟨_,(true),(by first | rfl | (simp;done) | (simp [*];done) | (simp [wrap64];done)),H',⟨by first | omega | exact Nat.le_refl _⟩,⟨by (with_reducible repeat (first | refine blk_drewN ?_ _ | refine blk_drew ?_ | refine blk_alloc ?_ _));exact BK191.out⟩,⟨by repeat (first | (with_reducible first | exact HB.out | apply below_alloc | apply pw_below_drewN | apply below_drew1 | refine below_set ?_ GE191.out) | exact HB.out)⟩⟩
  ·replace c6:=Bool.eq_false_iff.mpr c6
   subst c6
   have H1 : ((lapidaryref10_Check.f k l0_0 l0_1).bind fun t193 => (lapidarylaw13_IsoSelf.j0 k a1 (t193 != 0) l0_0 l0_1)) = some r:=by rw [if_neg (show ¬ (false = true) by decide)] at H;exact H
   clear H
   have H:=H1
   clear H1
   replace H:=Option.bind_eq_some_iff.mp H
   obtain ⟨t193,A90,H⟩:=H
   replace H : (lapidarylaw13_IsoSelf.j0 k a1 (t193 != 0) l0_0 l0_1) = some r:=H
   have A9:=aMx16 A90
   clear A90
   have H':=aMx16 H
   clear H
   have hcz10_0:=bcx16 BK191.out 0 rfl
   have hcz10_1:=bcx16 BK191.out 1 rfl
   go_wp2_with (first|((with_reducible refine gate_callee (f:=11) rfl ?_);refine goesL_ (some 10) rfl rfl Tryd.func11 (by kernel_rfl) rfl #[.agg #[.slice A0_0 l0_0.length c0_0,.slice A0_1 l0_1.length c0_1]] rfl (by (try simp only [List.map_toArray,List.map_cons,List.map_nil]);first|done|rfl|(simp only [List.length_drop,List.length_take];rfl)) ?_;(with_reducible refine (lapidarylaw13_long.calls _ _ l0_0 _ _ l0_1 false _ ?side1 ?side2 ?side3 ?side4 A5.out).mono ?_);(case side1 => repeat (first|exact (Kd.C_below HR0_0.out HB.out)|(with_reducible first|refine Kd.C_alloc ?_ _|refine Kd.C_drewN ?_ _|refine Kd.C_drew ?_)));(case side2 => exact HC0_0.out);(case side3 => repeat (first|exact (Kd.C_below HR0_1.out HB.out)|(with_reducible first|refine Kd.C_alloc ?_ _|refine Kd.C_drewN ?_ _|refine Kd.C_drew ?_)));(case side4 => exact HC0_1.out);rintro e w11 ⟨rfl,hb⟩;refine ⟨_,rfl,?_⟩;have n0_:=aMx16 (blk_below (g:=gb191) (o:=.cells #[.slice A0_0 l0_0.length c0_0,.slice A0_1 l0_1.length c0_1] 25 (0,0)) (by (with_reducible repeat (first|refine blk_drewN ?_ _|refine blk_drew ?_|refine blk_alloc ?_ _));exact BK191.out) hb);have n1_:=aMx16 (below_step (by repeat (first|(with_reducible first|exact HB.out|apply below_alloc|apply pw_below_drewN|apply below_drew1|refine below_set ?_ GE191.out)|exact HB.out)) hb);clear BK191;clear HB;have BK191:=n0_;have HB:=n1_;clear n0_ n1_;(try clear hb);(try clear hb2);(try clear hk);(try clear hi);have hcz12_0:=bcx16 BK191.out 0 rfl;have hcz12_1:=bcx16 BK191.out 1 rfl;have hfz12_0:=blk_frozen BK191.out 0;have hfz12_1:=blk_frozen BK191.out 1)|(go_at_call 21;(with_reducible refine (lapidaryref10_Check.calls k _ _ l0_0 _ _ l0_1 t193 _ ?side1 ?side2 ?side3 ?side4 A9.out).mono ?_);(case side1 => repeat (first|exact (Kd.C_below HR0_0.out HB.out)|(with_reducible first|refine Kd.C_alloc ?_ _|refine Kd.C_drewN ?_ _|refine Kd.C_drew ?_)));(case side2 => exact HC0_0.out);(case side3 => repeat (first|exact (Kd.C_below HR0_1.out HB.out)|(with_reducible first|refine Kd.C_alloc ?_ _|refine Kd.C_drewN ?_ _|refine Kd.C_drew ?_)));(case side4 => exact HC0_1.out);rintro e w13 ⟨rfl,hb⟩;have n0_:=aMx16 (blk_below (g:=gb191) (o:=.cells #[.slice A0_0 l0_0.length c0_0,.slice A0_1 l0_1.length c0_1] 25 (0,0)) (by (with_reducible repeat (first|refine blk_drewN ?_ _|refine blk_drew ?_|refine blk_alloc ?_ _));exact BK191.out) hb);have n1_:=aMx16 (below_step (by repeat (first|(with_reducible first|exact HB.out|apply below_alloc|apply pw_below_drewN|apply below_drew1|refine below_set ?_ GE191.out)|exact HB.out)) hb);clear BK191;clear HB;have BK191:=n0_;have HB:=n1_;clear n0_ n1_;(try clear hb);(try clear hb2);(try clear hk);(try clear hi)))
   go_meet
   case rel => exact ⟨_,((t193 != 0)),(by first | rfl | (simp;done) | (simp [*];done) | (simp [wrap64];done)),H',⟨by first | omega | exact Nat.le_refl _⟩,⟨by (with_reducible repeat (first | refine blk_drewN ?_ _ | refine blk_drew ?_ | refine blk_alloc ?_ _));exact BK191.out⟩,⟨by repeat (first | (with_reducible first | exact HB.out | apply below_alloc | apply pw_below_drewN | apply below_drew1 | refine below_set ?_ GE191.out) | exact HB.out)⟩⟩
 case rest =>
  clear HC3
  (try clear c1);(try clear p2);(try clear c6);(try clear c11);(try clear hcz10_0);(try clear hcz10_1);(try clear hcz12_0);(try clear hcz12_1);(try clear hcz7_0);(try clear hcz7_1);(try clear hfz10_0);(try clear hfz10_1);(try clear hfz12_0);(try clear hfz12_1);(try clear hfz7_0);(try clear hfz7_1)
  obtain ⟨kq,x15_2,rfl,HA,HJ2,BK191,HB⟩:=hcut
  cases kq with
  | zero => exact absurd HA.out (by simp [lapidarylaw13_IsoSelf.j0])
  | succ kj2 =>
   have H:=HA.out
   clear HA
   simp only [lapidarylaw13_IsoSelf.j0] at H
   by_cases c14 : x15_2 = true
   ·subst c14
    have H1 : ((lapidarylaw13_known.f).bind fun t194 => (some t194)) = some r:=by rw [if_pos rfl] at H;exact H
    clear H
    have H:=H1
    clear H1
    replace H:=Option.bind_eq_some_iff.mp H
    obtain ⟨t194,A150,H⟩:=H
    replace H : (some t194) = some r:=H
    have A15:=aMx16 A150
    clear A150
    obtain rfl:=Option.some.inj H
    go_wp2_with (first|((with_reducible refine gate_callee (f:=12) rfl ?_);refine goesL_ (some 16) rfl rfl Tryd.func12 (by kernel_rfl) rfl #[] rfl (by (try simp only [List.map_toArray,List.map_cons,List.map_nil]);first|done|rfl|(simp only [List.length_drop,List.length_take];rfl)) ?_;(with_reducible refine (lapidarylaw13_known.calls  t194 _ A15.out).mono ?_);rintro e w16 ⟨rfl,hb⟩;refine ⟨_,rfl,?_⟩;have n0_:=aMx16 (blk_below (g:=gb191) (o:=.cells #[.slice A0_0 l0_0.length c0_0,.slice A0_1 l0_1.length c0_1] 25 (0,0)) (by (with_reducible repeat (first|refine blk_drewN ?_ _|refine blk_drew ?_|refine blk_alloc ?_ _));exact BK191.out) hb);have n1_:=aMx16 (below_step (by repeat (first|(with_reducible first|exact HB.out|apply below_alloc|apply pw_below_drewN|apply below_drew1|refine below_set ?_ GE191.out)|exact HB.out)) hb);clear BK191;clear HB;have BK191:=n0_;have HB:=n1_;clear n0_ n1_;(try clear hb);(try clear hb2);(try clear hk);(try clear hi)))
    go_ret
    exact ⟨by first | rfl | (simp [errW_none,errW_some]<;>rfl) | (simp [*,errW_none,errW_some]<;>rfl),by repeat (first | (with_reducible first | exact HB.out | apply below_alloc | apply pw_below_drewN | apply below_drew1 | refine below_set ?_ GE191.out) | exact HB.out)⟩
   ·replace c14:=Bool.eq_false_iff.mpr c14
    subst c14
    have H1 : (lapidarylaw13_IsoSelf.l0 kj2 a1 ([] : List Int) 0 l0_0 l0_1) = some r:=by rw [if_neg (show ¬ (false = true) by decide)] at H;exact H
    clear H
    have H:=H1
    clear H1
    have H':=aMx16 H
    clear H
    go_wp2
    go_loopg [5,6] kj2 (fun kq v5 v6 w' => ∃ (x5_2 : List Int) (x6_2 : Int),v6 = .int .i64 x6_2 ∧ Aside0 (lapidarylaw13_IsoSelf.l0 kq a1 x5_2 x6_2 l0_0 l0_1 = some r) ∧ Aside0 (kq ≤ kj2) ∧ Aside0 (Kd.R (Kd.int .i64) 3 w' w.heap.size (fun _ => True) v5 x5_2) ∧ Aside0 (w'.heap[gb191]? = some (.cells #[(.slice A0_0 l0_0.length c0_0),(.slice A0_1 l0_1.length c0_1)] 25 (0,0))) ∧ Aside0 (Below w.heap.size w w'))
    case atStart => exact ⟨(([] : List Int)),(0),(by first | rfl | (simp;done) | (simp [*];done) | (simp [wrap64];done)),H',⟨Nat.le_refl _⟩,⟨by first | exact Kd.R_nil _ _ _ _ _ | exact Kd.N_nil _ _ _ _ _ | exact Kd.V_nil _ _ _ _ _ | exact Kd.Q_nil _ _ _ _ _ | exact Kd.S_nil _ _ _ _ _⟩,⟨by (with_reducible repeat (first | refine blk_drewN ?_ _ | refine blk_drew ?_ | refine blk_alloc ?_ _));exact BK191.out⟩,⟨by repeat (first | (with_reducible first | exact HB.out | apply below_alloc | apply pw_below_drewN | apply below_drew1 | refine below_set ?_ GE191.out) | exact HB.out)⟩⟩
    case round =>
     clear H'
     (try clear c1);(try clear p2);(try clear c6);(try clear c11);(try clear c12);(try clear c14);(try clear hcz10_0);(try clear hcz10_1);(try clear hcz12_0);(try clear hcz12_1);(try clear hcz7_0);(try clear hcz7_1);(try clear hfz10_0);(try clear hfz10_1);(try clear hfz12_0);(try clear hfz12_1);(try clear hfz7_0);(try clear hfz7_1);(try clear p2)
     obtain ⟨x5_2,x6_2,rfl,HA,HK2,HO_5,BK191,HB⟩:=hrel
     cases gk with
     | zero => exact absurd HA.out (by simp [lapidarylaw13_IsoSelf.l0])
     | succ k2 =>
      have H:=HA.out
      clear HA
      simp only [lapidarylaw13_IsoSelf.l0] at H
      by_cases c17 : x6_2 < (l0_0.length : Int)
      ·rw [if_pos c17] at H
       have c17b0 : decide (x6_2 < (l0_0.length : Int)) = true:=decide_eq_true c17
       clear c17
       by_cases c18 : x5_2.length < 17592186044416
       ·rw [if_pos c18] at H
        have LMc18:=aMx16 c18
        clear c18
        obtain ⟨y195,hy195⟩ : ∃ y_ : List Int,y_ = (x5_2++[x6_2]):=⟨_,rfl⟩
        replace H : (lapidarylaw13_IsoSelf.l0 k2 a1 y195 (wrap64 (x6_2+1)) l0_0 l0_1) = some r:=by first | (rw [hy195];with_reducible exact H) | (have H2_:=(Option.bind_some _ _).symm.trans H;rw [hy195];with_reducible exact H2_) | (have H2_:=(Option.bind_some _ _).symm.trans H;with_reducible exact H2_) | with_reducible exact H | (rw [hy195];exact H) | exact H
        have Ny195:=aMx16 hy195
        clear hy195
        have H':=aMx16 H
        clear H
        have hcz19_0:=bcx16 BK191.out 0 rfl
        have hcz19_1:=bcx16 BK191.out 1 rfl
        go_wp2_with (first|((with_reducible refine gate_builtin (b:=.append) (xs:=#[.tmp 24,.tmp 26]) rfl ?_);at_builtin;refine Kd.R_append (Kd.int .i64) (w0:=w) w.heap.size rfl (.tmp 24) (.tmp 26) 26 3 (.int .i64 0) 8 rfl Tryd.underlying26 info3 rfl (by decide) (by omega) u5 x5_2 x6_2 [.int .i64 x6_2] (fun _ => True) (fun _ => False) rfl rfl ?aP (fun _ hk => hk.elim) ?aF ?aO ?aB ?aS ?aL ?_;(case aP => exact rfl);(case aB => exact (by repeat (first|(with_reducible first|exact HB.out|apply below_alloc|apply pw_below_drewN|apply below_drew1|refine below_set ?_ GE191.out)|exact HB.out)));(case aF => exact (fun _ _ => trivial));(case aO => exact (by (with_reducible repeat (first|apply Kd.R_alloc|apply Kd.R_drewN|apply Kd.R_drew));exact HO_5.out));(case aS => exact (below_size (by repeat (first|(with_reducible first|exact HB.out|apply below_alloc|apply pw_below_drewN|apply below_drew1|refine below_set ?_ GE191.out)|exact HB.out))));(case aL => have:=LMc18.out;omega);intro v196 w20 ho hb hg hat;rw [← Ny195.out] at ho;have n0_:=aMx16 (blk_grown (g:=gb191) (o:=.cells #[.slice A0_0 l0_0.length c0_0,.slice A0_1 l0_1.length c0_1] 25 (0,0)) (by (with_reducible repeat (first|refine blk_drewN ?_ _|refine blk_drew ?_|refine blk_alloc ?_ _));exact BK191.out) hg (Kd.R_ne HO_5.out BK191.out (by decide)));have n1_:=aMx16 (hb);have n2_:=aMx16 (ho);clear BK191;clear HB;clear HO_5;have BK191:=n0_;have HB:=n1_;have HO197:=n2_;clear n0_ n1_ n2_;clear ho hb hg hat))
        go_roundg k2
        case measure => have:=HJ2.out;have:=HK2.out;omega
        case rel => exact ⟨(y195),(wrap64 (x6_2+1)),(by first | rfl | (simp;done) | (simp [*];done) | (simp [wrap64];done)),H',⟨by have:=HJ2.out;have:=HK2.out;omega⟩,⟨by (with_reducible repeat (first | apply Kd.R_alloc | apply Kd.R_drewN | apply Kd.R_drew));exact HO197.out⟩,⟨by (with_reducible repeat (first | refine blk_drewN ?_ _ | refine blk_drew ?_ | refine blk_alloc ?_ _));exact BK191.out⟩,⟨by repeat (first | (with_reducible first | exact HB.out | apply below_alloc | apply pw_below_drewN | apply below_drew1 | refine below_set ?_ GE191.out) | exact HB.out)⟩⟩
       ·rw [if_neg c18] at H
        exact absurd H (by simp)
      ·rw [if_neg c17] at H
       have c17b0 : decide (x6_2 < (l0_0.length : Int)) = false:=decide_eq_false c17
       clear c17
       replace H:=Option.bind_eq_some_iff.mp H
       obtain ⟨t198,A210,H⟩:=H
       replace H : (if t198 = true then (if (l0_1.length : Int) = 0 then ((lapidarylaw13_known.f).bind fun t199 => (some t199)) else (if ([] : List (S45)).length+l0_0.length < 5864062014805 then ((some (([] : List (S45))++l0_0 : List (S45))).bind fun y200 => (if (y200.length : Int) = 0 then (none) else (if 0 ≤ (Int.tmod (wrap64 (a1)) (y200.length : Int)) then (if (Int.tmod (wrap64 (a1)) (y200.length : Int)) < (y200.length : Int) then ((some (y200.set ((Int.tmod (wrap64 (a1)) (y200.length : Int)) : Int).toNat (⟨(rd_T45 y200 (Int.tmod (wrap64 (a1)) (y200.length : Int))).f0,(rd_T45 y200 (Int.tmod (wrap64 (a1)) (y200.length : Int))).f1,wrap64 (Int.tdiv ((rd_T45 y200 (Int.tmod (wrap64 (a1)) (y200.length : Int))).f2) 2)⟩ : S45) : List (S45))).bind fun y204 => (if (Int.tmod (wrap64 (a1)) (y200.length : Int)) < (l0_0.length : Int) then (if (((rd_T45 y204 (Int.tmod (wrap64 (a1)) (y200.length : Int))).f0) == ((rd_T45 l0_0 (Int.tmod (wrap64 (a1)) (y200.length : Int))).f0) && (((rd_T45 y204 (Int.tmod (wrap64 (a1)) (y200.length : Int))).f1) == ((rd_T45 l0_0 (Int.tmod (wrap64 (a1)) (y200.length : Int))).f1) && (((rd_T45 y204 (Int.tmod (wrap64 (a1)) (y200.length : Int))).f2) == ((rd_T45 l0_0 (Int.tmod (wrap64 (a1)) (y200.length : Int))).f2)))) = true then ((some (y204.set ((Int.tmod (wrap64 (a1)) (y200.length : Int)) : Int).toNat (⟨(rd_T45 y204 (Int.tmod (wrap64 (a1)) (y200.length : Int))).f0,(rd_T45 y204 (Int.tmod (wrap64 (a1)) (y200.length : Int))).f1,1⟩ : S45) : List (S45))).bind fun y207 => ((iso_Is.f l0_0 l0_1 y207 l0_1 x5_2).bind fun t208 => (if (t208 == (((rd_T45 y207 (Int.tmod (wrap64 (a1)) (y200.length : Int))).f0) == ((rd_T45 l0_0 (Int.tmod (wrap64 (a1)) (y200.length : Int))).f0) && (((rd_T45 y207 (Int.tmod (wrap64 (a1)) (y200.length : Int))).f1) == ((rd_T45 l0_0 (Int.tmod (wrap64 (a1)) (y200.length : Int))).f1) && (((rd_T45 y207 (Int.tmod (wrap64 (a1)) (y200.length : Int))).f2) == ((rd_T45 l0_0 (Int.tmod (wrap64 (a1)) (y200.length : Int))).f2))))) = true then (if 1 ≤ (l0_1.length : Int) then ((iso_Is.f l0_0 l0_1 l0_0 (l0_1.drop 1) x5_2).bind fun t215 => (if t215 = true then (some false) else ((lapidarylaw13_known.f).bind fun t216 => (some t216)))) else (none)) else (some false)))) else ((iso_Is.f l0_0 l0_1 y204 l0_1 x5_2).bind fun t217 => (if (t217 == (((rd_T45 y204 (Int.tmod (wrap64 (a1)) (y200.length : Int))).f0) == ((rd_T45 l0_0 (Int.tmod (wrap64 (a1)) (y200.length : Int))).f0) && (((rd_T45 y204 (Int.tmod (wrap64 (a1)) (y200.length : Int))).f1) == ((rd_T45 l0_0 (Int.tmod (wrap64 (a1)) (y200.length : Int))).f1) && (((rd_T45 y204 (Int.tmod (wrap64 (a1)) (y200.length : Int))).f2) == ((rd_T45 l0_0 (Int.tmod (wrap64 (a1)) (y200.length : Int))).f2))))) = true then (if 1 ≤ (l0_1.length : Int) then ((iso_Is.f l0_0 l0_1 l0_0 (l0_1.drop 1) x5_2).bind fun t224 => (if t224 = true then (some false) else ((lapidarylaw13_known.f).bind fun t225 => (some t225)))) else (none)) else (some false)))) else (none))) else (none)) else (none)))) else (none))) else (some false)) = some r:=H
       have A21:=aMx16 A210
       clear A210
       by_cases c22 : t198 = true
       ·subst c22
        have H1 : (if (l0_1.length : Int) = 0 then ((lapidarylaw13_known.f).bind fun t199 => (some t199)) else (if ([] : List (S45)).length+l0_0.length < 5864062014805 then ((some (([] : List (S45))++l0_0 : List (S45))).bind fun y200 => (if (y200.length : Int) = 0 then (none) else (if 0 ≤ (Int.tmod (wrap64 (a1)) (y200.length : Int)) then (if (Int.tmod (wrap64 (a1)) (y200.length : Int)) < (y200.length : Int) then ((some (y200.set ((Int.tmod (wrap64 (a1)) (y200.length : Int)) : Int).toNat (⟨(rd_T45 y200 (Int.tmod (wrap64 (a1)) (y200.length : Int))).f0,(rd_T45 y200 (Int.tmod (wrap64 (a1)) (y200.length : Int))).f1,wrap64 (Int.tdiv ((rd_T45 y200 (Int.tmod (wrap64 (a1)) (y200.length : Int))).f2) 2)⟩ : S45) : List (S45))).bind fun y204 => (if (Int.tmod (wrap64 (a1)) (y200.length : Int)) < (l0_0.length : Int) then (if (((rd_T45 y204 (Int.tmod (wrap64 (a1)) (y200.length : Int))).f0) == ((rd_T45 l0_0 (Int.tmod (wrap64 (a1)) (y200.length : Int))).f0) && (((rd_T45 y204 (Int.tmod (wrap64 (a1)) (y200.length : Int))).f1) == ((rd_T45 l0_0 (Int.tmod (wrap64 (a1)) (y200.length : Int))).f1) && (((rd_T45 y204 (Int.tmod (wrap64 (a1)) (y200.length : Int))).f2) == ((rd_T45 l0_0 (Int.tmod (wrap64 (a1)) (y200.length : Int))).f2)))) = true then ((some (y204.set ((Int.tmod (wrap64 (a1)) (y200.length : Int)) : Int).toNat (⟨(rd_T45 y204 (Int.tmod (wrap64 (a1)) (y200.length : Int))).f0,(rd_T45 y204 (Int.tmod (wrap64 (a1)) (y200.length : Int))).f1,1⟩ : S45) : List (S45))).bind fun y207 => ((iso_Is.f l0_0 l0_1 y207 l0_1 x5_2).bind fun t208 => (if (t208 == (((rd_T45 y207 (Int.tmod (wrap64 (a1)) (y200.length : Int))).f0) == ((rd_T45 l0_0 (Int.tmod (wrap64 (a1)) (y200.length : Int))).f0) && (((rd_T45 y207 (Int.tmod (wrap64 (a1)) (y200.length : Int))).f1) == ((rd_T45 l0_0 (Int.tmod (wrap64 (a1)) (y200.length : Int))).f1) && (((rd_T45 y207 (Int.tmod (wrap64 (a1)) (y200.length : Int))).f2) == ((rd_T45 l0_0 (Int.tmod (wrap64 (a1)) (y200.length : Int))).f2))))) = true then (if 1 ≤ (l0_1.length : Int) then ((iso_Is.f l0_0 l0_1 l0_0 (l0_1.drop 1) x5_2).bind fun t215 => (if t215 = true then (some false) else ((lapidarylaw13_known.f).bind fun t216 => (some t216)))) else (none)) else (some false)))) else ((iso_Is.f l0_0 l0_1 y204 l0_1 x5_2).bind fun t217 => (if (t217 == (((rd_T45 y204 (Int.tmod (wrap64 (a1)) (y200.length : Int))).f0) == ((rd_T45 l0_0 (Int.tmod (wrap64 (a1)) (y200.length : Int))).f0) && (((rd_T45 y204 (Int.tmod (wrap64 (a1)) (y200.length : Int))).f1) == ((rd_T45 l0_0 (Int.tmod (wrap64 (a1)) (y200.length : Int))).f1) && (((rd_T45 y204 (Int.tmod (wrap64 (a1)) (y200.length : Int))).f2) == ((rd_T45 l0_0 (Int.tmod (wrap64 (a1)) (y200.length : Int))).f2))))) = true then (if 1 ≤ (l0_1.length : Int) then ((iso_Is.f l0_0 l0_1 l0_0 (l0_1.drop 1) x5_2).bind fun t224 => (if t224 = true then (some false) else ((lapidarylaw13_known.f).bind fun t225 => (some t225)))) else (none)) else (some false)))) else (none))) else (none)) else (none)))) else (none))) = some r:=by rw [if_pos rfl] at H;exact H
        clear H
        have H:=H1
        clear H1
        by_cases c23 : (l0_1.length : Int) = 0
        ·rw [if_pos c23] at H
         have c23b0 : ((l0_1.length : Int) == 0) = true:=beq_iff_eq.mpr c23
         have c23b1 : ((l0_1.length : Int) != 0) = false:=bne_eq_false_iff_eq.mpr c23
         clear c23
         replace H:=Option.bind_eq_some_iff.mp H
         obtain ⟨t199,A240,H⟩:=H
         replace H : (some t199) = some r:=H
         have A24:=aMx16 A240
         clear A240
         obtain rfl:=Option.some.inj H
         have hcz25_0:=bcx16 BK191.out 0 rfl
         have hcz25_1:=bcx16 BK191.out 1 rfl
         obtain ⟨Ao26,co26,eo26⟩:=Kd.R_slice HO_5.out
         subst eo26
         go_wp2_with (first|((with_reducible refine gate_callee (f:=15) rfl ?_);refine goesL_ (some 31) rfl rfl Tryd.func15 (by kernel_rfl) rfl #[.agg #[.slice A0_0 l0_0.length c0_0,.slice A0_1 l0_1.length c0_1],.agg #[.slice A0_0 l0_0.length c0_0,.slice A0_1 l0_1.length c0_1],.slice Ao26 x5_2.length co26] rfl (by (try simp only [List.map_toArray,List.map_cons,List.map_nil]);first|done|rfl|(simp only [List.length_drop,List.length_take];rfl)) ?_;(with_reducible refine (iso_Is.calls _ _ l0_0 _ _ l0_1 _ _ l0_0 _ _ l0_1 _ _ x5_2 true _ ?side1 ?side2 ?side3 ?side4 ?side5 ?side6 ?side7 ?side8 ?side9 ?side10 ?sideG A21.out).mono ?_);(case sideG => exact Kd.C_below HG.out (by repeat (first|(with_reducible first|exact HB.out|apply below_alloc|apply pw_below_drewN|apply below_drew1|refine below_set ?_ GE191.out)|exact HB.out)));(case side1 => repeat (first|exact (Kd.C_below HR0_0.out HB.out)|(with_reducible first|refine Kd.C_alloc ?_ _|refine Kd.C_drewN ?_ _|refine Kd.C_drew ?_)));(case side2 => exact HC0_0.out);(case side3 => repeat (first|exact (Kd.C_below HR0_1.out HB.out)|(with_reducible first|refine Kd.C_alloc ?_ _|refine Kd.C_drewN ?_ _|refine Kd.C_drew ?_)));(case side4 => exact HC0_1.out);(case side5 => repeat (first|exact (Kd.C_below HR0_0.out HB.out)|(with_reducible first|refine Kd.C_alloc ?_ _|refine Kd.C_drewN ?_ _|refine Kd.C_drew ?_)));(case side6 => exact HC0_0.out);(case side7 => repeat (first|exact (Kd.C_below HR0_1.out HB.out)|(with_reducible first|refine Kd.C_alloc ?_ _|refine Kd.C_drewN ?_ _|refine Kd.C_drew ?_)));(case side8 => exact HC0_1.out);(case side9 => repeat (first|exact (Kd.R_reads' HO_5.out).2.2|(with_reducible first|refine Kd.C_alloc ?_ _|refine Kd.C_drewN ?_ _|refine Kd.C_drew ?_)));(case side10 => exact (Kd.R_reads' HO_5.out).2.1);rintro e w27 ⟨rfl,hb⟩;refine ⟨_,rfl,?_⟩;have n0_:=aMx16 (Kd.R_below (by (with_reducible repeat (first|apply Kd.R_alloc|apply Kd.R_drewN|apply Kd.R_drew));exact HO_5.out) hb);have n1_:=aMx16 (blk_below (g:=gb191) (o:=.cells #[.slice A0_0 l0_0.length c0_0,.slice A0_1 l0_1.length c0_1] 25 (0,0)) (by (with_reducible repeat (first|refine blk_drewN ?_ _|refine blk_drew ?_|refine blk_alloc ?_ _));exact BK191.out) hb);have n2_:=aMx16 (below_step (by repeat (first|(with_reducible first|exact HB.out|apply below_alloc|apply pw_below_drewN|apply below_drew1|refine below_set ?_ GE191.out)|exact HB.out)) hb);clear HO_5;clear BK191;clear HB;have HO_5:=n0_;have BK191:=n1_;have HB:=n2_;clear n0_ n1_ n2_;(try clear hb);(try clear hb2);(try clear hk);(try clear hi);have hcz28_0:=bcx16 BK191.out 0 rfl;have hcz28_1:=bcx16 BK191.out 1 rfl;have hfz28_0:=blk_frozen BK191.out 0;have hfz28_1:=blk_frozen BK191.out 1)|((with_reducible refine gate_callee (f:=12) rfl ?_);refine goesL_ (some 37) rfl rfl Tryd.func12 (by kernel_rfl) rfl #[] rfl (by (try simp only [List.map_toArray,List.map_cons,List.map_nil]);first|done|rfl|(simp only [List.length_drop,List.length_take];rfl)) ?_;(with_reducible refine (lapidarylaw13_known.calls  t199 _ A24.out).mono ?_);rintro e w29 ⟨rfl,hb⟩;refine ⟨_,rfl,?_⟩;have n0_:=aMx16 (Kd.R_below (by (with_reducible repeat (first|apply Kd.R_alloc|apply Kd.R_drewN|apply Kd.R_drew));exact HO_5.out) hb);have n1_:=aMx16 (blk_below (g:=gb191) (o:=.cells #[.slice A0_0 l0_0.length c0_0,.slice A0_1 l0_1.length c0_1] 25 (0,0)) (by (with_reducible repeat (first|refine blk_drewN ?_ _|refine blk_drew ?_|refine blk_alloc ?_ _));exact BK191.out) hb);have n2_:=aMx16 (below_step (by repeat (first|(with_reducible first|exact HB.out|apply below_alloc|apply pw_below_drewN|apply below_drew1|refine below_set ?_ GE191.out)|exact HB.out)) hb);clear HO_5;clear BK191;clear HB;have HO_5:=n0_;have BK191:=n1_;have HB:=n2_;clear n0_ n1_ n2_;(try clear hb);(try clear hb2);(try clear hk);(try clear hi)))
         go_ret
         exact ⟨by first | rfl | (simp [errW_none,errW_some]<;>rfl) | (simp [*,errW_none,errW_some]<;>rfl),by repeat (first | (with_reducible first | exact HB.out | apply below_alloc | apply pw_below_drewN | apply below_drew1 | refine below_set ?_ GE191.out) | exact HB.out)⟩
        ·rw [if_neg c23] at H
         have c23b0 : ((l0_1.length : Int) == 0) = false:=beq_eq_false_iff_ne.mpr c23
         have c23b1 : ((l0_1.length : Int) != 0) = true:=bne_iff_ne.mpr c23
         have c23b2 : ¬ (l0_1 = []):=fun h_ => c23 (by rw [h_];rfl)
         by_cases c30 : ([] : List (S45)).length+l0_0.length < 5864062014805
         ·rw [if_pos c30] at H
          have LMc30:=aMx16 c30
          clear c30
          obtain ⟨y200,hy200⟩ : ∃ y_ : List (S45),y_ = (([] : List (S45))++l0_0):=⟨_,rfl⟩
          replace H : (if (y200.length : Int) = 0 then (none) else (if 0 ≤ (Int.tmod (wrap64 (a1)) (y200.length : Int)) then (if (Int.tmod (wrap64 (a1)) (y200.length : Int)) < (y200.length : Int) then ((some (y200.set ((Int.tmod (wrap64 (a1)) (y200.length : Int)) : Int).toNat (⟨(rd_T45 y200 (Int.tmod (wrap64 (a1)) (y200.length : Int))).f0,(rd_T45 y200 (Int.tmod (wrap64 (a1)) (y200.length : Int))).f1,wrap64 (Int.tdiv ((rd_T45 y200 (Int.tmod (wrap64 (a1)) (y200.length : Int))).f2) 2)⟩ : S45) : List (S45))).bind fun y204 => (if (Int.tmod (wrap64 (a1)) (y200.length : Int)) < (l0_0.length : Int) then (if (((rd_T45 y204 (Int.tmod (wrap64 (a1)) (y200.length : Int))).f0) == ((rd_T45 l0_0 (Int.tmod (wrap64 (a1)) (y200.length : Int))).f0) && (((rd_T45 y204 (Int.tmod (wrap64 (a1)) (y200.length : Int))).f1) == ((rd_T45 l0_0 (Int.tmod (wrap64 (a1)) (y200.length : Int))).f1) && (((rd_T45 y204 (Int.tmod (wrap64 (a1)) (y200.length : Int))).f2) == ((rd_T45 l0_0 (Int.tmod (wrap64 (a1)) (y200.length : Int))).f2)))) = true then ((some (y204.set ((Int.tmod (wrap64 (a1)) (y200.length : Int)) : Int).toNat (⟨(rd_T45 y204 (Int.tmod (wrap64 (a1)) (y200.length : Int))).f0,(rd_T45 y204 (Int.tmod (wrap64 (a1)) (y200.length : Int))).f1,1⟩ : S45) : List (S45))).bind fun y207 => ((iso_Is.f l0_0 l0_1 y207 l0_1 x5_2).bind fun t208 => (if (t208 == (((rd_T45 y207 (Int.tmod (wrap64 (a1)) (y200.length : Int))).f0) == ((rd_T45 l0_0 (Int.tmod (wrap64 (a1)) (y200.length : Int))).f0) && (((rd_T45 y207 (Int.tmod (wrap64 (a1)) (y200.length : Int))).f1) == ((rd_T45 l0_0 (Int.tmod (wrap64 (a1)) (y200.length : Int))).f1) && (((rd_T45 y207 (Int.tmod (wrap64 (a1)) (y200.length : Int))).f2) == ((rd_T45 l0_0 (Int.tmod (wrap64 (a1)) (y200.length : Int))).f2))))) = true then (if 1 ≤ (l0_1.length : Int) then ((iso_Is.f l0_0 l0_1 l0_0 (l0_1.drop 1) x5_2).bind fun t215 => (if t215 = true then (some false) else ((lapidarylaw13_known.f).bind fun t216 => (some t216)))) else (none)) else (some false)))) else ((iso_Is.f l0_0 l0_1 y204 l0_1 x5_2).bind fun t217 => (if (t217 == (((rd_T45 y204 (Int.tmod (wrap64 (a1)) (y200.length : Int))).f0) == ((rd_T45 l0_0 (Int.tmod (wrap64 (a1)) (y200.length : Int))).f0) && (((rd_T45 y204 (Int.tmod (wrap64 (a1)) (y200.length : Int))).f1) == ((rd_T45 l0_0 (Int.tmod (wrap64 (a1)) (y200.length : Int))).f1) && (((rd_T45 y204 (Int.tmod (wrap64 (a1)) (y200.length : Int))).f2) == ((rd_T45 l0_0 (Int.tmod (wrap64 (a1)) (y200.length : Int))).f2))))) = true then (if 1 ≤ (l0_1.length : Int) then ((iso_Is.f l0_0 l0_1 l0_0 (l0_1.drop 1) x5_2).bind fun t224 => (if t224 = true then (some false) else ((lapidarylaw13_known.f).bind fun t225 => (some t225)))) else (none)) else (some false)))) else (none))) else (none)) else (none))) = some r:=by first | (rw [hy200];with_reducible exact H) | (have H2_:=(Option.bind_some _ _).symm.trans H;rw [hy200];with_reducible exact H2_) | (have H2_:=(Option.bind_some _ _).symm.trans H;with_reducible exact H2_) | with_reducible exact H | (rw [hy200];exact H) | exact H
          have Ny200:=aMx16 hy200
          clear hy200
          by_cases c31 : (y200.length : Int) = 0
          ·rw [if_pos c31] at H
           exact absurd H (by simp)
          ·rw [if_neg c31] at H
           have c31b0 : ((y200.length : Int) == 0) = false:=beq_eq_false_iff_ne.mpr c31
           have c31b1 : ((y200.length : Int) != 0) = true:=bne_iff_ne.mpr c31
           have c31b2 : ¬ (y200 = []):=fun h_ => c31 (by rw [h_];rfl)
           obtain ⟨ji32,hji32⟩ : ∃ j_ : Int,(Int.tmod (wrap64 (a1)) (y200.length : Int)) = j_:=⟨_,rfl⟩
           replace H : (if 0 ≤ (ji32) then (if (ji32) < (y200.length : Int) then ((some (y200.set ((ji32) : Int).toNat (⟨(rd_T45 y200 (ji32)).f0,(rd_T45 y200 (ji32)).f1,wrap64 (Int.tdiv ((rd_T45 y200 (ji32)).f2) 2)⟩ : S45) : List (S45))).bind fun y204 => (if (ji32) < (l0_0.length : Int) then (if (((rd_T45 y204 (ji32)).f0) == ((rd_T45 l0_0 (ji32)).f0) && (((rd_T45 y204 (ji32)).f1) == ((rd_T45 l0_0 (ji32)).f1) && (((rd_T45 y204 (ji32)).f2) == ((rd_T45 l0_0 (ji32)).f2)))) = true then ((some (y204.set ((ji32) : Int).toNat (⟨(rd_T45 y204 (ji32)).f0,(rd_T45 y204 (ji32)).f1,1⟩ : S45) : List (S45))).bind fun y207 => ((iso_Is.f l0_0 l0_1 y207 l0_1 x5_2).bind fun t208 => (if (t208 == (((rd_T45 y207 (ji32)).f0) == ((rd_T45 l0_0 (ji32)).f0) && (((rd_T45 y207 (ji32)).f1) == ((rd_T45 l0_0 (ji32)).f1) && (((rd_T45 y207 (ji32)).f2) == ((rd_T45 l0_0 (ji32)).f2))))) = true then (if 1 ≤ (l0_1.length : Int) then ((iso_Is.f l0_0 l0_1 l0_0 (l0_1.drop 1) x5_2).bind fun t215 => (if t215 = true then (some false) else ((lapidarylaw13_known.f).bind fun t216 => (some t216)))) else (none)) else (some false)))) else ((iso_Is.f l0_0 l0_1 y204 l0_1 x5_2).bind fun t217 => (if (t217 == (((rd_T45 y204 (ji32)).f0) == ((rd_T45 l0_0 (ji32)).f0) && (((rd_T45 y204 (ji32)).f1) == ((rd_T45 l0_0 (ji32)).f1) && (((rd_T45 y204 (ji32)).f2) == ((rd_T45 l0_0 (ji32)).f2))))) = true then (if 1 ≤ (l0_1.length : Int) then ((iso_Is.f l0_0 l0_1 l0_0 (l0_1.drop 1) x5_2).bind fun t224 => (if t224 = true then (some false) else ((lapidarylaw13_known.f).bind fun t225 => (some t225)))) else (none)) else (some false)))) else (none))) else (none)) else (none)) = some r:=by first | (rw [hji32] at H;exact H) | (simp only [hji32] at H ⊢;exact H)
           (try rw [hji32] at A21)
           by_cases c33 : 0 ≤ (ji32)
           ·rw [if_pos c33] at H
            have c33b0 : decide (0 ≤ (ji32)) = true:=decide_eq_true c33
            clear c33
            by_cases c34 : (ji32) < (y200.length : Int)
            ·rw [if_pos c34] at H
             have c34b0 : decide ((ji32) < (y200.length : Int)) = true:=decide_eq_true c34
             clear c34
             obtain ⟨y204,hy204⟩ : ∃ y_ : List (S45),y_ = (y200.set ((ji32) : Int).toNat (⟨(rd_T45 y200 (ji32)).f0,(rd_T45 y200 (ji32)).f1,wrap64 (Int.tdiv ((rd_T45 y200 (ji32)).f2) 2)⟩ : S45)):=⟨_,rfl⟩
             replace H : (if (ji32) < (l0_0.length : Int) then (if (((rd_T45 y204 (ji32)).f0) == ((rd_T45 l0_0 (ji32)).f0) && (((rd_T45 y204 (ji32)).f1) == ((rd_T45 l0_0 (ji32)).f1) && (((rd_T45 y204 (ji32)).f2) == ((rd_T45 l0_0 (ji32)).f2)))) = true then ((some (y204.set ((ji32) : Int).toNat (⟨(rd_T45 y204 (ji32)).f0,(rd_T45 y204 (ji32)).f1,1⟩ : S45) : List (S45))).bind fun y207 => ((iso_Is.f l0_0 l0_1 y207 l0_1 x5_2).bind fun t208 => (if (t208 == (((rd_T45 y207 (ji32)).f0) == ((rd_T45 l0_0 (ji32)).f0) && (((rd_T45 y207 (ji32)).f1) == ((rd_T45 l0_0 (ji32)).f1) && (((rd_T45 y207 (ji32)).f2) == ((rd_T45 l0_0 (ji32)).f2))))) = true then (if 1 ≤ (l0_1.length : Int) then ((iso_Is.f l0_0 l0_1 l0_0 (l0_1.drop 1) x5_2).bind fun t215 => (if t215 = true then (some false) else ((lapidarylaw13_known.f).bind fun t216 => (some t216)))) else (none)) else (some false)))) else ((iso_Is.f l0_0 l0_1 y204 l0_1 x5_2).bind fun t217 => (if (t217 == (((rd_T45 y204 (ji32)).f0) == ((rd_T45 l0_0 (ji32)).f0) && (((rd_T45 y204 (ji32)).f1) == ((rd_T45 l0_0 (ji32)).f1) && (((rd_T45 y204 (ji32)).f2) == ((rd_T45 l0_0 (ji32)).f2))))) = true then (if 1 ≤ (l0_1.length : Int) then ((iso_Is.f l0_0 l0_1 l0_0 (l0_1.drop 1) x5_2).bind fun t224 => (if t224 = true then (some false) else ((lapidarylaw13_known.f).bind fun t225 => (some t225)))) else (none)) else (some false)))) else (none)) = some r:=by first | (rw [hy204];with_reducible exact H) | (have H2_:=(Option.bind_some _ _).symm.trans H;rw [hy204];with_reducible exact H2_) | (have H2_:=(Option.bind_some _ _).symm.trans H;with_reducible exact H2_) | with_reducible exact H | (rw [hy204];exact H) | exact H
             have Ny204:=aMx16 hy204
             clear hy204
             by_cases c36 : (ji32) < (l0_0.length : Int)
             ·rw [if_pos c36] at H
              have c36b0 : decide ((ji32) < (l0_0.length : Int)) = true:=decide_eq_true c36
              clear c36
              by_cases c37 : (((rd_T45 y204 (ji32)).f0) == ((rd_T45 l0_0 (ji32)).f0) && (((rd_T45 y204 (ji32)).f1) == ((rd_T45 l0_0 (ji32)).f1) && (((rd_T45 y204 (ji32)).f2) == ((rd_T45 l0_0 (ji32)).f2)))) = true
              ·rw [if_pos c37] at H
               have c37b0 : (((rd_T45 y204 (ji32)).f0) == ((rd_T45 l0_0 (ji32)).f0) && (((rd_T45 y204 (ji32)).f1) == ((rd_T45 l0_0 (ji32)).f1) && (((rd_T45 y204 (ji32)).f2) == ((rd_T45 l0_0 (ji32)).f2)))) = true:=c37
               (try (have c37b1 : decide (((rd_T45 y204 (ji32)).f0) = ((rd_T45 l0_0 (ji32)).f0) && (((rd_T45 y204 (ji32)).f1) == ((rd_T45 l0_0 (ji32)).f1) && (((rd_T45 y204 (ji32)).f2) == ((rd_T45 l0_0 (ji32)).f2)))) = true:=by simpa using c37))
               (try (have c37b2 : (((rd_T45 y204 (ji32)).f0) == ((rd_T45 l0_0 (ji32)).f0) && (((rd_T45 y204 (ji32)).f1) == ((rd_T45 l0_0 (ji32)).f1) && (((rd_T45 y204 (ji32)).f2) == ((rd_T45 l0_0 (ji32)).f2)))) = true:=by simpa using c37))
               clear c37
               obtain ⟨y207,hy207⟩ : ∃ y_ : List (S45),y_ = (y204.set ((ji32) : Int).toNat (⟨(rd_T45 y204 (ji32)).f0,(rd_T45 y204 (ji32)).f1,1⟩ : S45)):=⟨_,rfl⟩
               replace H : ((iso_Is.f l0_0 l0_1 y207 l0_1 x5_2).bind fun t208 => (if (t208 == (((rd_T45 y207 (ji32)).f0) == ((rd_T45 l0_0 (ji32)).f0) && (((rd_T45 y207 (ji32)).f1) == ((rd_T45 l0_0 (ji32)).f1) && (((rd_T45 y207 (ji32)).f2) == ((rd_T45 l0_0 (ji32)).f2))))) = true then (if 1 ≤ (l0_1.length : Int) then ((iso_Is.f l0_0 l0_1 l0_0 (l0_1.drop 1) x5_2).bind fun t215 => (if t215 = true then (some false) else ((lapidarylaw13_known.f).bind fun t216 => (some t216)))) else (none)) else (some false))) = some r:=by first | (rw [hy207];with_reducible exact H) | (have H2_:=(Option.bind_some _ _).symm.trans H;rw [hy207];with_reducible exact H2_) | (have H2_:=(Option.bind_some _ _).symm.trans H;with_reducible exact H2_) | with_reducible exact H | (rw [hy207];exact H) | exact H
               have Ny207:=aMx16 hy207
               clear hy207
               replace H:=Option.bind_eq_some_iff.mp H
               obtain ⟨t208,A390,H⟩:=H
               replace H : (if (t208 == (((rd_T45 y207 (ji32)).f0) == ((rd_T45 l0_0 (ji32)).f0) && (((rd_T45 y207 (ji32)).f1) == ((rd_T45 l0_0 (ji32)).f1) && (((rd_T45 y207 (ji32)).f2) == ((rd_T45 l0_0 (ji32)).f2))))) = true then (if 1 ≤ (l0_1.length : Int) then ((iso_Is.f l0_0 l0_1 l0_0 (l0_1.drop 1) x5_2).bind fun t215 => (if t215 = true then (some false) else ((lapidarylaw13_known.f).bind fun t216 => (some t216)))) else (none)) else (some false)) = some r:=H
               have A39:=aMx16 A390
               clear A390
               by_cases c40 : (t208 == (((rd_T45 y207 (ji32)).f0) == ((rd_T45 l0_0 (ji32)).f0) && (((rd_T45 y207 (ji32)).f1) == ((rd_T45 l0_0 (ji32)).f1) && (((rd_T45 y207 (ji32)).f2) == ((rd_T45 l0_0 (ji32)).f2))))) = true
               ·rw [if_pos c40] at H
                have c40b0 : (t208 == (((rd_T45 y207 (ji32)).f0) == ((rd_T45 l0_0 (ji32)).f0) && (((rd_T45 y207 (ji32)).f1) == ((rd_T45 l0_0 (ji32)).f1) && (((rd_T45 y207 (ji32)).f2) == ((rd_T45 l0_0 (ji32)).f2))))) = true:=c40
                (try (have c40b1 : decide (t208 = (((rd_T45 y207 (ji32)).f0) == ((rd_T45 l0_0 (ji32)).f0) && (((rd_T45 y207 (ji32)).f1) == ((rd_T45 l0_0 (ji32)).f1) && (((rd_T45 y207 (ji32)).f2) == ((rd_T45 l0_0 (ji32)).f2))))) = true:=by simpa using c40))
                (try (have c40b2 : (t208 == (((rd_T45 y207 (ji32)).f0) == ((rd_T45 l0_0 (ji32)).f0) && (((rd_T45 y207 (ji32)).f1) == ((rd_T45 l0_0 (ji32)).f1) && (((rd_T45 y207 (ji32)).f2) == ((rd_T45 l0_0 (ji32)).f2))))) = true:=by simpa using c40))
                clear c40
                by_cases c41 : 1 ≤ (l0_1.length : Int)
                ·rw [if_pos c41] at H
                 have c41b0:=eq_true c41
                 have c41b1 : decide (1 ≤ (l0_1.length : Int)) = true:=decide_eq_true c41
                 clear c41
                 obtain ⟨y211,hy211⟩ : ∃ y_ : List (S57),y_ = (l0_1.drop 1):=⟨_,rfl⟩
                 replace H : ((iso_Is.f l0_0 l0_1 l0_0 y211 x5_2).bind fun t215 => (if t215 = true then (some false) else ((lapidarylaw13_known.f).bind fun t216 => (some t216)))) = some r:=by first | (rw [hy211];with_reducible exact H) | (have H2_:=(Option.bind_some _ _).symm.trans H;rw [hy211];with_reducible exact H2_) | (have H2_:=(Option.bind_some _ _).symm.trans H;with_reducible exact H2_) | with_reducible exact H | (rw [hy211];exact H) | exact H
                 have Ny211:=aMx16 hy211
                 clear hy211
                 replace H:=Option.bind_eq_some_iff.mp H
                 obtain ⟨t215,A420,H⟩:=H
                 replace H : (if t215 = true then (some false) else ((lapidarylaw13_known.f).bind fun t216 => (some t216))) = some r:=H
                 have A42:=aMx16 A420
                 clear A420
                 by_cases c43 : t215 = true
                 ·subst c43
                  have H1 : (some false) = some r:=by rw [if_pos rfl] at H;exact H
                  exact absurd (Option.some.inj H1) (by rw [HRT.out];decide)
                 ·replace c43:=Bool.eq_false_iff.mpr c43
                  subst c43
                  have H1 : ((lapidarylaw13_known.f).bind fun t216 => (some t216)) = some r:=by rw [if_neg (show ¬ (false = true) by decide)] at H;exact H
                  clear H
                  have H:=H1
                  clear H1
                  replace H:=Option.bind_eq_some_iff.mp H
                  obtain ⟨t216,A590,H⟩:=H
                  replace H : (some t216) = some r:=H
                  have A59:=aMx16 A590
                  clear A590
                  obtain rfl:=Option.some.inj H
                  have hcz60_0:=bcx16 BK191.out 0 rfl
                  have hcz60_1:=bcx16 BK191.out 1 rfl
                  obtain ⟨Ao61,co61,eo61⟩:=Kd.R_slice HO_5.out
                  subst eo61
                  try go_wp2_with (first|((with_reducible refine gate_callee (f:=15) rfl ?_);refine goesL_ (some 31) rfl rfl Tryd.func15 (by kernel_rfl) rfl #[.agg #[.slice A0_0 l0_0.length c0_0,.slice A0_1 l0_1.length c0_1],.agg #[.slice A0_0 l0_0.length c0_0,.slice A0_1 l0_1.length c0_1],.slice Ao61 x5_2.length co61] rfl (by (try simp only [List.map_toArray,List.map_cons,List.map_nil]);first|done|rfl|(simp only [List.length_drop,List.length_take];rfl)) ?_;(with_reducible refine (iso_Is.calls _ _ l0_0 _ _ l0_1 _ _ l0_0 _ _ l0_1 _ _ x5_2 true _ ?side1 ?side2 ?side3 ?side4 ?side5 ?side6 ?side7 ?side8 ?side9 ?side10 ?sideG A21.out).mono ?_);(case sideG => exact Kd.C_below HG.out (by repeat (first|(with_reducible first|exact HB.out|apply below_alloc|apply pw_below_drewN|apply below_drew1|refine below_set ?_ GE191.out)|exact HB.out)));(case side1 => repeat (first|exact (Kd.C_below HR0_0.out HB.out)|(with_reducible first|refine Kd.C_alloc ?_ _|refine Kd.C_drewN ?_ _|refine Kd.C_drew ?_)));(case side2 => exact HC0_0.out);(case side3 => repeat (first|exact (Kd.C_below HR0_1.out HB.out)|(with_reducible first|refine Kd.C_alloc ?_ _|refine Kd.C_drewN ?_ _|refine Kd.C_drew ?_)));(case side4 => exact HC0_1.out);(case side5 => repeat (first|exact (Kd.C_below HR0_0.out HB.out)|(with_reducible first|refine Kd.C_alloc ?_ _|refine Kd.C_drewN ?_ _|refine Kd.C_drew ?_)));(case side6 => exact HC0_0.out);(case side7 => repeat (first|exact (Kd.C_below HR0_1.out HB.out)|(with_reducible first|refine Kd.C_alloc ?_ _|refine Kd.C_drewN ?_ _|refine Kd.C_drew ?_)));(case side8 => exact HC0_1.out);(case side9 => repeat (first|exact (Kd.R_reads' HO_5.out).2.2|(with_reducible first|refine Kd.C_alloc ?_ _|refine Kd.C_drewN ?_ _|refine Kd.C_drew ?_)));(case side10 => exact (Kd.R_reads' HO_5.out).2.1);rintro e w62 ⟨rfl,hb⟩;refine ⟨_,rfl,?_⟩;have n0_:=aMx16 (Kd.R_below (by (with_reducible repeat (first|apply Kd.R_alloc|apply Kd.R_drewN|apply Kd.R_drew));exact HO_5.out) hb);have n1_:=aMx16 (blk_below (g:=gb191) (o:=.cells #[.slice A0_0 l0_0.length c0_0,.slice A0_1 l0_1.length c0_1] 25 (0,0)) (by (with_reducible repeat (first|refine blk_drewN ?_ _|refine blk_drew ?_|refine blk_alloc ?_ _));exact BK191.out) hb);have n2_:=aMx16 (below_step (by repeat (first|(with_reducible first|exact HB.out|apply below_alloc|apply pw_below_drewN|apply below_drew1|refine below_set ?_ GE191.out)|exact HB.out)) hb);clear HO_5;clear BK191;clear HB;have HO_5:=n0_;have BK191:=n1_;have HB:=n2_;clear n0_ n1_ n2_;(try clear hb);(try clear hb2);(try clear hk);(try clear hi);have hcz63_0:=bcx16 BK191.out 0 rfl;have hcz63_1:=bcx16 BK191.out 1 rfl;have hfz63_0:=blk_frozen BK191.out 0;have hfz63_1:=blk_frozen BK191.out 1)|((with_reducible refine gate_builtin (b:=.append) (xs:=#[.tmp 38,.tmp 40]) rfl ?_);at_builtin;refine Kd.R_append_rows k45 (w0:=w) w.heap.size rfl (.tmp 38) (.tmp 40) 22 45 (.agg #[(.int .i64 0),(.int .i64 0),(.int .i64 0)]) 24 rfl Tryd.underlying22 info45 rfl (by decide) (by omega) (.slice none 0 0) ([] : List (S45)) l0_0 _ _ _ (fun _ => True) (fun _ => False) rfl rfl ?aO ?aR (fun _ _ h => h) (fun _ h => h.elim) ?aF ?aB ?aS ?aL ?_;(case aR => repeat (first|exact (Kd.C_below HR0_0.out HB.out)|(with_reducible first|refine Kd.C_alloc ?_ _|refine Kd.C_drewN ?_ _|refine Kd.C_drew ?_)));(case aB => exact (by repeat (first|(with_reducible first|exact HB.out|apply below_alloc|apply pw_below_drewN|apply below_drew1|refine below_set ?_ GE191.out)|exact HB.out)));(case aF => exact (fun _ _ => trivial));(case aO => exact ((Kd.R_nil _ _ _ _ (fun _ => True))));(case aS => exact (below_size (by repeat (first|(with_reducible first|exact HB.out|apply below_alloc|apply pw_below_drewN|apply below_drew1|refine below_set ?_ GE191.out)|exact HB.out))));(case aL => have:=LMc30.out;omega);intro v201 w64 ho hb hg hat;rw [← Ny200.out] at ho;have n0_:=aMx16 (Kd.R_grown (by (with_reducible repeat (first|apply Kd.R_alloc|apply Kd.R_drewN|apply Kd.R_drew));exact HO_5.out) hg (fun _ _ => by simp [Value.ownBlock]));have n1_:=aMx16 (blk_grown (g:=gb191) (o:=.cells #[.slice A0_0 l0_0.length c0_0,.slice A0_1 l0_1.length c0_1] 25 (0,0)) (by (with_reducible repeat (first|refine blk_drewN ?_ _|refine blk_drew ?_|refine blk_alloc ?_ _));exact BK191.out) hg (by simp [Value.ownBlock]));have n2_:=aMx16 (hb);have n3_:=aMx16 (ho);clear HO_5;clear BK191;clear HB;have HO_5:=n0_;have BK191:=n1_;have HB:=n2_;have HO202:=n3_;clear n0_ n1_ n2_ n3_;clear ho hb hg hat;obtain ⟨Ao65,co65,eo65⟩:=Kd.R_slice HO202.out;subst eo65;have p203 : 0 ≤ ((ji32) : Int):=of_decide_eq_true (by first|(with_reducible assumption)|assumption);have q203 : (ji32) < (y200.length : Int):=of_decide_eq_true (by first|(with_reducible assumption)|assumption);obtain ⟨ad203,e203,hx203_0,hx203_1,hx203_2⟩:=at_T45 (Kd.R_reads' HO202.out).2.2 (ji32) p203 q203;cases e203;replace p203:=eq_true p203;replace q203:=eq_true q203;have p35 : 0 ≤ ((ji32) : Int):=of_decide_eq_true (by first|(with_reducible assumption)|assumption);have q35 : ((ji32) : Int) < ((y200.length : Int) : Int):=of_decide_eq_true (by first|(with_reducible assumption)|assumption);obtain ⟨go35,co35,eo35,gb35,gl35,cl35,HG35⟩:=Kd.R_form HO202.out (by omega);(first|cases eo35|(injection eo35 with ea_ en_ ec_;(first|subst ea_|(injection ea_ with ea_;subst ea_));subst ec_;clear en_));have GB35:=aMx16 gb35;have GG35:=aMx16 HG35;clear gb35 gl35 HG35;(first|simp only [add_plain] at hx203_0|skip);(first|simp only [add_plain] at hx203_1|skip);(first|simp only [add_plain] at hx203_2|skip);obtain ⟨ce35,hcl35,hM35,hcc35,hfr35⟩:=Kd.R_elem HO202.out z45 ((ji32) : Int) p35 q35;obtain rfl:=k45_openM hM35;have hx35_0 : w64.cell? ⟨go35,((ji32) : Int).toNat * 3,none⟩ = some (.int .i64 ((rd_T45 y200 (ji32)).f0)):=hcc35 0 _ rfl;have hx35_1 : w64.cell? ⟨go35,((ji32) : Int).toNat * 3+1,none⟩ = some (.int .i64 ((rd_T45 y200 (ji32)).f1)):=hcc35 1 _ rfl;have hx35_2 : w64.cell? ⟨go35,((ji32) : Int).toNat * 3+2,none⟩ = some (.int .i64 ((rd_T45 y200 (ji32)).f2)):=hcc35 2 _ rfl;have hf35_0 : w64.frozen? ⟨go35,((ji32) : Int).toNat * 3,none⟩ = false:=hfr35 0;have hf35_1 : w64.frozen? ⟨go35,((ji32) : Int).toNat * 3+1,none⟩ = false:=hfr35 1;have hf35_2 : w64.frozen? ⟨go35,((ji32) : Int).toNat * 3+2,none⟩ = false:=hfr35 2;clear hcl35 hcc35 hfr35 hM35;replace p35:=eq_true p35;replace q35:=eq_true q35;have HX66:=aMx16 (show Kd.R k45 45 w64 w.heap.size (fun _ => True) (.slice (some ⟨go35,0,none⟩) y200.length co65) y200 from (by (with_reducible repeat (first|apply Kd.R_alloc|apply Kd.R_drewN|apply Kd.R_drew));exact HO202.out));obtain ⟨ce66,hcl66,hM66,hcc66,hfr66⟩:=Kd.R_elem HX66.out z45 ((ji32) : Int) (of_decide_eq_true (by first|(with_reducible assumption)|assumption)) (by have h_ : ((ji32) : Int) < ((y200.length : Int) : Int):=of_decide_eq_true (by first|(with_reducible assumption)|assumption);first|exact h_|(have e_:=(Kd.R_reads' HO202.out).1;omega)|simpa using h_);obtain rfl:=k45_openM hM66;have HP66:=Kd.R_seg HX66.out ((ji32) : Int) (of_decide_eq_true (by first|(with_reducible assumption)|assumption)) (by have h_ : ((ji32) : Int) < ((y200.length : Int) : Int):=of_decide_eq_true (by first|(with_reducible assumption)|assumption);first|exact h_|(have e_:=(Kd.R_reads' HO202.out).1;omega)|simpa using h_) (seg:=[.int .i64 (wrap64 (Int.tdiv ((rd_T45 y200 (ji32)).f2) 2))]) (j:=2) hcl66 hcc66 (show 3 ≤ 3 from by decide) (x':=(⟨(rd_T45 y200 (ji32)).f0,(rd_T45 y200 (ji32)).f1,wrap64 (Int.tdiv ((rd_T45 y200 (ji32)).f2) 2)⟩ : S45)) (k45_mkM _ _ _ (⟨(rd_T45 y200 (ji32)).f0,(rd_T45 y200 (ji32)).f1,wrap64 (Int.tdiv ((rd_T45 y200 (ji32)).f2) 2)⟩ : S45) ) (fun _ hk => hk);have hx66_2:=hcc66 2 _ rfl;(try simp only [show (k45).sz = 3 from rfl,Nat.mul_one,Nat.add_zero] at hx66_2);have hf66_2:=hfr66 2;(try simp only [show (k45).sz = 3 from rfl,Nat.mul_one,Nat.add_zero] at hf66_2);clear hcl66 hcc66 hfr66 hM66)|((with_reducible refine gate_store (t:=3) (p:=56) rfl ?_);refine store_event (t:=3) (p:=56) (v:=?vo_w67) (w1:=(w64.setCell ⟨go35,((ji32) : Int).toNat * 3+2,none⟩ (.int .i64 (wrap64 (Int.tdiv ((rd_T45 y200 (ji32)).f2) 2))))) ?hg ?ho ?hn ?hr ?_;(case ho => rfl);(case hg => rfl);(case hn => rfl);(case hr => first|(go_simp;done)|(go_simp;rfl));intro w67 hw;have hg : w64.grownBy w67 (some go35):=(by rw [hw];exact HP66.2);have hp_ : Kd.R k45 45 w67 w.heap.size (fun _ => True) (.slice (some ⟨go35,0,none⟩) y200.length co65) y204:=(by rw [hw,Ny204.out];exact HP66.1);clear HP66;have n0_:=aMx16 (Kd.R_over' (v:=(.slice (some ⟨go35,0,none⟩) y200.length co65)) (by (with_reducible repeat (first|apply Kd.R_alloc|apply Kd.R_drewN|apply Kd.R_drew));exact HO_5.out) (Kd.R_typed HO202.out) (by decide) hg);have n1_:=aMx16 (blk_grown (g:=gb191) (o:=.cells #[.slice A0_0 l0_0.length c0_0,.slice A0_1 l0_1.length c0_1] 25 (0,0)) (by (with_reducible repeat (first|refine blk_drewN ?_ _|refine blk_drew ?_|refine blk_alloc ?_ _));exact BK191.out) hg (Kd.R_ne HO202.out BK191.out (by decide)));have n2_:=aMx16 (hp_);have n3_:=aMx16 ((by rw [hw];exact below_set (HB.out) GB35.out : Below w.heap.size w w67));clear HO_5;clear BK191;clear HO202;clear HB;have HO_5:=n0_;have BK191:=n1_;have HO202:=n2_;have HB:=n3_;clear n0_ n1_ n2_ n3_;clear hg hw hp_))
                  have n0_:=aMx16 (Kd.R_drew HO_5.out)
                  have n1_:=aMx16 (Kd.R_drew HO202.out)
                  have n2_:=aMx16 (blk_drew BK191.out)
                  have n3_:=aMx16 (below_drew1 HB.out)
                  clear HO_5
                  clear HO202
                  clear BK191
                  clear HB
                  have HO_5:=n0_
                  have HO202:=n1_
                  have BK191:=n2_
                  have HB:=n3_
                  clear n0_ n1_ n2_ n3_
                  have p205 : 0 ≤ ((ji32) : Int):=of_decide_eq_true (by first | (with_reducible assumption) | assumption)
                  have q205 : (ji32) < (y204.length : Int):=(by have h_ : ((ji32) : Int) < ((y200.length : Int) : Int):=of_decide_eq_true (by first | (with_reducible assumption) | assumption);first | (have e_:=(Kd.R_reads' HO202.out).1;omega) | simpa only [Ny204.out,List.length_set] using h_)
                  have ql205 : (((ji32) : Int) < ((y200.length : Int) : Int)) = True:=eq_true (of_decide_eq_true (by first | (with_reducible assumption) | assumption))
                  obtain ⟨ad205,e205,hx205_0,hx205_1,hx205_2⟩:=at_T45 (Kd.R_reads' HO202.out).2.2 (ji32) p205 q205
                  obtain rfl : (⟨go35,0,none⟩ : Addr) = ad205:=(by injection e205)
                  (first | simp only [add_plain] at hx205_0 | simp only [add_at] at hx205_0 | simp only [Addr.add,Nat.zero_add] at hx205_0 | skip)
                  (first | simp only [add_plain] at hx205_1 | simp only [add_at] at hx205_1 | simp only [Addr.add,Nat.zero_add] at hx205_1 | skip)
                  (first | simp only [add_plain] at hx205_2 | simp only [add_at] at hx205_2 | simp only [Addr.add,Nat.zero_add] at hx205_2 | skip)
                  replace p205:=eq_true p205
                  replace q205:=eq_true q205
                  have p206 : 0 ≤ ((ji32) : Int):=of_decide_eq_true (by first | (with_reducible assumption) | assumption)
                  have q206 : (ji32) < (l0_0.length : Int):=of_decide_eq_true (by first | (with_reducible assumption) | assumption)
                  obtain ⟨ad206,e206,hx206_0,hx206_1,hx206_2⟩:=at_T45 HR0_0.out (ji32) p206 q206
                  have hw206_2:=hx206_2
                  have hw206_1:=hx206_1
                  have hw206_0:=hx206_0
                  cases e206
                  replace hx206_0:=(HB.out.cell (World.block_lt_of_cell? w _ hx206_0)).trans hx206_0
                  replace hx206_1:=(HB.out.cell (World.block_lt_of_cell? w _ hx206_1)).trans hx206_1
                  replace hx206_2:=(HB.out.cell (World.block_lt_of_cell? w _ hx206_2)).trans hx206_2
                  replace p206:=eq_true p206
                  replace q206:=eq_true q206
                  refine start_ (n:=10) (S:=fun w' => w'.cell? ⟨gb191,0,none⟩ = some (.slice (some ad206) l0_0.length c0_0) ∧ w'.cell? ⟨gb191,1,none⟩ = some (.slice A0_1 l0_1.length c0_1) ∧ w'.cell? ⟨go35,((ji32)).toNat * 3,none⟩ = some (.int .i64 ((rd_T45 y204 (ji32)).f0)) ∧ w'.cell? ⟨go35,((ji32)).toNat * 3+1,none⟩ = some (.int .i64 ((rd_T45 y204 (ji32)).f1)) ∧ w'.cell? ⟨go35,((ji32)).toNat * 3+2,none⟩ = some (.int .i64 ((rd_T45 y204 (ji32)).f2)) ∧ w'.cell? (ad206.add (((ji32)).toNat * 3)) = some (.int .i64 ((rd_T45 l0_0 (ji32)).f0)) ∧ w'.cell? ⟨(ad206.add (((ji32)).toNat * 3)).block,(ad206.add (((ji32)).toNat * 3)).off+1,none⟩ = some (.int .i64 ((rd_T45 l0_0 (ji32)).f1)) ∧ w'.cell? ⟨(ad206.add (((ji32)).toNat * 3)).block,(ad206.add (((ji32)).toNat * 3)).off+2,none⟩ = some (.int .i64 ((rd_T45 l0_0 (ji32)).f2))) (ds:=[]) #[false,false,false,false,false,false,false,false,false,false] (by kernel_rfl) rfl rfl ⟨(blk_cell BK191.out 0).trans rfl,(blk_cell BK191.out 1).trans rfl,hx205_0,hx205_1,hx205_2,((HB.out.cell (World.block_lt_of_cell? w _ hw206_0)).trans hw206_0),((HB.out.cell (World.block_lt_of_cell? w _ hw206_1)).trans hw206_1),((HB.out.cell (World.block_lt_of_cell? w _ hw206_2)).trans hw206_2)⟩ (fun hHeld => ?_);refine with_tabW lapidarylaw13_IsoSelf.tab16 lapidarylaw13_IsoSelf.bits16 (fun HT_ HW_ => ?_)
                  generalize w67.drew = w68 at HO_5 HO202 BK191 HB hx205_0 hx205_1 hx205_2 hx206_0 hx206_1 hx206_2 hHeld ⊢
                  refine pure_ (i:=0) (N:=some 57) (v:=?_) (a':=?_) #[true,false,false,false,false,false,false,false,false,false] rfl rfl (any_of HT_.out (by kernel_rfl)) (fun _ _ _ h => h) (Or.inl ⟨by rfl,?_⟩) ?_ ?_
                  rotate_left
                  ·intro w'
                   go_simp
                   with_reducible rfl
                  rotate_left
                  ·simp only [Act.put,sAx16,sBx16,sCx16,i64_w,i32_w]
                   rfl
                  refine pure_ (i:=1) (N:=some 58) (v:=?_) (a':=?_) #[true,true,false,false,false,false,false,false,false,false] rfl rfl (any_of HT_.out (by kernel_rfl)) (fun _ _ _ h => h) (Or.inl ⟨by rfl,?_⟩) ?_ ?_
                  rotate_left
                  ·intro w'
                   go_simp
                   with_reducible rfl
                  rotate_left
                  ·simp only [Act.put,sAx16,sBx16,sCx16,i64_w,i32_w]
                   rfl
                  refine pure_ (i:=2) (N:=some 59) (v:=?_) (a':=?_) #[true,true,true,false,false,false,false,false,false,false] rfl rfl (any_of HT_.out (by kernel_rfl)) (fun _ _ _ h => h) (Or.inl ⟨by rfl,?_⟩) ?_ ?_
                  rotate_left
                  ·intro w'
                   go_simp
                   with_reducible rfl
                  rotate_left
                  ·simp only [Act.put,sAx16,sBx16,sCx16,i64_w,i32_w]
                   rfl
                  refine pure_ (i:=4) (N:=some 61) (v:=?_) (a':=?_) #[true,true,true,false,true,false,false,false,false,false] rfl rfl (any_of HT_.out (by kernel_rfl)) (fun _ _ _ h => h) (Or.inl ⟨by rfl,?_⟩) ?_ ?_
                  rotate_left
                  ·intro w'
                   go_simp
                   with_reducible rfl
                  rotate_left
                  ·simp only [Act.put,sAx16,sBx16,sCx16,i64_w,i32_w]
                   rfl
                  refine pure_ (i:=6) (N:=some 63) (v:=?_) (a':=?_) #[true,true,true,false,true,false,true,false,false,false] rfl rfl (any_of HT_.out (by kernel_rfl)) (fun _ _ _ h => h) (Or.inl ⟨by rfl,?_⟩) ?_ ?_
                  rotate_left
                  ·intro w'
                   go_simp
                   with_reducible rfl
                  rotate_left
                  ·simp only [Act.put,sAx16,sBx16,sCx16,i64_w,i32_w]
                   rfl
                  refine take_ (i:=3) (N:=some 60) (v:=?_) (a':=?_) #[true,true,true,true,true,false,true,false,false,false] rfl rfl (take_ofW HT_.out HW_.out (by kernel_rfl)) (fun _ _ _ h => h) (Or.inl ⟨by rfl,?_⟩) hHeld ?_ ?_
                  rotate_left
                  ·rintro w' ⟨s0,s1,s2,s3,s4,s5,s6,s7⟩
                   go_simp
                   with_reducible rfl
                  rotate_left
                  ·simp only [Act.put,sAx16,sBx16,sCx16,i64_w,i32_w]
                   rfl
                  refine take_ (i:=5) (N:=some 62) (v:=?_) (a':=?_) #[true,true,true,true,true,true,true,false,false,false] rfl rfl (take_ofW HT_.out HW_.out (by kernel_rfl)) (fun _ _ _ h => h) (Or.inl ⟨by rfl,?_⟩) hHeld ?_ ?_
                  rotate_left
                  ·rintro w' ⟨s0,s1,s2,s3,s4,s5,s6,s7⟩
                   go_simp
                   with_reducible rfl
                  rotate_left
                  ·simp only [Act.put,sAx16,sBx16,sCx16,i64_w,i32_w]
                   rfl
                  refine pure_ (i:=7) (N:=some 64) (v:=?_) (a':=?_) #[true,true,true,true,true,true,true,true,false,false] rfl rfl (any_of HT_.out (by kernel_rfl)) (fun _ _ _ h => h) (Or.inl ⟨by rfl,?_⟩) ?_ ?_
                  rotate_left
                  ·intro w'
                   go_simp
                   with_reducible rfl
                  rotate_left
                  ·simp only [Act.put,sAx16,sBx16,sCx16,i64_w,i32_w]
                   rfl
                  refine take_ (i:=8) (N:=some 65) (v:=?_) (a':=?_) #[true,true,true,true,true,true,true,true,true,false] rfl rfl (take_ofW HT_.out HW_.out (by kernel_rfl)) (fun _ _ _ h => h) (Or.inl ⟨by rfl,?_⟩) hHeld ?_ ?_
                  rotate_left
                  ·rintro w' ⟨s0,s1,s2,s3,s4,s5,s6,s7⟩
                   go_simp
                   with_reducible rfl
                  rotate_left
                  ·simp only [Act.put,sAx16,sBx16,sCx16,i64_w,i32_w]
                   rfl
                  refine pure_ (i:=9) (N:=some 66) (v:=?_) (a':=?_) #[true,true,true,true,true,true,true,true,true,true] rfl rfl (any_of HT_.out (by kernel_rfl)) (fun _ _ _ h => h) (Or.inl ⟨by rfl,?_⟩) ?_ ?_
                  rotate_left
                  ·intro w'
                   go_simp
                   with_reducible rfl
                  rotate_left
                  ·simp only [Act.put,sAx16,sBx16,sCx16,i64_w,i32_w]
                   rfl
                  refine done_ (done_of HT_.out (by kernel_rfl)) ?_
                  have p38 : 0 ≤ ((ji32) : Int):=of_decide_eq_true (by first | (with_reducible assumption) | assumption)
                  have q38 : ((ji32) : Int) < ((y200.length : Int) : Int):=of_decide_eq_true (by first | (with_reducible assumption) | assumption)
                  obtain ⟨ce38,hcl38,hM38,hcc38,hfr38⟩:=Kd.R_elem HO202.out z45 ((ji32) : Int) p38 q38
                  obtain rfl:=k45_openM hM38
                  have hx38_0 : w68.cell? ⟨go35,((ji32) : Int).toNat * 3,none⟩ = some (.int .i64 ((rd_T45 y204 (ji32)).f0)):=hcc38 0 _ rfl
                  have hx38_1 : w68.cell? ⟨go35,((ji32) : Int).toNat * 3+1,none⟩ = some (.int .i64 ((rd_T45 y204 (ji32)).f1)):=hcc38 1 _ rfl
                  have hx38_2 : w68.cell? ⟨go35,((ji32) : Int).toNat * 3+2,none⟩ = some (.int .i64 ((rd_T45 y204 (ji32)).f2)):=hcc38 2 _ rfl
                  have hf38_0 : w68.frozen? ⟨go35,((ji32) : Int).toNat * 3,none⟩ = false:=hfr38 0
                  have hf38_1 : w68.frozen? ⟨go35,((ji32) : Int).toNat * 3+1,none⟩ = false:=hfr38 1
                  have hf38_2 : w68.frozen? ⟨go35,((ji32) : Int).toNat * 3+2,none⟩ = false:=hfr38 2
                  clear hcl38 hcc38 hfr38 hM38
                  replace p38:=eq_true p38
                  replace q38:=eq_true q38
                  have HX69:=aMx16 (show Kd.R k45 45 w68 w.heap.size (fun _ => True) (.slice (some ⟨go35,0,none⟩) y200.length co65) y204 from (by (with_reducible repeat (first | apply Kd.R_alloc | apply Kd.R_drewN | apply Kd.R_drew));exact HO202.out))
                  obtain ⟨ce69,hcl69,hM69,hcc69,hfr69⟩:=Kd.R_elem HX69.out z45 ((ji32) : Int) (of_decide_eq_true (by first | (with_reducible assumption) | assumption)) (by have h_ : ((ji32) : Int) < ((y200.length : Int) : Int):=of_decide_eq_true (by first | (with_reducible assumption) | assumption);first | exact h_ | (have e_:=(Kd.R_reads' HO202.out).1;omega) | simpa using h_)
                  obtain rfl:=k45_openM hM69
                  have HP69:=Kd.R_seg HX69.out ((ji32) : Int) (of_decide_eq_true (by first | (with_reducible assumption) | assumption)) (by have h_ : ((ji32) : Int) < ((y200.length : Int) : Int):=of_decide_eq_true (by first | (with_reducible assumption) | assumption);first | exact h_ | (have e_:=(Kd.R_reads' HO202.out).1;omega) | simpa using h_) (seg:=[.int .i64 1]) (j:=2) hcl69 hcc69 (show 3 ≤ 3 from by decide) (x':=(⟨(rd_T45 y204 (ji32)).f0,(rd_T45 y204 (ji32)).f1,1⟩ : S45)) (k45_mkM _ _ _ (⟨(rd_T45 y204 (ji32)).f0,(rd_T45 y204 (ji32)).f1,1⟩ : S45) ) (fun _ hk => hk)
                  have hx69_2:=hcc69 2 _ rfl
                  (try simp only [show (k45).sz = 3 from rfl,Nat.mul_one,Nat.add_zero] at hx69_2)
                  have hf69_2:=hfr69 2
                  (try simp only [show (k45).sz = 3 from rfl,Nat.mul_one,Nat.add_zero] at hf69_2)
                  clear hcl69 hcc69 hfr69 hM69
                  try go_wp2_with (first|((with_reducible refine gate_store (t:=3) (p:=70) rfl ?_);refine store_event (t:=3) (p:=70) (v:=?vo_w70) (w1:=(w68.setCell ⟨go35,((ji32) : Int).toNat * 3+2,none⟩ (.int .i64 1))) ?hg ?ho ?hn ?hr ?_;(case ho => rfl);(case hg => rfl);(case hn => rfl);(case hr => first|(go_simp;done)|(go_simp;rfl));intro w70 hw;have hg : w68.grownBy w70 (some go35):=(by rw [hw];exact HP69.2);have hp_ : Kd.R k45 45 w70 w.heap.size (fun _ => True) (.slice (some ⟨go35,0,none⟩) y200.length co65) y207:=(by rw [hw,Ny207.out];exact HP69.1);clear HP69;have n0_:=aMx16 (Kd.R_over' (v:=(.slice (some ⟨go35,0,none⟩) y200.length co65)) (by (with_reducible repeat (first|apply Kd.R_alloc|apply Kd.R_drewN|apply Kd.R_drew));exact HO_5.out) (Kd.R_typed HO202.out) (by decide) hg);have n1_:=aMx16 (blk_grown (g:=gb191) (o:=.cells #[.slice (some ad206) l0_0.length c0_0,.slice A0_1 l0_1.length c0_1] 25 (0,0)) (by (with_reducible repeat (first|refine blk_drewN ?_ _|refine blk_drew ?_|refine blk_alloc ?_ _));exact BK191.out) hg (Kd.R_ne HO202.out BK191.out (by decide)));have n2_:=aMx16 (hp_);have n3_:=aMx16 ((by rw [hw];exact below_set (HB.out) GB35.out : Below w.heap.size w w70));clear HO_5;clear BK191;clear HO202;clear HB;have HO_5:=n0_;have BK191:=n1_;have HO202:=n2_;have HB:=n3_;clear n0_ n1_ n2_ n3_;clear hg hw hp_))
                  have n0_:=aMx16 (Kd.R_drew HO_5.out)
                  have n1_:=aMx16 (Kd.R_drew HO202.out)
                  have n2_:=aMx16 (blk_drew BK191.out)
                  have n3_:=aMx16 (below_drew1 HB.out)
                  clear HO_5
                  clear HO202
                  clear BK191
                  clear HB
                  have HO_5:=n0_
                  have HO202:=n1_
                  have BK191:=n2_
                  have HB:=n3_
                  clear n0_ n1_ n2_ n3_
                  have p209 : 0 ≤ ((ji32) : Int):=of_decide_eq_true (by first | (with_reducible assumption) | assumption)
                  have q209 : (ji32) < (y207.length : Int):=(by have h_ : ((ji32) : Int) < ((y200.length : Int) : Int):=of_decide_eq_true (by first | (with_reducible assumption) | assumption);first | (have e_:=(Kd.R_reads' HO202.out).1;omega) | simpa only [Ny204.out,Ny207.out,List.length_set] using h_)
                  have ql209 : (((ji32) : Int) < ((y200.length : Int) : Int)) = True:=eq_true (of_decide_eq_true (by first | (with_reducible assumption) | assumption))
                  obtain ⟨ad209,e209,hx209_0,hx209_1,hx209_2⟩:=at_T45 (Kd.R_reads' HO202.out).2.2 (ji32) p209 q209
                  obtain rfl : (⟨go35,0,none⟩ : Addr) = ad209:=(by injection e209)
                  (first | simp only [add_plain] at hx209_0 | simp only [add_at] at hx209_0 | simp only [Addr.add,Nat.zero_add] at hx209_0 | skip)
                  (first | simp only [add_plain] at hx209_1 | simp only [add_at] at hx209_1 | simp only [Addr.add,Nat.zero_add] at hx209_1 | skip)
                  (first | simp only [add_plain] at hx209_2 | simp only [add_at] at hx209_2 | simp only [Addr.add,Nat.zero_add] at hx209_2 | skip)
                  replace p209:=eq_true p209
                  replace q209:=eq_true q209
                  have p210 : 0 ≤ ((ji32) : Int):=of_decide_eq_true (by first | (with_reducible assumption) | assumption)
                  have q210 : (ji32) < (l0_0.length : Int):=of_decide_eq_true (by first | (with_reducible assumption) | assumption)
                  obtain ⟨ad210,e210,hx210_0,hx210_1,hx210_2⟩:=at_T45 HR0_0.out (ji32) p210 q210
                  have hw210_2:=hx210_2
                  have hw210_1:=hx210_1
                  have hw210_0:=hx210_0
                  obtain rfl : ad206 = ad210:=(by injection e210)
                  replace hx210_0:=(HB.out.cell (World.block_lt_of_cell? w _ hx210_0)).trans hx210_0
                  replace hx210_1:=(HB.out.cell (World.block_lt_of_cell? w _ hx210_1)).trans hx210_1
                  replace hx210_2:=(HB.out.cell (World.block_lt_of_cell? w _ hx210_2)).trans hx210_2
                  replace p210:=eq_true p210
                  replace q210:=eq_true q210
                  refine start_ (n:=34) (S:=fun w' => w'.cell? ⟨gb191,0,none⟩ = some (.slice (some ad206) l0_0.length c0_0) ∧ w'.cell? ⟨gb191,1,none⟩ = some (.slice A0_1 l0_1.length c0_1) ∧ w'.cell? ⟨go35,((ji32)).toNat * 3,none⟩ = some (.int .i64 ((rd_T45 y207 (ji32)).f0)) ∧ w'.cell? ⟨go35,((ji32)).toNat * 3+1,none⟩ = some (.int .i64 ((rd_T45 y207 (ji32)).f1)) ∧ w'.cell? ⟨go35,((ji32)).toNat * 3+2,none⟩ = some (.int .i64 ((rd_T45 y207 (ji32)).f2)) ∧ w'.cell? (ad206.add (((ji32)).toNat * 3)) = some (.int .i64 ((rd_T45 l0_0 (ji32)).f0)) ∧ w'.cell? ⟨(ad206.add (((ji32)).toNat * 3)).block,(ad206.add (((ji32)).toNat * 3)).off+1,none⟩ = some (.int .i64 ((rd_T45 l0_0 (ji32)).f1)) ∧ w'.cell? ⟨(ad206.add (((ji32)).toNat * 3)).block,(ad206.add (((ji32)).toNat * 3)).off+2,none⟩ = some (.int .i64 ((rd_T45 l0_0 (ji32)).f2))) (ds:=[]) #[false,false,false,false,false,false,false,false,false,false,false,false,false,false,false,false,false,false,false,false,false,false,false,false,false,false,false,false,false,false,false,false,false,false] (by kernel_rfl) rfl rfl ⟨(blk_cell BK191.out 0).trans rfl,(blk_cell BK191.out 1).trans rfl,hx209_0,hx209_1,hx209_2,((HB.out.cell (World.block_lt_of_cell? w _ hw210_0)).trans hw210_0),((HB.out.cell (World.block_lt_of_cell? w _ hw210_1)).trans hw210_1),((HB.out.cell (World.block_lt_of_cell? w _ hw210_2)).trans hw210_2)⟩ (fun hHeld => ?_);refine with_tabW lapidarylaw13_IsoSelf.tab18 lapidarylaw13_IsoSelf.bits18 (fun HT_ HW_ => ?_)
                  generalize w70.drew = w71 at HO_5 HO202 BK191 HB hx209_0 hx209_1 hx209_2 hx210_0 hx210_1 hx210_2 hHeld ⊢
                  refine pure_ (i:=1) (N:=some 72) (v:=?_) (a':=?_) #[false,true,false,false,false,false,false,false,false,false,false,false,false,false,false,false,false,false,false,false,false,false,false,false,false,false,false,false,false,false,false,false,false,false] rfl rfl (any_of HT_.out (by kernel_rfl)) (fun _ _ _ h => h) (Or.inl ⟨by rfl,?_⟩) ?_ ?_
                  rotate_left
                  ·intro w'
                   go_simp
                   with_reducible rfl
                  rotate_left
                  ·simp only [Act.put,sAx16,sBx16,sCx16,i64_w,i32_w]
                   rfl
                  refine pure_ (i:=2) (N:=some 73) (v:=?_) (a':=?_) #[false,true,true,false,false,false,false,false,false,false,false,false,false,false,false,false,false,false,false,false,false,false,false,false,false,false,false,false,false,false,false,false,false,false] rfl rfl (any_of HT_.out (by kernel_rfl)) (fun _ _ _ h => h) (Or.inl ⟨by rfl,?_⟩) ?_ ?_
                  rotate_left
                  ·intro w'
                   go_simp
                   with_reducible rfl
                  rotate_left
                  ·simp only [Act.put,sAx16,sBx16,sCx16,i64_w,i32_w]
                   rfl
                  refine pure_ (i:=5) (N:=some 76) (v:=?_) (a':=?_) #[false,true,true,false,false,true,false,false,false,false,false,false,false,false,false,false,false,false,false,false,false,false,false,false,false,false,false,false,false,false,false,false,false,false] rfl rfl (any_of HT_.out (by kernel_rfl)) (fun _ _ _ h => h) (Or.inl ⟨by rfl,?_⟩) ?_ ?_
                  rotate_left
                  ·intro w'
                   go_simp
                   with_reducible rfl
                  rotate_left
                  ·simp only [Act.put,sAx16,sBx16,sCx16,i64_w,i32_w]
                   rfl
                  refine pure_ (i:=7) (N:=some 78) (v:=?_) (a':=?_) #[false,true,true,false,false,true,false,true,false,false,false,false,false,false,false,false,false,false,false,false,false,false,false,false,false,false,false,false,false,false,false,false,false,false] rfl rfl (any_of HT_.out (by kernel_rfl)) (fun _ _ _ h => h) (Or.inl ⟨by rfl,?_⟩) ?_ ?_
                  rotate_left
                  ·intro w'
                   go_simp
                   with_reducible rfl
                  rotate_left
                  ·simp only [Act.put,sAx16,sBx16,sCx16,i64_w,i32_w]
                   rfl
                  refine pure_ (i:=8) (N:=some 79) (v:=?_) (a':=?_) #[false,true,true,false,false,true,false,true,true,false,false,false,false,false,false,false,false,false,false,false,false,false,false,false,false,false,false,false,false,false,false,false,false,false] rfl rfl (any_of HT_.out (by kernel_rfl)) (fun _ _ _ h => h) (Or.inl ⟨by rfl,?_⟩) ?_ ?_
                  rotate_left
                  ·intro w'
                   go_simp
                   with_reducible rfl
                  rotate_left
                  ·simp only [Act.put,sAx16,sBx16,sCx16,i64_w,i32_w]
                   rfl
                  refine pure_ (i:=9) (N:=some 80) (v:=?_) (a':=?_) #[false,true,true,false,false,true,false,true,true,true,false,false,false,false,false,false,false,false,false,false,false,false,false,false,false,false,false,false,false,false,false,false,false,false] rfl rfl (any_of HT_.out (by kernel_rfl)) (fun _ _ _ h => h) (Or.inl ⟨by rfl,?_⟩) ?_ ?_
                  rotate_left
                  ·intro w'
                   go_simp
                   with_reducible rfl
                  rotate_left
                  ·simp only [Act.put,sAx16,sBx16,sCx16,i64_w,i32_w]
                   rfl
                  refine pure_ (i:=11) (N:=some 82) (v:=?_) (a':=?_) #[false,true,true,false,false,true,false,true,true,true,false,true,false,false,false,false,false,false,false,false,false,false,false,false,false,false,false,false,false,false,false,false,false,false] rfl rfl (any_of HT_.out (by kernel_rfl)) (fun _ _ _ h => h) (Or.inl ⟨by rfl,?_⟩) ?_ ?_
                  rotate_left
                  ·intro w'
                   go_simp
                   with_reducible rfl
                  rotate_left
                  ·simp only [Act.put,sAx16,sBx16,sCx16,i64_w,i32_w]
                   rfl
                  refine pure_ (i:=13) (N:=some 84) (v:=?_) (a':=?_) #[false,true,true,false,false,true,false,true,true,true,false,true,false,true,false,false,false,false,false,false,false,false,false,false,false,false,false,false,false,false,false,false,false,false] rfl rfl (any_of HT_.out (by kernel_rfl)) (fun _ _ _ h => h) (Or.inl ⟨by rfl,?_⟩) ?_ ?_
                  rotate_left
                  ·intro w'
                   go_simp
                   with_reducible rfl
                  rotate_left
                  ·simp only [Act.put,sAx16,sBx16,sCx16,i64_w,i32_w]
                   rfl
                  refine take_ (i:=0) (N:=some 71) (v:=?_) (a':=?_) #[true,true,true,false,false,true,false,true,true,true,false,true,false,true,false,false,false,false,false,false,false,false,false,false,false,false,false,false,false,false,false,false,false,false] rfl rfl (take_ofW HT_.out HW_.out (by kernel_rfl)) (fun _ _ _ h => h) (Or.inl ⟨by rfl,?_⟩) hHeld ?_ ?_
                  rotate_left
                  ·rintro w' ⟨s0,s1,s2,s3,s4,s5,s6,s7⟩
                   go_simp
                   with_reducible rfl
                  rotate_left
                  ·simp only [Act.put,sAx16,sBx16,sCx16,i64_w,i32_w]
                   rfl
                  refine take_ (i:=3) (N:=some 74) (v:=?_) (a':=?_) #[true,true,true,true,false,true,false,true,true,true,false,true,false,true,false,false,false,false,false,false,false,false,false,false,false,false,false,false,false,false,false,false,false,false] rfl rfl (take_ofW HT_.out HW_.out (by kernel_rfl)) (fun _ _ _ h => h) (Or.inl ⟨by rfl,?_⟩) hHeld ?_ ?_
                  rotate_left
                  ·rintro w' ⟨s0,s1,s2,s3,s4,s5,s6,s7⟩
                   go_simp
                   with_reducible rfl
                  rotate_left
                  ·simp only [Act.put,sAx16,sBx16,sCx16,i64_w,i32_w]
                   rfl
                  refine pure_ (i:=4) (N:=some 75) (v:=?_) (a':=?_) #[true,true,true,true,true,true,false,true,true,true,false,true,false,true,false,false,false,false,false,false,false,false,false,false,false,false,false,false,false,false,false,false,false,false] rfl rfl (any_of HT_.out (by kernel_rfl)) (fun _ _ _ h => h) (Or.inl ⟨by rfl,?_⟩) ?_ ?_
                  rotate_left
                  ·intro w'
                   go_simp
                   with_reducible rfl
                  rotate_left
                  ·simp only [Act.put,sAx16,sBx16,sCx16,i64_w,i32_w]
                   rfl
                  refine take_ (i:=10) (N:=some 81) (v:=?_) (a':=?_) #[true,true,true,true,true,true,false,true,true,true,true,true,false,true,false,false,false,false,false,false,false,false,false,false,false,false,false,false,false,false,false,false,false,false] rfl rfl (take_ofW HT_.out HW_.out (by kernel_rfl)) (fun _ _ _ h => h) (Or.inl ⟨by rfl,?_⟩) hHeld ?_ ?_
                  rotate_left
                  ·rintro w' ⟨s0,s1,s2,s3,s4,s5,s6,s7⟩
                   go_simp
                   with_reducible rfl
                  rotate_left
                  ·simp only [Act.put,sAx16,sBx16,sCx16,i64_w,i32_w]
                   rfl
                  refine take_ (i:=12) (N:=some 83) (v:=?_) (a':=?_) #[true,true,true,true,true,true,false,true,true,true,true,true,true,true,false,false,false,false,false,false,false,false,false,false,false,false,false,false,false,false,false,false,false,false] rfl rfl (take_ofW HT_.out HW_.out (by kernel_rfl)) (fun _ _ _ h => h) (Or.inl ⟨by rfl,?_⟩) hHeld ?_ ?_
                  rotate_left
                  ·rintro w' ⟨s0,s1,s2,s3,s4,s5,s6,s7⟩
                   go_simp
                   with_reducible rfl
                  rotate_left
                  ·simp only [Act.put,sAx16,sBx16,sCx16,i64_w,i32_w]
                   rfl
                  refine pure_ (i:=14) (N:=some 85) (v:=?_) (a':=?_) #[true,true,true,true,true,true,false,true,true,true,true,true,true,true,true,false,false,false,false,false,false,false,false,false,false,false,false,false,false,false,false,false,false,false] rfl rfl (any_of HT_.out (by kernel_rfl)) (fun _ _ _ h => h) (Or.inl ⟨by rfl,?_⟩) ?_ ?_
                  rotate_left
                  ·intro w'
                   go_simp
                   with_reducible rfl
                  rotate_left
                  ·simp only [Act.put,sAx16,sBx16,sCx16,i64_w,i32_w]
                   rfl
                  refine take_ (i:=15) (N:=some 86) (v:=?_) (a':=?_) #[true,true,true,true,true,true,false,true,true,true,true,true,true,true,true,true,false,false,false,false,false,false,false,false,false,false,false,false,false,false,false,false,false,false] rfl rfl (take_ofW HT_.out HW_.out (by kernel_rfl)) (fun _ _ _ h => h) (Or.inl ⟨by rfl,?_⟩) hHeld ?_ ?_
                  rotate_left
                  ·rintro w' ⟨s0,s1,s2,s3,s4,s5,s6,s7⟩
                   go_simp
                   with_reducible rfl
                  rotate_left
                  ·simp only [Act.put,sAx16,sBx16,sCx16,i64_w,i32_w]
                   rfl
                  refine pure_ (i:=16) (N:=some 87) (v:=?_) (a':=?_) #[true,true,true,true,true,true,false,true,true,true,true,true,true,true,true,true,true,false,false,false,false,false,false,false,false,false,false,false,false,false,false,false,false,false] rfl rfl (any_of HT_.out (by kernel_rfl)) (fun _ _ _ h => h) (Or.inl ⟨by rfl,?_⟩) ?_ ?_
                  rotate_left
                  ·intro w'
                   go_simp
                   with_reducible rfl
                  rotate_left
                  ·simp only [Act.put,sAx16,sBx16,sCx16,i64_w,i32_w]
                   rfl
                  refine one_ (i:=6) (N:=some 77) #[true,true,true,true,true,true,true,true,true,true,true,true,true,true,true,true,true,false,false,false,false,false,false,false,false,false,false,false,false,false,false,false,false,false] rfl rfl (one_of HT_.out (by kernel_rfl)) (by decide) (fun K hK => ?_)
                  refine goes_ Tryd.func15 (by kernel_rfl) rfl #[.agg #[.slice (some ad206) l0_0.length c0_0,.slice A0_1 l0_1.length c0_1],.agg #[.slice (some ⟨go35,0,none⟩) y207.length co65,.slice A0_1 l0_1.length c0_1],.slice Ao61 x5_2.length co61] (by rfl) rfl rfl (by (try simp only [List.map_toArray,List.map_cons,List.map_nil]);first | done | (rw [show y207.length = y200.length from (Kd.R_reads' HO202.out).1.symm]<;>rfl) | rfl | (simp only [List.length_drop,List.length_take];rfl)) ?_
                  with_reducible refine (iso_Is.calls _ _ l0_0 _ _ l0_1 _ _ y207 _ _ l0_1 _ _ x5_2 t208 _ ?side1 ?side2 ?side3 ?side4 ?side5 ?side6 ?side7 ?side8 ?side9 ?side10 ?sideG A39.out).mono ?_
                  (case sideG => repeat (first|exact (Kd.C_below HG.out HB.out)|(with_reducible first|refine Kd.C_alloc ?_ _|refine Kd.C_drewN ?_ _|refine Kd.C_drew ?_)))
                  (case side1 => repeat (first|exact (Kd.C_below HR0_0.out HB.out)|(with_reducible first|refine Kd.C_alloc ?_ _|refine Kd.C_drewN ?_ _|refine Kd.C_drew ?_)))
                  (case side2 => exact HC0_0.out)
                  (case side3 => repeat (first|exact (Kd.C_below HR0_1.out HB.out)|(with_reducible first|refine Kd.C_alloc ?_ _|refine Kd.C_drewN ?_ _|refine Kd.C_drew ?_)))
                  (case side4 => exact HC0_1.out)
                  (case side5 => repeat (first|exact (Kd.R_reads' HO202.out).2.2|(with_reducible first|refine Kd.C_alloc ?_ _|refine Kd.C_drewN ?_ _|refine Kd.C_drew ?_)))
                  (case side6 => rw [show y207.length = y200.length from (Kd.R_reads' HO202.out).1.symm];exact (Kd.R_reads' HO202.out).2.1)
                  (case side7 => repeat (first|exact (Kd.C_below HR0_1.out HB.out)|(with_reducible first|refine Kd.C_alloc ?_ _|refine Kd.C_drewN ?_ _|refine Kd.C_drew ?_)))
                  (case side8 => exact HC0_1.out)
                  (case side9 => repeat (first|exact (Kd.R_reads' HO_5.out).2.2|(with_reducible first|refine Kd.C_alloc ?_ _|refine Kd.C_drewN ?_ _|refine Kd.C_drew ?_)))
                  (case side10 => exact (Kd.R_reads' HO_5.out).2.1)
                  rintro e w72 ⟨rfl,hb⟩
                  have HS2_:=(hb.cell (World.block_lt_of_cell? _ _ (hHeld.2.2.1))).trans (hHeld.2.2.1)
                  have HS3_:=(hb.cell (World.block_lt_of_cell? _ _ (hHeld.2.2.2.1))).trans (hHeld.2.2.2.1)
                  have HS4_:=(hb.cell (World.block_lt_of_cell? _ _ (hHeld.2.2.2.2.1))).trans (hHeld.2.2.2.2.1)
                  refine ⟨_,rfl,?_⟩
                  have n0_:=aMx16 (Kd.R_below (by (with_reducible repeat (first | apply Kd.R_alloc | apply Kd.R_drewN | apply Kd.R_drew));exact HO_5.out) hb)
                  have n1_:=aMx16 (Kd.R_below (by (with_reducible repeat (first | apply Kd.R_alloc | apply Kd.R_drewN | apply Kd.R_drew));exact HO202.out) hb)
                  have n2_:=aMx16 (blk_below (g:=gb191) (o:=.cells #[.slice (some ad206) l0_0.length c0_0,.slice A0_1 l0_1.length c0_1] 25 (0,0)) (by (with_reducible repeat (first | refine blk_drewN ?_ _ | refine blk_drew ?_ | refine blk_alloc ?_ _));exact BK191.out) hb)
                  have n3_:=aMx16 (below_step (by repeat (first | (with_reducible first | exact HB.out | apply below_alloc | apply pw_below_drewN | apply below_drew1 | refine below_set ?_ GE191.out) | exact HB.out)) hb)
                  clear HO_5
                  clear HO202
                  clear BK191
                  clear HB
                  have HO_5:=n0_
                  have HO202:=n1_
                  have BK191:=n2_
                  have HB:=n3_
                  clear n0_ n1_ n2_ n3_
                  (try clear hb)
                  (try clear hb2)
                  (try clear hk)
                  (try clear hi)
                  have q73 : (1 : Int) ≤ ((l0_1.length : Int) : Int):=of_decide_eq_true (by first | (with_reducible assumption) | assumption)
                  obtain ⟨i073,hi073,_,hsz73,_⟩:=info_parts info57
                  have hroom73 : l0_1.length ≤ c0_1:=HC0_1.out
                  have hC73 : Kd.C k57 _ A0_1 l0_1.length l0_1:=HR0_1.out
                  have hcut73:=cut_from (P:=Tryd.prog) 23 57 .i64 Tryd.underlying23 hi073 3 hsz73 A0_1 l0_1.length c0_1 1 (by omega) q73
                  have hr73:=Kd.C_drop (m:=(1 : Int).toNat) (c:=c0_1) hC73 (by omega) hroom73
                  obtain ⟨A73,hA73⟩ : ∃ A1,A1 = (if c0_1 = (1 : Int).toNat then A0_1 else (A0_1 : Option Addr).map (·.add ((1 : Int).toNat * 3))):=⟨_,rfl⟩
                  obtain ⟨c73,hc73⟩ : ∃ c1,c1 = c0_1 - (1 : Int).toNat:=⟨_,rfl⟩
                  have hy73 : y211.length = l0_1.length - (1 : Int).toNat:=(by rw [Ny211.out,List.length_drop]<;>omega)
                  rw [show (l0_1).drop (1 : Int).toNat = y211 from Ny211.out.symm] at hr73
                  replace hr73 : Kd.C k57 _ A73 y211.length y211:=(by rw [hA73];exact hr73)
                  rw [← hy73,← hA73,← hc73] at hcut73
                  have HR214:=aMx16 hr73
                  have HC214:=aMx16 (show y211.length ≤ c73 from by rw [hy73,hc73];exact Nat.sub_le_sub_right hroom73 _)
                  clear hr73 hC73 hroom73 hi073 hsz73 hc73
                  have KY73:=aMx16 hy73
                  have KA73:=aMx16 hA73
                  clear hy73 hA73
                  replace q73:=eq_true q73
                  refine hK.out _ _ ⟨(blk_cell BK191.out 0).trans rfl,(blk_cell BK191.out 1).trans rfl,HS2_,HS3_,HS4_,((HB.out.cell (World.block_lt_of_cell? w _ hw210_0)).trans hw210_0),((HB.out.cell (World.block_lt_of_cell? w _ hw210_1)).trans hw210_1),((HB.out.cell (World.block_lt_of_cell? w _ hw210_2)).trans hw210_2)⟩ (fun hHeld => ?_)
                  clear hK K
                  refine norm_ (a':=?_) ?_ ?_
                  rotate_left
                  ·show Act.put _ (some 77) _ = _
                   simp only [Act.put,sAx16,sBx16,sCx16,i64_w,i32_w]
                   rfl
                  refine pure_ (i:=17) (N:=some 88) (v:=?_) (a':=?_) #[true,true,true,true,true,true,true,true,true,true,true,true,true,true,true,true,true,true,false,false,false,false,false,false,false,false,false,false,false,false,false,false,false,false] rfl rfl (any_of HT_.out (by kernel_rfl)) (fun _ _ _ h => h) (Or.inl ⟨by rfl,?_⟩) ?_ ?_
                  rotate_left
                  ·intro w'
                   go_simp
                   with_reducible rfl
                  rotate_left
                  ·simp only [Act.put,sAx16,sBx16,sCx16,i64_w,i32_w]
                   rfl
                  refine pure_ (i:=18) (N:=some 89) (v:=?_) (a':=?_) #[true,true,true,true,true,true,true,true,true,true,true,true,true,true,true,true,true,true,true,false,false,false,false,false,false,false,false,false,false,false,false,false,false,false] rfl rfl (any_of HT_.out (by kernel_rfl)) (fun _ _ _ h => h) (Or.inl ⟨by rfl,?_⟩) ?_ ?_
                  rotate_left
                  ·intro w'
                   go_simp
                   with_reducible rfl
                  rotate_left
                  ·simp only [Act.put,sAx16,sBx16,sCx16,i64_w,i32_w]
                   rfl
                  refine pure_ (i:=20) (N:=some 91) (v:=?_) (a':=?_) #[true,true,true,true,true,true,true,true,true,true,true,true,true,true,true,true,true,true,true,false,true,false,false,false,false,false,false,false,false,false,false,false,false,false] rfl rfl (any_of HT_.out (by kernel_rfl)) (fun _ _ _ h => h) (Or.inl ⟨by rfl,?_⟩) ?_ ?_
                  rotate_left
                  ·intro w'
                   go_simp
                   with_reducible rfl
                  rotate_left
                  ·simp only [Act.put,sAx16,sBx16,sCx16,i64_w,i32_w]
                   rfl
                  refine pure_ (i:=22) (N:=some 93) (v:=?_) (a':=?_) #[true,true,true,true,true,true,true,true,true,true,true,true,true,true,true,true,true,true,true,false,true,false,true,false,false,false,false,false,false,false,false,false,false,false] rfl rfl (any_of HT_.out (by kernel_rfl)) (fun _ _ _ h => h) (Or.inl ⟨by rfl,?_⟩) ?_ ?_
                  rotate_left
                  ·intro w'
                   go_simp
                   with_reducible rfl
                  rotate_left
                  ·simp only [Act.put,sAx16,sBx16,sCx16,i64_w,i32_w]
                   rfl
                  refine pure_ (i:=26) (N:=some 97) (v:=?_) (a':=?_) #[true,true,true,true,true,true,true,true,true,true,true,true,true,true,true,true,true,true,true,false,true,false,true,false,false,false,true,false,false,false,false,false,false,false] rfl rfl (any_of HT_.out (by kernel_rfl)) (fun _ _ _ h => h) (Or.inl ⟨by rfl,?_⟩) ?_ ?_
                  rotate_left
                  ·intro w'
                   go_simp
                   with_reducible rfl
                  rotate_left
                  ·simp only [Act.put,sAx16,sBx16,sCx16,i64_w,i32_w]
                   rfl
                  refine take_ (i:=19) (N:=some 90) (v:=?_) (a':=?_) #[true,true,true,true,true,true,true,true,true,true,true,true,true,true,true,true,true,true,true,true,true,false,true,false,false,false,true,false,false,false,false,false,false,false] rfl rfl (take_ofW HT_.out HW_.out (by kernel_rfl)) (fun _ _ _ h => h) (Or.inl ⟨by rfl,?_⟩) hHeld ?_ ?_
                  rotate_left
                  ·rintro w' ⟨s0,s1,s2,s3,s4,s5,s6,s7⟩
                   go_simp
                   with_reducible rfl
                  rotate_left
                  ·simp only [Act.put,sAx16,sBx16,sCx16,i64_w,i32_w]
                   rfl
                  refine take_ (i:=21) (N:=some 92) (v:=?_) (a':=?_) #[true,true,true,true,true,true,true,true,true,true,true,true,true,true,true,true,true,true,true,true,true,true,true,false,false,false,true,false,false,false,false,false,false,false] rfl rfl (take_ofW HT_.out HW_.out (by kernel_rfl)) (fun _ _ _ h => h) (Or.inl ⟨by rfl,?_⟩) hHeld ?_ ?_
                  rotate_left
                  ·rintro w' ⟨s0,s1,s2,s3,s4,s5,s6,s7⟩
                   go_simp
                   with_reducible rfl
                  rotate_left
                  ·simp only [Act.put,sAx16,sBx16,sCx16,i64_w,i32_w]
                   rfl
                  refine take_ (i:=23) (N:=some 94) (v:=?_) (a':=?_) #[true,true,true,true,true,true,true,true,true,true,true,true,true,true,true,true,true,true,true,true,true,true,true,true,false,false,true,false,false,false,false,false,false,false] rfl rfl (take_ofW HT_.out HW_.out (by kernel_rfl)) (fun _ _ _ h => h) (Or.inl ⟨by rfl,?_⟩) hHeld ?_ ?_
                  rotate_left
                  ·rintro w' ⟨s0,s1,s2,s3,s4,s5,s6,s7⟩
                   go_simp
                   with_reducible rfl
                  rotate_left
                  ·simp only [Act.put,sAx16,sBx16,sCx16,i64_w,i32_w]
                   rfl
                  refine pure_ (i:=24) (N:=some 95) (v:=?_) (a':=?_) #[true,true,true,true,true,true,true,true,true,true,true,true,true,true,true,true,true,true,true,true,true,true,true,true,true,false,true,false,false,false,false,false,false,false] rfl rfl (any_of HT_.out (by kernel_rfl)) (fun _ _ _ h => h) (Or.inl ⟨by rfl,?_⟩) ?_ ?_
                  rotate_left
                  ·intro w'
                   go_simp
                   with_reducible rfl
                  rotate_left
                  ·simp only [Act.put,sAx16,sBx16,sCx16,i64_w,i32_w]
                   rfl
                  refine pure_ (i:=25) (N:=some 96) (v:=?_) (a':=?_) #[true,true,true,true,true,true,true,true,true,true,true,true,true,true,true,true,true,true,true,true,true,true,true,true,true,true,true,false,false,false,false,false,false,false] rfl rfl (any_of HT_.out (by kernel_rfl)) (fun _ _ _ h => h) (Or.inl ⟨by rfl,?_⟩) ?_ ?_
                  rotate_left
                  ·intro w'
                   go_simp
                   with_reducible rfl
                  rotate_left
                  ·simp only [Act.put,sAx16,sBx16,sCx16,i64_w,i32_w]
                   rfl
                  refine one_ (i:=27) (N:=some 98) #[true,true,true,true,true,true,true,true,true,true,true,true,true,true,true,true,true,true,true,true,true,true,true,true,true,true,true,true,false,false,false,false,false,false] rfl rfl (one_of HT_.out (by kernel_rfl)) (by decide) (fun K hK => ?_)
                  refine goes_ Tryd.func15 (by kernel_rfl) rfl #[.agg #[.slice (some ad206) l0_0.length c0_0,.slice A0_1 l0_1.length c0_1],.agg #[.slice (some ad206) l0_0.length c0_0,.slice A73 y211.length c73],.slice Ao61 x5_2.length co61] (by rfl) rfl rfl (by (try simp only [List.map_toArray,List.map_cons,List.map_nil]);first | done | rfl | (simp only [List.length_drop,List.length_take];rfl)) ?_
                  with_reducible refine (iso_Is.calls _ _ l0_0 _ _ l0_1 _ _ l0_0 _ _ y211 _ _ x5_2 false _ ?side1 ?side2 ?side3 ?side4 ?side5 ?side6 ?side7 ?side8 ?side9 ?side10 ?sideG A42.out).mono ?_
                  (case sideG => repeat (first|exact (Kd.C_below HG.out HB.out)|(with_reducible first|refine Kd.C_alloc ?_ _|refine Kd.C_drewN ?_ _|refine Kd.C_drew ?_)))
                  (case side1 => repeat (first|exact (Kd.C_below HR0_0.out HB.out)|(with_reducible first|refine Kd.C_alloc ?_ _|refine Kd.C_drewN ?_ _|refine Kd.C_drew ?_)))
                  (case side2 => exact HC0_0.out)
                  (case side3 => repeat (first|exact (Kd.C_below HR0_1.out HB.out)|(with_reducible first|refine Kd.C_alloc ?_ _|refine Kd.C_drewN ?_ _|refine Kd.C_drew ?_)))
                  (case side4 => exact HC0_1.out)
                  (case side5 => repeat (first|exact (Kd.C_below HR0_0.out HB.out)|(with_reducible first|refine Kd.C_alloc ?_ _|refine Kd.C_drewN ?_ _|refine Kd.C_drew ?_)))
                  (case side6 => exact HC0_0.out)
                  (case side7 => repeat (first|exact (Kd.C_below HR214.out HB.out)|(with_reducible first|refine Kd.C_alloc ?_ _|refine Kd.C_drewN ?_ _|refine Kd.C_drew ?_)))
                  (case side8 => exact HC214.out)
                  (case side9 => repeat (first|exact (Kd.R_reads' HO_5.out).2.2|(with_reducible first|refine Kd.C_alloc ?_ _|refine Kd.C_drewN ?_ _|refine Kd.C_drew ?_)))
                  (case side10 => exact (Kd.R_reads' HO_5.out).2.1)
                  rintro e w74 ⟨rfl,hb⟩
                  have HS2_:=(hb.cell (World.block_lt_of_cell? _ _ (hHeld.2.2.1))).trans (hHeld.2.2.1)
                  have HS3_:=(hb.cell (World.block_lt_of_cell? _ _ (hHeld.2.2.2.1))).trans (hHeld.2.2.2.1)
                  have HS4_:=(hb.cell (World.block_lt_of_cell? _ _ (hHeld.2.2.2.2.1))).trans (hHeld.2.2.2.2.1)
                  refine ⟨_,rfl,?_⟩
                  have n0_:=aMx16 (Kd.R_below (by (with_reducible repeat (first | apply Kd.R_alloc | apply Kd.R_drewN | apply Kd.R_drew));exact HO_5.out) hb)
                  have n1_:=aMx16 (Kd.R_below (by (with_reducible repeat (first | apply Kd.R_alloc | apply Kd.R_drewN | apply Kd.R_drew));exact HO202.out) hb)
                  have n2_:=aMx16 (blk_below (g:=gb191) (o:=.cells #[.slice (some ad206) l0_0.length c0_0,.slice A0_1 l0_1.length c0_1] 25 (0,0)) (by (with_reducible repeat (first | refine blk_drewN ?_ _ | refine blk_drew ?_ | refine blk_alloc ?_ _));exact BK191.out) hb)
                  have n3_:=aMx16 (below_step (by repeat (first | (with_reducible first | exact HB.out | apply below_alloc | apply pw_below_drewN | apply below_drew1 | refine below_set ?_ GE191.out) | exact HB.out)) hb)
                  clear HO_5
                  clear HO202
                  clear BK191
                  clear HB
                  have HO_5:=n0_
                  have HO202:=n1_
                  have BK191:=n2_
                  have HB:=n3_
                  clear n0_ n1_ n2_ n3_
                  (try clear hb)
                  (try clear hb2)
                  (try clear hk)
                  (try clear hi)
                  refine hK.out _ _ ⟨(blk_cell BK191.out 0).trans rfl,(blk_cell BK191.out 1).trans rfl,HS2_,HS3_,HS4_,((HB.out.cell (World.block_lt_of_cell? w _ hw210_0)).trans hw210_0),((HB.out.cell (World.block_lt_of_cell? w _ hw210_1)).trans hw210_1),((HB.out.cell (World.block_lt_of_cell? w _ hw210_2)).trans hw210_2)⟩ (fun hHeld => ?_)
                  clear hK K
                  refine norm_ (a':=?_) ?_ ?_
                  rotate_left
                  ·show Act.put _ (some 98) _ = _
                   simp only [Act.put,sAx16,sBx16,sCx16,i64_w,i32_w]
                   rfl
                  refine pure_ (i:=28) (N:=some 99) (v:=?_) (a':=?_) #[true,true,true,true,true,true,true,true,true,true,true,true,true,true,true,true,true,true,true,true,true,true,true,true,true,true,true,true,true,false,false,false,false,false] rfl rfl (any_of HT_.out (by kernel_rfl)) (fun _ _ _ h => h) (Or.inl ⟨by rfl,?_⟩) ?_ ?_
                  rotate_left
                  ·intro w'
                   go_simp
                   with_reducible rfl
                  rotate_left
                  ·simp only [Act.put,sAx16,sBx16,sCx16,i64_w,i32_w]
                   rfl
                  refine pure_ (i:=29) (N:=some 100) (v:=?_) (a':=?_) #[true,true,true,true,true,true,true,true,true,true,true,true,true,true,true,true,true,true,true,true,true,true,true,true,true,true,true,true,true,true,false,false,false,false] rfl rfl (any_of HT_.out (by kernel_rfl)) (fun _ _ _ h => h) (Or.inl ⟨by rfl,?_⟩) ?_ ?_
                  rotate_left
                  ·intro w'
                   go_simp
                   with_reducible rfl
                  rotate_left
                  ·simp only [Act.put,sAx16,sBx16,sCx16,i64_w,i32_w]
                   rfl
                  refine pure_ (i:=30) (N:=some 101) (v:=?_) (a':=?_) #[true,true,true,true,true,true,true,true,true,true,true,true,true,true,true,true,true,true,true,true,true,true,true,true,true,true,true,true,true,true,true,false,false,false] rfl rfl (any_of HT_.out (by kernel_rfl)) (fun _ _ _ h => h) (Or.inl ⟨by rfl,?_⟩) ?_ ?_
                  rotate_left
                  ·intro w'
                   go_simp
                   with_reducible rfl
                  rotate_left
                  ·simp only [Act.put,sAx16,sBx16,sCx16,i64_w,i32_w]
                   rfl
                  refine one_ (i:=31) (N:=some 102) #[true,true,true,true,true,true,true,true,true,true,true,true,true,true,true,true,true,true,true,true,true,true,true,true,true,true,true,true,true,true,true,true,false,false] rfl rfl (one_of HT_.out (by kernel_rfl)) (by decide) (fun K hK => ?_)
                  refine goes_ Tryd.func12 (by kernel_rfl) rfl #[] (by rfl) rfl rfl (by (try simp only [List.map_toArray,List.map_cons,List.map_nil]);first | done | rfl | (simp only [List.length_drop,List.length_take];rfl)) ?_
                  with_reducible refine (lapidarylaw13_known.calls  t216 _ A59.out).mono ?_
                  rintro e w75 ⟨rfl,hb⟩
                  have HS2_:=(hb.cell (World.block_lt_of_cell? _ _ (hHeld.2.2.1))).trans (hHeld.2.2.1)
                  have HS3_:=(hb.cell (World.block_lt_of_cell? _ _ (hHeld.2.2.2.1))).trans (hHeld.2.2.2.1)
                  have HS4_:=(hb.cell (World.block_lt_of_cell? _ _ (hHeld.2.2.2.2.1))).trans (hHeld.2.2.2.2.1)
                  refine ⟨_,rfl,?_⟩
                  have n0_:=aMx16 (Kd.R_below (by (with_reducible repeat (first | apply Kd.R_alloc | apply Kd.R_drewN | apply Kd.R_drew));exact HO_5.out) hb)
                  have n1_:=aMx16 (Kd.R_below (by (with_reducible repeat (first | apply Kd.R_alloc | apply Kd.R_drewN | apply Kd.R_drew));exact HO202.out) hb)
                  have n2_:=aMx16 (blk_below (g:=gb191) (o:=.cells #[.slice (some ad206) l0_0.length c0_0,.slice A0_1 l0_1.length c0_1] 25 (0,0)) (by (with_reducible repeat (first | refine blk_drewN ?_ _ | refine blk_drew ?_ | refine blk_alloc ?_ _));exact BK191.out) hb)
                  have n3_:=aMx16 (below_step (by repeat (first | (with_reducible first | exact HB.out | apply below_alloc | apply pw_below_drewN | apply below_drew1 | refine below_set ?_ GE191.out) | exact HB.out)) hb)
                  clear HO_5
                  clear HO202
                  clear BK191
                  clear HB
                  have HO_5:=n0_
                  have HO202:=n1_
                  have BK191:=n2_
                  have HB:=n3_
                  clear n0_ n1_ n2_ n3_
                  (try clear hb)
                  (try clear hb2)
                  (try clear hk)
                  (try clear hi)
                  refine hK.out _ _ ⟨(blk_cell BK191.out 0).trans rfl,(blk_cell BK191.out 1).trans rfl,HS2_,HS3_,HS4_,((HB.out.cell (World.block_lt_of_cell? w _ hw210_0)).trans hw210_0),((HB.out.cell (World.block_lt_of_cell? w _ hw210_1)).trans hw210_1),((HB.out.cell (World.block_lt_of_cell? w _ hw210_2)).trans hw210_2)⟩ (fun hHeld => ?_)
                  clear hK K
                  refine norm_ (a':=?_) ?_ ?_
                  rotate_left
                  ·show Act.put _ (some 102) _ = _
                   simp only [Act.put,sAx16,sBx16,sCx16,i64_w,i32_w]
                   rfl
                  refine pure_ (i:=32) (N:=some 103) (v:=?_) (a':=?_) #[true,true,true,true,true,true,true,true,true,true,true,true,true,true,true,true,true,true,true,true,true,true,true,true,true,true,true,true,true,true,true,true,true,false] rfl rfl (any_of HT_.out (by kernel_rfl)) (fun _ _ _ h => h) (Or.inl ⟨by rfl,?_⟩) ?_ ?_
                  rotate_left
                  ·intro w'
                   go_simp
                   with_reducible rfl
                  rotate_left
                  ·simp only [Act.put,sAx16,sBx16,sCx16,i64_w,i32_w]
                   rfl
                  refine pure_ (i:=33) (N:=some 4) (v:=?_) (a':=?_) #[true,true,true,true,true,true,true,true,true,true,true,true,true,true,true,true,true,true,true,true,true,true,true,true,true,true,true,true,true,true,true,true,true,true] rfl rfl (any_of HT_.out (by kernel_rfl)) (fun _ _ _ h => h) (Or.inl ⟨by rfl,?_⟩) ?_ ?_
                  rotate_left
                  ·intro w'
                   go_simp
                   with_reducible rfl
                  rotate_left
                  ·simp only [Act.put,sAx16,sBx16,sCx16,i64_w,i32_w]
                   rfl
                  refine done_ (done_of HT_.out (by kernel_rfl)) ?_
                  try go_wp2
                  go_ret
                  exact ⟨by first | rfl | (simp [errW_none,errW_some]<;>rfl) | (simp only [← hji32];first | rfl | (simp [errW_none,errW_some]<;>rfl)) | (simp [*,errW_none,errW_some]<;>rfl),by repeat (first | (with_reducible first | exact HB.out | apply below_alloc | apply pw_below_drewN | apply below_drew1 | refine below_set ?_ GE191.out) | exact HB.out)⟩
                ·rw [if_neg c41] at H
                 exact absurd H (by simp)
               ·rw [if_neg c40] at H
                exact absurd (Option.some.inj H) (by rw [HRT.out];decide)
              ·rw [if_neg c37] at H
               have c37b0 : (((rd_T45 y204 (ji32)).f0) == ((rd_T45 l0_0 (ji32)).f0) && (((rd_T45 y204 (ji32)).f1) == ((rd_T45 l0_0 (ji32)).f1) && (((rd_T45 y204 (ji32)).f2) == ((rd_T45 l0_0 (ji32)).f2)))) = false:=by simpa using c37
               (try (have c37b1 : decide (((rd_T45 y204 (ji32)).f0) = ((rd_T45 l0_0 (ji32)).f0) && (((rd_T45 y204 (ji32)).f1) == ((rd_T45 l0_0 (ji32)).f1) && (((rd_T45 y204 (ji32)).f2) == ((rd_T45 l0_0 (ji32)).f2)))) = false:=by simpa using c37))
               (try (have c37b2 : (((rd_T45 y204 (ji32)).f0) == ((rd_T45 l0_0 (ji32)).f0) && (((rd_T45 y204 (ji32)).f1) == ((rd_T45 l0_0 (ji32)).f1) && (((rd_T45 y204 (ji32)).f2) == ((rd_T45 l0_0 (ji32)).f2)))) = false:=by simpa using c37))
               (try (have c37b3 : ¬ (((rd_T45 y204 (ji32)).f0) = ((rd_T45 l0_0 (ji32)).f0) && (((rd_T45 y204 (ji32)).f1) == ((rd_T45 l0_0 (ji32)).f1) && (((rd_T45 y204 (ji32)).f2) == ((rd_T45 l0_0 (ji32)).f2)))):=by simpa using c37))
               clear c37
               replace H:=Option.bind_eq_some_iff.mp H
               obtain ⟨t217,A890,H⟩:=H
               replace H : (if (t217 == (((rd_T45 y204 (ji32)).f0) == ((rd_T45 l0_0 (ji32)).f0) && (((rd_T45 y204 (ji32)).f1) == ((rd_T45 l0_0 (ji32)).f1) && (((rd_T45 y204 (ji32)).f2) == ((rd_T45 l0_0 (ji32)).f2))))) = true then (if 1 ≤ (l0_1.length : Int) then ((iso_Is.f l0_0 l0_1 l0_0 (l0_1.drop 1) x5_2).bind fun t224 => (if t224 = true then (some false) else ((lapidarylaw13_known.f).bind fun t225 => (some t225)))) else (none)) else (some false)) = some r:=H
               have A89:=aMx16 A890
               clear A890
               by_cases c90 : (t217 == (((rd_T45 y204 (ji32)).f0) == ((rd_T45 l0_0 (ji32)).f0) && (((rd_T45 y204 (ji32)).f1) == ((rd_T45 l0_0 (ji32)).f1) && (((rd_T45 y204 (ji32)).f2) == ((rd_T45 l0_0 (ji32)).f2))))) = true
               ·rw [if_pos c90] at H
                have c90c : t217 = false:=by rw [c37b0] at c90;simpa using c90
                have c90b0 : (t217 == (((rd_T45 y204 (ji32)).f0) == ((rd_T45 l0_0 (ji32)).f0) && (((rd_T45 y204 (ji32)).f1) == ((rd_T45 l0_0 (ji32)).f1) && (((rd_T45 y204 (ji32)).f2) == ((rd_T45 l0_0 (ji32)).f2))))) = true:=c90
                (try (have c90b1 : decide (t217 = (((rd_T45 y204 (ji32)).f0) == ((rd_T45 l0_0 (ji32)).f0) && (((rd_T45 y204 (ji32)).f1) == ((rd_T45 l0_0 (ji32)).f1) && (((rd_T45 y204 (ji32)).f2) == ((rd_T45 l0_0 (ji32)).f2))))) = true:=by simpa using c90))
                (try (have c90b2 : (t217 == (((rd_T45 y204 (ji32)).f0) == ((rd_T45 l0_0 (ji32)).f0) && (((rd_T45 y204 (ji32)).f1) == ((rd_T45 l0_0 (ji32)).f1) && (((rd_T45 y204 (ji32)).f2) == ((rd_T45 l0_0 (ji32)).f2))))) = true:=by simpa using c90))
                clear c90
                by_cases c91 : 1 ≤ (l0_1.length : Int)
                ·rw [if_pos c91] at H
                 have c91b0:=eq_true c91
                 have c91b1 : decide (1 ≤ (l0_1.length : Int)) = true:=decide_eq_true c91
                 clear c91
                 obtain ⟨y220,hy220⟩ : ∃ y_ : List (S57),y_ = (l0_1.drop 1):=⟨_,rfl⟩
                 replace H : ((iso_Is.f l0_0 l0_1 l0_0 y220 x5_2).bind fun t224 => (if t224 = true then (some false) else ((lapidarylaw13_known.f).bind fun t225 => (some t225)))) = some r:=by first | (rw [hy220];with_reducible exact H) | (have H2_:=(Option.bind_some _ _).symm.trans H;rw [hy220];with_reducible exact H2_) | (have H2_:=(Option.bind_some _ _).symm.trans H;with_reducible exact H2_) | with_reducible exact H | (rw [hy220];exact H) | exact H
                 have Ny220:=aMx16 hy220
                 clear hy220
                 replace H:=Option.bind_eq_some_iff.mp H
                 obtain ⟨t224,A920,H⟩:=H
                 replace H : (if t224 = true then (some false) else ((lapidarylaw13_known.f).bind fun t225 => (some t225))) = some r:=H
                 have A92:=aMx16 A920
                 clear A920
                 by_cases c93 : t224 = true
                 ·subst c93
                  have H1 : (some false) = some r:=by rw [if_pos rfl] at H;exact H
                  exact absurd (Option.some.inj H1) (by rw [HRT.out];decide)
                 ·replace c93:=Bool.eq_false_iff.mpr c93
                  subst c93
                  have H1 : ((lapidarylaw13_known.f).bind fun t225 => (some t225)) = some r:=by rw [if_neg (show ¬ (false = true) by decide)] at H;exact H
                  clear H
                  have H:=H1
                  clear H1
                  replace H:=Option.bind_eq_some_iff.mp H
                  obtain ⟨t225,A1070,H⟩:=H
                  replace H : (some t225) = some r:=H
                  have A107:=aMx16 A1070
                  clear A1070
                  obtain rfl:=Option.some.inj H
                  have hcz108_0:=bcx16 BK191.out 0 rfl
                  have hcz108_1:=bcx16 BK191.out 1 rfl
                  obtain ⟨Ao109,co109,eo109⟩:=Kd.R_slice HO_5.out
                  subst eo109
                  try go_wp2_with (first|((with_reducible refine gate_callee (f:=15) rfl ?_);refine goesL_ (some 31) rfl rfl Tryd.func15 (by kernel_rfl) rfl #[.agg #[.slice A0_0 l0_0.length c0_0,.slice A0_1 l0_1.length c0_1],.agg #[.slice A0_0 l0_0.length c0_0,.slice A0_1 l0_1.length c0_1],.slice Ao109 x5_2.length co109] rfl (by (try simp only [List.map_toArray,List.map_cons,List.map_nil]);first|done|rfl|(simp only [List.length_drop,List.length_take];rfl)) ?_;(with_reducible refine (iso_Is.calls _ _ l0_0 _ _ l0_1 _ _ l0_0 _ _ l0_1 _ _ x5_2 true _ ?side1 ?side2 ?side3 ?side4 ?side5 ?side6 ?side7 ?side8 ?side9 ?side10 ?sideG A21.out).mono ?_);(case sideG => exact Kd.C_below HG.out (by repeat (first|(with_reducible first|exact HB.out|apply below_alloc|apply pw_below_drewN|apply below_drew1|refine below_set ?_ GE191.out)|exact HB.out)));(case side1 => repeat (first|exact (Kd.C_below HR0_0.out HB.out)|(with_reducible first|refine Kd.C_alloc ?_ _|refine Kd.C_drewN ?_ _|refine Kd.C_drew ?_)));(case side2 => exact HC0_0.out);(case side3 => repeat (first|exact (Kd.C_below HR0_1.out HB.out)|(with_reducible first|refine Kd.C_alloc ?_ _|refine Kd.C_drewN ?_ _|refine Kd.C_drew ?_)));(case side4 => exact HC0_1.out);(case side5 => repeat (first|exact (Kd.C_below HR0_0.out HB.out)|(with_reducible first|refine Kd.C_alloc ?_ _|refine Kd.C_drewN ?_ _|refine Kd.C_drew ?_)));(case side6 => exact HC0_0.out);(case side7 => repeat (first|exact (Kd.C_below HR0_1.out HB.out)|(with_reducible first|refine Kd.C_alloc ?_ _|refine Kd.C_drewN ?_ _|refine Kd.C_drew ?_)));(case side8 => exact HC0_1.out);(case side9 => repeat (first|exact (Kd.R_reads' HO_5.out).2.2|(with_reducible first|refine Kd.C_alloc ?_ _|refine Kd.C_drewN ?_ _|refine Kd.C_drew ?_)));(case side10 => exact (Kd.R_reads' HO_5.out).2.1);rintro e w110 ⟨rfl,hb⟩;refine ⟨_,rfl,?_⟩;have n0_:=aMx16 (Kd.R_below (by (with_reducible repeat (first|apply Kd.R_alloc|apply Kd.R_drewN|apply Kd.R_drew));exact HO_5.out) hb);have n1_:=aMx16 (blk_below (g:=gb191) (o:=.cells #[.slice A0_0 l0_0.length c0_0,.slice A0_1 l0_1.length c0_1] 25 (0,0)) (by (with_reducible repeat (first|refine blk_drewN ?_ _|refine blk_drew ?_|refine blk_alloc ?_ _));exact BK191.out) hb);have n2_:=aMx16 (below_step (by repeat (first|(with_reducible first|exact HB.out|apply below_alloc|apply pw_below_drewN|apply below_drew1|refine below_set ?_ GE191.out)|exact HB.out)) hb);clear HO_5;clear BK191;clear HB;have HO_5:=n0_;have BK191:=n1_;have HB:=n2_;clear n0_ n1_ n2_;(try clear hb);(try clear hb2);(try clear hk);(try clear hi);have hcz111_0:=bcx16 BK191.out 0 rfl;have hcz111_1:=bcx16 BK191.out 1 rfl;have hfz111_0:=blk_frozen BK191.out 0;have hfz111_1:=blk_frozen BK191.out 1)|((with_reducible refine gate_builtin (b:=.append) (xs:=#[.tmp 38,.tmp 40]) rfl ?_);at_builtin;refine Kd.R_append_rows k45 (w0:=w) w.heap.size rfl (.tmp 38) (.tmp 40) 22 45 (.agg #[(.int .i64 0),(.int .i64 0),(.int .i64 0)]) 24 rfl Tryd.underlying22 info45 rfl (by decide) (by omega) (.slice none 0 0) ([] : List (S45)) l0_0 _ _ _ (fun _ => True) (fun _ => False) rfl rfl ?aO ?aR (fun _ _ h => h) (fun _ h => h.elim) ?aF ?aB ?aS ?aL ?_;(case aR => repeat (first|exact (Kd.C_below HR0_0.out HB.out)|(with_reducible first|refine Kd.C_alloc ?_ _|refine Kd.C_drewN ?_ _|refine Kd.C_drew ?_)));(case aB => exact (by repeat (first|(with_reducible first|exact HB.out|apply below_alloc|apply pw_below_drewN|apply below_drew1|refine below_set ?_ GE191.out)|exact HB.out)));(case aF => exact (fun _ _ => trivial));(case aO => exact ((Kd.R_nil _ _ _ _ (fun _ => True))));(case aS => exact (below_size (by repeat (first|(with_reducible first|exact HB.out|apply below_alloc|apply pw_below_drewN|apply below_drew1|refine below_set ?_ GE191.out)|exact HB.out))));(case aL => have:=LMc30.out;omega);intro v201 w112 ho hb hg hat;rw [← Ny200.out] at ho;have n0_:=aMx16 (Kd.R_grown (by (with_reducible repeat (first|apply Kd.R_alloc|apply Kd.R_drewN|apply Kd.R_drew));exact HO_5.out) hg (fun _ _ => by simp [Value.ownBlock]));have n1_:=aMx16 (blk_grown (g:=gb191) (o:=.cells #[.slice A0_0 l0_0.length c0_0,.slice A0_1 l0_1.length c0_1] 25 (0,0)) (by (with_reducible repeat (first|refine blk_drewN ?_ _|refine blk_drew ?_|refine blk_alloc ?_ _));exact BK191.out) hg (by simp [Value.ownBlock]));have n2_:=aMx16 (hb);have n3_:=aMx16 (ho);clear HO_5;clear BK191;clear HB;have HO_5:=n0_;have BK191:=n1_;have HB:=n2_;have HO202:=n3_;clear n0_ n1_ n2_ n3_;clear ho hb hg hat;obtain ⟨Ao113,co113,eo113⟩:=Kd.R_slice HO202.out;subst eo113;have p203 : 0 ≤ ((ji32) : Int):=of_decide_eq_true (by first|(with_reducible assumption)|assumption);have q203 : (ji32) < (y200.length : Int):=of_decide_eq_true (by first|(with_reducible assumption)|assumption);obtain ⟨ad203,e203,hx203_0,hx203_1,hx203_2⟩:=at_T45 (Kd.R_reads' HO202.out).2.2 (ji32) p203 q203;cases e203;replace p203:=eq_true p203;replace q203:=eq_true q203;have p35 : 0 ≤ ((ji32) : Int):=of_decide_eq_true (by first|(with_reducible assumption)|assumption);have q35 : ((ji32) : Int) < ((y200.length : Int) : Int):=of_decide_eq_true (by first|(with_reducible assumption)|assumption);obtain ⟨go35,co35,eo35,gb35,gl35,cl35,HG35⟩:=Kd.R_form HO202.out (by omega);(first|cases eo35|(injection eo35 with ea_ en_ ec_;(first|subst ea_|(injection ea_ with ea_;subst ea_));subst ec_;clear en_));have GB35:=aMx16 gb35;have GG35:=aMx16 HG35;clear gb35 gl35 HG35;(first|simp only [add_plain] at hx203_0|skip);(first|simp only [add_plain] at hx203_1|skip);(first|simp only [add_plain] at hx203_2|skip);obtain ⟨ce35,hcl35,hM35,hcc35,hfr35⟩:=Kd.R_elem HO202.out z45 ((ji32) : Int) p35 q35;obtain rfl:=k45_openM hM35;have hx35_0 : w112.cell? ⟨go35,((ji32) : Int).toNat * 3,none⟩ = some (.int .i64 ((rd_T45 y200 (ji32)).f0)):=hcc35 0 _ rfl;have hx35_1 : w112.cell? ⟨go35,((ji32) : Int).toNat * 3+1,none⟩ = some (.int .i64 ((rd_T45 y200 (ji32)).f1)):=hcc35 1 _ rfl;have hx35_2 : w112.cell? ⟨go35,((ji32) : Int).toNat * 3+2,none⟩ = some (.int .i64 ((rd_T45 y200 (ji32)).f2)):=hcc35 2 _ rfl;have hf35_0 : w112.frozen? ⟨go35,((ji32) : Int).toNat * 3,none⟩ = false:=hfr35 0;have hf35_1 : w112.frozen? ⟨go35,((ji32) : Int).toNat * 3+1,none⟩ = false:=hfr35 1;have hf35_2 : w112.frozen? ⟨go35,((ji32) : Int).toNat * 3+2,none⟩ = false:=hfr35 2;clear hcl35 hcc35 hfr35 hM35;replace p35:=eq_true p35;replace q35:=eq_true q35;have HX114:=aMx16 (show Kd.R k45 45 w112 w.heap.size (fun _ => True) (.slice (some ⟨go35,0,none⟩) y200.length co113) y200 from (by (with_reducible repeat (first|apply Kd.R_alloc|apply Kd.R_drewN|apply Kd.R_drew));exact HO202.out));obtain ⟨ce114,hcl114,hM114,hcc114,hfr114⟩:=Kd.R_elem HX114.out z45 ((ji32) : Int) (of_decide_eq_true (by first|(with_reducible assumption)|assumption)) (by have h_ : ((ji32) : Int) < ((y200.length : Int) : Int):=of_decide_eq_true (by first|(with_reducible assumption)|assumption);first|exact h_|(have e_:=(Kd.R_reads' HO202.out).1;omega)|simpa using h_);obtain rfl:=k45_openM hM114;have HP114:=Kd.R_seg HX114.out ((ji32) : Int) (of_decide_eq_true (by first|(with_reducible assumption)|assumption)) (by have h_ : ((ji32) : Int) < ((y200.length : Int) : Int):=of_decide_eq_true (by first|(with_reducible assumption)|assumption);first|exact h_|(have e_:=(Kd.R_reads' HO202.out).1;omega)|simpa using h_) (seg:=[.int .i64 (wrap64 (Int.tdiv ((rd_T45 y200 (ji32)).f2) 2))]) (j:=2) hcl114 hcc114 (show 3 ≤ 3 from by decide) (x':=(⟨(rd_T45 y200 (ji32)).f0,(rd_T45 y200 (ji32)).f1,wrap64 (Int.tdiv ((rd_T45 y200 (ji32)).f2) 2)⟩ : S45)) (k45_mkM _ _ _ (⟨(rd_T45 y200 (ji32)).f0,(rd_T45 y200 (ji32)).f1,wrap64 (Int.tdiv ((rd_T45 y200 (ji32)).f2) 2)⟩ : S45) ) (fun _ hk => hk);have hx114_2:=hcc114 2 _ rfl;(try simp only [show (k45).sz = 3 from rfl,Nat.mul_one,Nat.add_zero] at hx114_2);have hf114_2:=hfr114 2;(try simp only [show (k45).sz = 3 from rfl,Nat.mul_one,Nat.add_zero] at hf114_2);clear hcl114 hcc114 hfr114 hM114)|((with_reducible refine gate_store (t:=3) (p:=56) rfl ?_);refine store_event (t:=3) (p:=56) (v:=?vo_w115) (w1:=(w112.setCell ⟨go35,((ji32) : Int).toNat * 3+2,none⟩ (.int .i64 (wrap64 (Int.tdiv ((rd_T45 y200 (ji32)).f2) 2))))) ?hg ?ho ?hn ?hr ?_;(case ho => rfl);(case hg => rfl);(case hn => rfl);(case hr => first|(go_simp;done)|(go_simp;rfl));intro w115 hw;have hg : w112.grownBy w115 (some go35):=(by rw [hw];exact HP114.2);have hp_ : Kd.R k45 45 w115 w.heap.size (fun _ => True) (.slice (some ⟨go35,0,none⟩) y200.length co113) y204:=(by rw [hw,Ny204.out];exact HP114.1);clear HP114;have n0_:=aMx16 (Kd.R_over' (v:=(.slice (some ⟨go35,0,none⟩) y200.length co113)) (by (with_reducible repeat (first|apply Kd.R_alloc|apply Kd.R_drewN|apply Kd.R_drew));exact HO_5.out) (Kd.R_typed HO202.out) (by decide) hg);have n1_:=aMx16 (blk_grown (g:=gb191) (o:=.cells #[.slice A0_0 l0_0.length c0_0,.slice A0_1 l0_1.length c0_1] 25 (0,0)) (by (with_reducible repeat (first|refine blk_drewN ?_ _|refine blk_drew ?_|refine blk_alloc ?_ _));exact BK191.out) hg (Kd.R_ne HO202.out BK191.out (by decide)));have n2_:=aMx16 (hp_);have n3_:=aMx16 ((by rw [hw];exact below_set (HB.out) GB35.out : Below w.heap.size w w115));clear HO_5;clear BK191;clear HO202;clear HB;have HO_5:=n0_;have BK191:=n1_;have HO202:=n2_;have HB:=n3_;clear n0_ n1_ n2_ n3_;clear hg hw hp_))
                  have n0_:=aMx16 (Kd.R_drew HO_5.out)
                  have n1_:=aMx16 (Kd.R_drew HO202.out)
                  have n2_:=aMx16 (blk_drew BK191.out)
                  have n3_:=aMx16 (below_drew1 HB.out)
                  clear HO_5
                  clear HO202
                  clear BK191
                  clear HB
                  have HO_5:=n0_
                  have HO202:=n1_
                  have BK191:=n2_
                  have HB:=n3_
                  clear n0_ n1_ n2_ n3_
                  have p205 : 0 ≤ ((ji32) : Int):=of_decide_eq_true (by first | (with_reducible assumption) | assumption)
                  have q205 : (ji32) < (y204.length : Int):=(by have h_ : ((ji32) : Int) < ((y200.length : Int) : Int):=of_decide_eq_true (by first | (with_reducible assumption) | assumption);first | (have e_:=(Kd.R_reads' HO202.out).1;omega) | simpa only [Ny204.out,List.length_set] using h_)
                  have ql205 : (((ji32) : Int) < ((y200.length : Int) : Int)) = True:=eq_true (of_decide_eq_true (by first | (with_reducible assumption) | assumption))
                  obtain ⟨ad205,e205,hx205_0,hx205_1,hx205_2⟩:=at_T45 (Kd.R_reads' HO202.out).2.2 (ji32) p205 q205
                  obtain rfl : (⟨go35,0,none⟩ : Addr) = ad205:=(by injection e205)
                  (first | simp only [add_plain] at hx205_0 | simp only [add_at] at hx205_0 | simp only [Addr.add,Nat.zero_add] at hx205_0 | skip)
                  (first | simp only [add_plain] at hx205_1 | simp only [add_at] at hx205_1 | simp only [Addr.add,Nat.zero_add] at hx205_1 | skip)
                  (first | simp only [add_plain] at hx205_2 | simp only [add_at] at hx205_2 | simp only [Addr.add,Nat.zero_add] at hx205_2 | skip)
                  replace p205:=eq_true p205
                  replace q205:=eq_true q205
                  have p206 : 0 ≤ ((ji32) : Int):=of_decide_eq_true (by first | (with_reducible assumption) | assumption)
                  have q206 : (ji32) < (l0_0.length : Int):=of_decide_eq_true (by first | (with_reducible assumption) | assumption)
                  obtain ⟨ad206,e206,hx206_0,hx206_1,hx206_2⟩:=at_T45 HR0_0.out (ji32) p206 q206
                  have hw206_2:=hx206_2
                  have hw206_1:=hx206_1
                  have hw206_0:=hx206_0
                  cases e206
                  replace hx206_0:=(HB.out.cell (World.block_lt_of_cell? w _ hx206_0)).trans hx206_0
                  replace hx206_1:=(HB.out.cell (World.block_lt_of_cell? w _ hx206_1)).trans hx206_1
                  replace hx206_2:=(HB.out.cell (World.block_lt_of_cell? w _ hx206_2)).trans hx206_2
                  replace p206:=eq_true p206
                  replace q206:=eq_true q206
                  refine start_ (n:=10) (S:=fun w' => w'.cell? ⟨gb191,0,none⟩ = some (.slice (some ad206) l0_0.length c0_0) ∧ w'.cell? ⟨gb191,1,none⟩ = some (.slice A0_1 l0_1.length c0_1) ∧ w'.cell? ⟨go35,((ji32)).toNat * 3,none⟩ = some (.int .i64 ((rd_T45 y204 (ji32)).f0)) ∧ w'.cell? ⟨go35,((ji32)).toNat * 3+1,none⟩ = some (.int .i64 ((rd_T45 y204 (ji32)).f1)) ∧ w'.cell? ⟨go35,((ji32)).toNat * 3+2,none⟩ = some (.int .i64 ((rd_T45 y204 (ji32)).f2)) ∧ w'.cell? (ad206.add (((ji32)).toNat * 3)) = some (.int .i64 ((rd_T45 l0_0 (ji32)).f0)) ∧ w'.cell? ⟨(ad206.add (((ji32)).toNat * 3)).block,(ad206.add (((ji32)).toNat * 3)).off+1,none⟩ = some (.int .i64 ((rd_T45 l0_0 (ji32)).f1)) ∧ w'.cell? ⟨(ad206.add (((ji32)).toNat * 3)).block,(ad206.add (((ji32)).toNat * 3)).off+2,none⟩ = some (.int .i64 ((rd_T45 l0_0 (ji32)).f2))) (ds:=[]) #[false,false,false,false,false,false,false,false,false,false] (by kernel_rfl) rfl rfl ⟨(blk_cell BK191.out 0).trans rfl,(blk_cell BK191.out 1).trans rfl,hx205_0,hx205_1,hx205_2,((HB.out.cell (World.block_lt_of_cell? w _ hw206_0)).trans hw206_0),((HB.out.cell (World.block_lt_of_cell? w _ hw206_1)).trans hw206_1),((HB.out.cell (World.block_lt_of_cell? w _ hw206_2)).trans hw206_2)⟩ (fun hHeld => ?_);refine with_tabW lapidarylaw13_IsoSelf.tab16 lapidarylaw13_IsoSelf.bits16 (fun HT_ HW_ => ?_)
                  generalize w115.drew = w116 at HO_5 HO202 BK191 HB hx205_0 hx205_1 hx205_2 hx206_0 hx206_1 hx206_2 hHeld ⊢
                  refine pure_ (i:=0) (N:=some 57) (v:=?_) (a':=?_) #[true,false,false,false,false,false,false,false,false,false] rfl rfl (any_of HT_.out (by kernel_rfl)) (fun _ _ _ h => h) (Or.inl ⟨by rfl,?_⟩) ?_ ?_
                  rotate_left
                  ·intro w'
                   go_simp
                   with_reducible rfl
                  rotate_left
                  ·simp only [Act.put,sAx16,sBx16,sCx16,i64_w,i32_w]
                   rfl
                  refine pure_ (i:=1) (N:=some 58) (v:=?_) (a':=?_) #[true,true,false,false,false,false,false,false,false,false] rfl rfl (any_of HT_.out (by kernel_rfl)) (fun _ _ _ h => h) (Or.inl ⟨by rfl,?_⟩) ?_ ?_
                  rotate_left
                  ·intro w'
                   go_simp
                   with_reducible rfl
                  rotate_left
                  ·simp only [Act.put,sAx16,sBx16,sCx16,i64_w,i32_w]
                   rfl
                  refine pure_ (i:=2) (N:=some 59) (v:=?_) (a':=?_) #[true,true,true,false,false,false,false,false,false,false] rfl rfl (any_of HT_.out (by kernel_rfl)) (fun _ _ _ h => h) (Or.inl ⟨by rfl,?_⟩) ?_ ?_
                  rotate_left
                  ·intro w'
                   go_simp
                   with_reducible rfl
                  rotate_left
                  ·simp only [Act.put,sAx16,sBx16,sCx16,i64_w,i32_w]
                   rfl
                  refine pure_ (i:=4) (N:=some 61) (v:=?_) (a':=?_) #[true,true,true,false,true,false,false,false,false,false] rfl rfl (any_of HT_.out (by kernel_rfl)) (fun _ _ _ h => h) (Or.inl ⟨by rfl,?_⟩) ?_ ?_
                  rotate_left
                  ·intro w'
                   go_simp
                   with_reducible rfl
                  rotate_left
                  ·simp only [Act.put,sAx16,sBx16,sCx16,i64_w,i32_w]
                   rfl
                  refine pure_ (i:=6) (N:=some 63) (v:=?_) (a':=?_) #[true,true,true,false,true,false,true,false,false,false] rfl rfl (any_of HT_.out (by kernel_rfl)) (fun _ _ _ h => h) (Or.inl ⟨by rfl,?_⟩) ?_ ?_
                  rotate_left
                  ·intro w'
                   go_simp
                   with_reducible rfl
                  rotate_left
                  ·simp only [Act.put,sAx16,sBx16,sCx16,i64_w,i32_w]
                   rfl
                  refine take_ (i:=3) (N:=some 60) (v:=?_) (a':=?_) #[true,true,true,true,true,false,true,false,false,false] rfl rfl (take_ofW HT_.out HW_.out (by kernel_rfl)) (fun _ _ _ h => h) (Or.inl ⟨by rfl,?_⟩) hHeld ?_ ?_
                  rotate_left
                  ·rintro w' ⟨s0,s1,s2,s3,s4,s5,s6,s7⟩
                   go_simp
                   with_reducible rfl
                  rotate_left
                  ·simp only [Act.put,sAx16,sBx16,sCx16,i64_w,i32_w]
                   rfl
                  refine take_ (i:=5) (N:=some 62) (v:=?_) (a':=?_) #[true,true,true,true,true,true,true,false,false,false] rfl rfl (take_ofW HT_.out HW_.out (by kernel_rfl)) (fun _ _ _ h => h) (Or.inl ⟨by rfl,?_⟩) hHeld ?_ ?_
                  rotate_left
                  ·rintro w' ⟨s0,s1,s2,s3,s4,s5,s6,s7⟩
                   go_simp
                   with_reducible rfl
                  rotate_left
                  ·simp only [Act.put,sAx16,sBx16,sCx16,i64_w,i32_w]
                   rfl
                  refine pure_ (i:=7) (N:=some 64) (v:=?_) (a':=?_) #[true,true,true,true,true,true,true,true,false,false] rfl rfl (any_of HT_.out (by kernel_rfl)) (fun _ _ _ h => h) (Or.inl ⟨by rfl,?_⟩) ?_ ?_
                  rotate_left
                  ·intro w'
                   go_simp
                   with_reducible rfl
                  rotate_left
                  ·simp only [Act.put,sAx16,sBx16,sCx16,i64_w,i32_w]
                   rfl
                  refine take_ (i:=8) (N:=some 65) (v:=?_) (a':=?_) #[true,true,true,true,true,true,true,true,true,false] rfl rfl (take_ofW HT_.out HW_.out (by kernel_rfl)) (fun _ _ _ h => h) (Or.inl ⟨by rfl,?_⟩) hHeld ?_ ?_
                  rotate_left
                  ·rintro w' ⟨s0,s1,s2,s3,s4,s5,s6,s7⟩
                   go_simp
                   with_reducible rfl
                  rotate_left
                  ·simp only [Act.put,sAx16,sBx16,sCx16,i64_w,i32_w]
                   rfl
                  refine pure_ (i:=9) (N:=some 66) (v:=?_) (a':=?_) #[true,true,true,true,true,true,true,true,true,true] rfl rfl (any_of HT_.out (by kernel_rfl)) (fun _ _ _ h => h) (Or.inl ⟨by rfl,?_⟩) ?_ ?_
                  rotate_left
                  ·intro w'
                   go_simp
                   with_reducible rfl
                  rotate_left
                  ·simp only [Act.put,sAx16,sBx16,sCx16,i64_w,i32_w]
                   rfl
                  refine done_ (done_of HT_.out (by kernel_rfl)) ?_
                  try go_wp2
                  have n0_:=aMx16 (Kd.R_drew HO_5.out)
                  have n1_:=aMx16 (Kd.R_drew HO202.out)
                  have n2_:=aMx16 (blk_drew BK191.out)
                  have n3_:=aMx16 (below_drew1 HB.out)
                  clear HO_5
                  clear HO202
                  clear BK191
                  clear HB
                  have HO_5:=n0_
                  have HO202:=n1_
                  have BK191:=n2_
                  have HB:=n3_
                  clear n0_ n1_ n2_ n3_
                  have p218 : 0 ≤ ((ji32) : Int):=of_decide_eq_true (by first | (with_reducible assumption) | assumption)
                  have q218 : (ji32) < (y204.length : Int):=(by have h_ : ((ji32) : Int) < ((y200.length : Int) : Int):=of_decide_eq_true (by first | (with_reducible assumption) | assumption);first | (have e_:=(Kd.R_reads' HO202.out).1;omega) | simpa only [Ny204.out,List.length_set] using h_)
                  have ql218 : (((ji32) : Int) < ((y200.length : Int) : Int)) = True:=eq_true (of_decide_eq_true (by first | (with_reducible assumption) | assumption))
                  obtain ⟨ad218,e218,hx218_0,hx218_1,hx218_2⟩:=at_T45 (Kd.R_reads' HO202.out).2.2 (ji32) p218 q218
                  obtain rfl : (⟨go35,0,none⟩ : Addr) = ad218:=(by injection e218)
                  (first | simp only [add_plain] at hx218_0 | simp only [add_at] at hx218_0 | simp only [Addr.add,Nat.zero_add] at hx218_0 | skip)
                  (first | simp only [add_plain] at hx218_1 | simp only [add_at] at hx218_1 | simp only [Addr.add,Nat.zero_add] at hx218_1 | skip)
                  (first | simp only [add_plain] at hx218_2 | simp only [add_at] at hx218_2 | simp only [Addr.add,Nat.zero_add] at hx218_2 | skip)
                  replace p218:=eq_true p218
                  replace q218:=eq_true q218
                  have p219 : 0 ≤ ((ji32) : Int):=of_decide_eq_true (by first | (with_reducible assumption) | assumption)
                  have q219 : (ji32) < (l0_0.length : Int):=of_decide_eq_true (by first | (with_reducible assumption) | assumption)
                  obtain ⟨ad219,e219,hx219_0,hx219_1,hx219_2⟩:=at_T45 HR0_0.out (ji32) p219 q219
                  have hw219_2:=hx219_2
                  have hw219_1:=hx219_1
                  have hw219_0:=hx219_0
                  obtain rfl : ad206 = ad219:=(by injection e219)
                  replace hx219_0:=(HB.out.cell (World.block_lt_of_cell? w _ hx219_0)).trans hx219_0
                  replace hx219_1:=(HB.out.cell (World.block_lt_of_cell? w _ hx219_1)).trans hx219_1
                  replace hx219_2:=(HB.out.cell (World.block_lt_of_cell? w _ hx219_2)).trans hx219_2
                  replace p219:=eq_true p219
                  replace q219:=eq_true q219
                  refine start_ (n:=34) (S:=fun w' => w'.cell? ⟨gb191,0,none⟩ = some (.slice (some ad206) l0_0.length c0_0) ∧ w'.cell? ⟨gb191,1,none⟩ = some (.slice A0_1 l0_1.length c0_1) ∧ w'.cell? ⟨go35,((ji32)).toNat * 3,none⟩ = some (.int .i64 ((rd_T45 y204 (ji32)).f0)) ∧ w'.cell? ⟨go35,((ji32)).toNat * 3+1,none⟩ = some (.int .i64 ((rd_T45 y204 (ji32)).f1)) ∧ w'.cell? ⟨go35,((ji32)).toNat * 3+2,none⟩ = some (.int .i64 ((rd_T45 y204 (ji32)).f2)) ∧ w'.cell? (ad206.add (((ji32)).toNat * 3)) = some (.int .i64 ((rd_T45 l0_0 (ji32)).f0)) ∧ w'.cell? ⟨(ad206.add (((ji32)).toNat * 3)).block,(ad206.add (((ji32)).toNat * 3)).off+1,none⟩ = some (.int .i64 ((rd_T45 l0_0 (ji32)).f1)) ∧ w'.cell? ⟨(ad206.add (((ji32)).toNat * 3)).block,(ad206.add (((ji32)).toNat * 3)).off+2,none⟩ = some (.int .i64 ((rd_T45 l0_0 (ji32)).f2))) (ds:=[]) #[false,false,false,false,false,false,false,false,false,false,false,false,false,false,false,false,false,false,false,false,false,false,false,false,false,false,false,false,false,false,false,false,false,false] (by kernel_rfl) rfl rfl ⟨(blk_cell BK191.out 0).trans rfl,(blk_cell BK191.out 1).trans rfl,hx218_0,hx218_1,hx218_2,((HB.out.cell (World.block_lt_of_cell? w _ hw219_0)).trans hw219_0),((HB.out.cell (World.block_lt_of_cell? w _ hw219_1)).trans hw219_1),((HB.out.cell (World.block_lt_of_cell? w _ hw219_2)).trans hw219_2)⟩ (fun hHeld => ?_);refine with_tabW lapidarylaw13_IsoSelf.tab18 lapidarylaw13_IsoSelf.bits18 (fun HT_ HW_ => ?_)
                  generalize w116.drew = w117 at HO_5 HO202 BK191 HB hx218_0 hx218_1 hx218_2 hx219_0 hx219_1 hx219_2 hHeld ⊢
                  refine pure_ (i:=1) (N:=some 72) (v:=?_) (a':=?_) #[false,true,false,false,false,false,false,false,false,false,false,false,false,false,false,false,false,false,false,false,false,false,false,false,false,false,false,false,false,false,false,false,false,false] rfl rfl (any_of HT_.out (by kernel_rfl)) (fun _ _ _ h => h) (Or.inl ⟨by rfl,?_⟩) ?_ ?_
                  rotate_left
                  ·intro w'
                   go_simp
                   with_reducible rfl
                  rotate_left
                  ·simp only [Act.put,sAx16,sBx16,sCx16,i64_w,i32_w]
                   rfl
                  refine pure_ (i:=2) (N:=some 73) (v:=?_) (a':=?_) #[false,true,true,false,false,false,false,false,false,false,false,false,false,false,false,false,false,false,false,false,false,false,false,false,false,false,false,false,false,false,false,false,false,false] rfl rfl (any_of HT_.out (by kernel_rfl)) (fun _ _ _ h => h) (Or.inl ⟨by rfl,?_⟩) ?_ ?_
                  rotate_left
                  ·intro w'
                   go_simp
                   with_reducible rfl
                  rotate_left
                  ·simp only [Act.put,sAx16,sBx16,sCx16,i64_w,i32_w]
                   rfl
                  refine pure_ (i:=5) (N:=some 76) (v:=?_) (a':=?_) #[false,true,true,false,false,true,false,false,false,false,false,false,false,false,false,false,false,false,false,false,false,false,false,false,false,false,false,false,false,false,false,false,false,false] rfl rfl (any_of HT_.out (by kernel_rfl)) (fun _ _ _ h => h) (Or.inl ⟨by rfl,?_⟩) ?_ ?_
                  rotate_left
                  ·intro w'
                   go_simp
                   with_reducible rfl
                  rotate_left
                  ·simp only [Act.put,sAx16,sBx16,sCx16,i64_w,i32_w]
                   rfl
                  refine pure_ (i:=7) (N:=some 78) (v:=?_) (a':=?_) #[false,true,true,false,false,true,false,true,false,false,false,false,false,false,false,false,false,false,false,false,false,false,false,false,false,false,false,false,false,false,false,false,false,false] rfl rfl (any_of HT_.out (by kernel_rfl)) (fun _ _ _ h => h) (Or.inl ⟨by rfl,?_⟩) ?_ ?_
                  rotate_left
                  ·intro w'
                   go_simp
                   with_reducible rfl
                  rotate_left
                  ·simp only [Act.put,sAx16,sBx16,sCx16,i64_w,i32_w]
                   rfl
                  refine pure_ (i:=8) (N:=some 79) (v:=?_) (a':=?_) #[false,true,true,false,false,true,false,true,true,false,false,false,false,false,false,false,false,false,false,false,false,false,false,false,false,false,false,false,false,false,false,false,false,false] rfl rfl (any_of HT_.out (by kernel_rfl)) (fun _ _ _ h => h) (Or.inl ⟨by rfl,?_⟩) ?_ ?_
                  rotate_left
                  ·intro w'
                   go_simp
                   with_reducible rfl
                  rotate_left
                  ·simp only [Act.put,sAx16,sBx16,sCx16,i64_w,i32_w]
                   rfl
                  refine pure_ (i:=9) (N:=some 80) (v:=?_) (a':=?_) #[false,true,true,false,false,true,false,true,true,true,false,false,false,false,false,false,false,false,false,false,false,false,false,false,false,false,false,false,false,false,false,false,false,false] rfl rfl (any_of HT_.out (by kernel_rfl)) (fun _ _ _ h => h) (Or.inl ⟨by rfl,?_⟩) ?_ ?_
                  rotate_left
                  ·intro w'
                   go_simp
                   with_reducible rfl
                  rotate_left
                  ·simp only [Act.put,sAx16,sBx16,sCx16,i64_w,i32_w]
                   rfl
                  refine pure_ (i:=11) (N:=some 82) (v:=?_) (a':=?_) #[false,true,true,false,false,true,false,true,true,true,false,true,false,false,false,false,false,false,false,false,false,false,false,false,false,false,false,false,false,false,false,false,false,false] rfl rfl (any_of HT_.out (by kernel_rfl)) (fun _ _ _ h => h) (Or.inl ⟨by rfl,?_⟩) ?_ ?_
                  rotate_left
                  ·intro w'
                   go_simp
                   with_reducible rfl
                  rotate_left
                  ·simp only [Act.put,sAx16,sBx16,sCx16,i64_w,i32_w]
                   rfl
                  refine pure_ (i:=13) (N:=some 84) (v:=?_) (a':=?_) #[false,true,true,false,false,true,false,true,true,true,false,true,false,true,false,false,false,false,false,false,false,false,false,false,false,false,false,false,false,false,false,false,false,false] rfl rfl (any_of HT_.out (by kernel_rfl)) (fun _ _ _ h => h) (Or.inl ⟨by rfl,?_⟩) ?_ ?_
                  rotate_left
                  ·intro w'
                   go_simp
                   with_reducible rfl
                  rotate_left
                  ·simp only [Act.put,sAx16,sBx16,sCx16,i64_w,i32_w]
                   rfl
                  refine take_ (i:=0) (N:=some 71) (v:=?_) (a':=?_) #[true,true,true,false,false,true,false,true,true,true,false,true,false,true,false,false,false,false,false,false,false,false,false,false,false,false,false,false,false,false,false,false,false,false] rfl rfl (take_ofW HT_.out HW_.out (by kernel_rfl)) (fun _ _ _ h => h) (Or.inl ⟨by rfl,?_⟩) hHeld ?_ ?_
                  rotate_left
                  ·rintro w' ⟨s0,s1,s2,s3,s4,s5,s6,s7⟩
                   go_simp
                   with_reducible rfl
                  rotate_left
                  ·simp only [Act.put,sAx16,sBx16,sCx16,i64_w,i32_w]
                   rfl
                  refine take_ (i:=3) (N:=some 74) (v:=?_) (a':=?_) #[true,true,true,true,false,true,false,true,true,true,false,true,false,true,false,false,false,false,false,false,false,false,false,false,false,false,false,false,false,false,false,false,false,false] rfl rfl (take_ofW HT_.out HW_.out (by kernel_rfl)) (fun _ _ _ h => h) (Or.inl ⟨by rfl,?_⟩) hHeld ?_ ?_
                  rotate_left
                  ·rintro w' ⟨s0,s1,s2,s3,s4,s5,s6,s7⟩
                   go_simp
                   with_reducible rfl
                  rotate_left
                  ·simp only [Act.put,sAx16,sBx16,sCx16,i64_w,i32_w]
                   rfl
                  refine pure_ (i:=4) (N:=some 75) (v:=?_) (a':=?_) #[true,true,true,true,true,true,false,true,true,true,false,true,false,true,false,false,false,false,false,false,false,false,false,false,false,false,false,false,false,false,false,false,false,false] rfl rfl (any_of HT_.out (by kernel_rfl)) (fun _ _ _ h => h) (Or.inl ⟨by rfl,?_⟩) ?_ ?_
                  rotate_left
                  ·intro w'
                   go_simp
                   with_reducible rfl
                  rotate_left
                  ·simp only [Act.put,sAx16,sBx16,sCx16,i64_w,i32_w]
                   rfl
                  refine take_ (i:=10) (N:=some 81) (v:=?_) (a':=?_) #[true,true,true,true,true,true,false,true,true,true,true,true,false,true,false,false,false,false,false,false,false,false,false,false,false,false,false,false,false,false,false,false,false,false] rfl rfl (take_ofW HT_.out HW_.out (by kernel_rfl)) (fun _ _ _ h => h) (Or.inl ⟨by rfl,?_⟩) hHeld ?_ ?_
                  rotate_left
                  ·rintro w' ⟨s0,s1,s2,s3,s4,s5,s6,s7⟩
                   go_simp
                   with_reducible rfl
                  rotate_left
                  ·simp only [Act.put,sAx16,sBx16,sCx16,i64_w,i32_w]
                   rfl
                  refine take_ (i:=12) (N:=some 83) (v:=?_) (a':=?_) #[true,true,true,true,true,true,false,true,true,true,true,true,true,true,false,false,false,false,false,false,false,false,false,false,false,false,false,false,false,false,false,false,false,false] rfl rfl (take_ofW HT_.out HW_.out (by kernel_rfl)) (fun _ _ _ h => h) (Or.inl ⟨by rfl,?_⟩) hHeld ?_ ?_
                  rotate_left
                  ·rintro w' ⟨s0,s1,s2,s3,s4,s5,s6,s7⟩
                   go_simp
                   with_reducible rfl
                  rotate_left
                  ·simp only [Act.put,sAx16,sBx16,sCx16,i64_w,i32_w]
                   rfl
                  refine pure_ (i:=14) (N:=some 85) (v:=?_) (a':=?_) #[true,true,true,true,true,true,false,true,true,true,true,true,true,true,true,false,false,false,false,false,false,false,false,false,false,false,false,false,false,false,false,false,false,false] rfl rfl (any_of HT_.out (by kernel_rfl)) (fun _ _ _ h => h) (Or.inl ⟨by rfl,?_⟩) ?_ ?_
                  rotate_left
                  ·intro w'
                   go_simp
                   with_reducible rfl
                  rotate_left
                  ·simp only [Act.put,sAx16,sBx16,sCx16,i64_w,i32_w]
                   rfl
                  refine take_ (i:=15) (N:=some 86) (v:=?_) (a':=?_) #[true,true,true,true,true,true,false,true,true,true,true,true,true,true,true,true,false,false,false,false,false,false,false,false,false,false,false,false,false,false,false,false,false,false] rfl rfl (take_ofW HT_.out HW_.out (by kernel_rfl)) (fun _ _ _ h => h) (Or.inl ⟨by rfl,?_⟩) hHeld ?_ ?_
                  rotate_left
                  ·rintro w' ⟨s0,s1,s2,s3,s4,s5,s6,s7⟩
                   go_simp
                   with_reducible rfl
                  rotate_left
                  ·simp only [Act.put,sAx16,sBx16,sCx16,i64_w,i32_w]
                   rfl
                  refine pure_ (i:=16) (N:=some 87) (v:=?_) (a':=?_) #[true,true,true,true,true,true,false,true,true,true,true,true,true,true,true,true,true,false,false,false,false,false,false,false,false,false,false,false,false,false,false,false,false,false] rfl rfl (any_of HT_.out (by kernel_rfl)) (fun _ _ _ h => h) (Or.inl ⟨by rfl,?_⟩) ?_ ?_
                  rotate_left
                  ·intro w'
                   go_simp
                   with_reducible rfl
                  rotate_left
                  ·simp only [Act.put,sAx16,sBx16,sCx16,i64_w,i32_w]
                   rfl
                  refine one_ (i:=6) (N:=some 77) #[true,true,true,true,true,true,true,true,true,true,true,true,true,true,true,true,true,false,false,false,false,false,false,false,false,false,false,false,false,false,false,false,false,false] rfl rfl (one_of HT_.out (by kernel_rfl)) (by decide) (fun K hK => ?_)
                  refine goes_ Tryd.func15 (by kernel_rfl) rfl #[.agg #[.slice (some ad206) l0_0.length c0_0,.slice A0_1 l0_1.length c0_1],.agg #[.slice (some ⟨go35,0,none⟩) y204.length co113,.slice A0_1 l0_1.length c0_1],.slice Ao109 x5_2.length co109] (by rfl) rfl rfl (by (try simp only [List.map_toArray,List.map_cons,List.map_nil]);first | done | (rw [show y204.length = y200.length from (Kd.R_reads' HO202.out).1.symm]<;>rfl) | rfl | (simp only [List.length_drop,List.length_take];rfl)) ?_
                  with_reducible refine (iso_Is.calls _ _ l0_0 _ _ l0_1 _ _ y204 _ _ l0_1 _ _ x5_2 t217 _ ?side1 ?side2 ?side3 ?side4 ?side5 ?side6 ?side7 ?side8 ?side9 ?side10 ?sideG A89.out).mono ?_
                  (case sideG => repeat (first|exact (Kd.C_below HG.out HB.out)|(with_reducible first|refine Kd.C_alloc ?_ _|refine Kd.C_drewN ?_ _|refine Kd.C_drew ?_)))
                  (case side1 => repeat (first|exact (Kd.C_below HR0_0.out HB.out)|(with_reducible first|refine Kd.C_alloc ?_ _|refine Kd.C_drewN ?_ _|refine Kd.C_drew ?_)))
                  (case side2 => exact HC0_0.out)
                  (case side3 => repeat (first|exact (Kd.C_below HR0_1.out HB.out)|(with_reducible first|refine Kd.C_alloc ?_ _|refine Kd.C_drewN ?_ _|refine Kd.C_drew ?_)))
                  (case side4 => exact HC0_1.out)
                  (case side5 => repeat (first|exact (Kd.R_reads' HO202.out).2.2|(with_reducible first|refine Kd.C_alloc ?_ _|refine Kd.C_drewN ?_ _|refine Kd.C_drew ?_)))
                  (case side6 => rw [show y204.length = y200.length from (Kd.R_reads' HO202.out).1.symm];exact (Kd.R_reads' HO202.out).2.1)
                  (case side7 => repeat (first|exact (Kd.C_below HR0_1.out HB.out)|(with_reducible first|refine Kd.C_alloc ?_ _|refine Kd.C_drewN ?_ _|refine Kd.C_drew ?_)))
                  (case side8 => exact HC0_1.out)
                  (case side9 => repeat (first|exact (Kd.R_reads' HO_5.out).2.2|(with_reducible first|refine Kd.C_alloc ?_ _|refine Kd.C_drewN ?_ _|refine Kd.C_drew ?_)))
                  (case side10 => exact (Kd.R_reads' HO_5.out).2.1)
                  rintro e w118 ⟨rfl,hb⟩
                  have HS2_:=(hb.cell (World.block_lt_of_cell? _ _ (hHeld.2.2.1))).trans (hHeld.2.2.1)
                  have HS3_:=(hb.cell (World.block_lt_of_cell? _ _ (hHeld.2.2.2.1))).trans (hHeld.2.2.2.1)
                  have HS4_:=(hb.cell (World.block_lt_of_cell? _ _ (hHeld.2.2.2.2.1))).trans (hHeld.2.2.2.2.1)
                  refine ⟨_,rfl,?_⟩
                  have n0_:=aMx16 (Kd.R_below (by (with_reducible repeat (first | apply Kd.R_alloc | apply Kd.R_drewN | apply Kd.R_drew));exact HO_5.out) hb)
                  have n1_:=aMx16 (Kd.R_below (by (with_reducible repeat (first | apply Kd.R_alloc | apply Kd.R_drewN | apply Kd.R_drew));exact HO202.out) hb)
                  have n2_:=aMx16 (blk_below (g:=gb191) (o:=.cells #[.slice (some ad206) l0_0.length c0_0,.slice A0_1 l0_1.length c0_1] 25 (0,0)) (by (with_reducible repeat (first | refine blk_drewN ?_ _ | refine blk_drew ?_ | refine blk_alloc ?_ _));exact BK191.out) hb)
                  have n3_:=aMx16 (below_step (by repeat (first | (with_reducible first | exact HB.out | apply below_alloc | apply pw_below_drewN | apply below_drew1 | refine below_set ?_ GE191.out) | exact HB.out)) hb)
                  clear HO_5
                  clear HO202
                  clear BK191
                  clear HB
                  have HO_5:=n0_
                  have HO202:=n1_
                  have BK191:=n2_
                  have HB:=n3_
                  clear n0_ n1_ n2_ n3_
                  (try clear hb)
                  (try clear hb2)
                  (try clear hk)
                  (try clear hi)
                  have q119 : (1 : Int) ≤ ((l0_1.length : Int) : Int):=of_decide_eq_true (by first | (with_reducible assumption) | assumption)
                  obtain ⟨i0119,hi0119,_,hsz119,_⟩:=info_parts info57
                  have hroom119 : l0_1.length ≤ c0_1:=HC0_1.out
                  have hC119 : Kd.C k57 _ A0_1 l0_1.length l0_1:=HR0_1.out
                  have hcut119:=cut_from (P:=Tryd.prog) 23 57 .i64 Tryd.underlying23 hi0119 3 hsz119 A0_1 l0_1.length c0_1 1 (by omega) q119
                  have hr119:=Kd.C_drop (m:=(1 : Int).toNat) (c:=c0_1) hC119 (by omega) hroom119
                  obtain ⟨A119,hA119⟩ : ∃ A1,A1 = (if c0_1 = (1 : Int).toNat then A0_1 else (A0_1 : Option Addr).map (·.add ((1 : Int).toNat * 3))):=⟨_,rfl⟩
                  obtain ⟨c119,hc119⟩ : ∃ c1,c1 = c0_1 - (1 : Int).toNat:=⟨_,rfl⟩
                  have hy119 : y220.length = l0_1.length - (1 : Int).toNat:=(by rw [Ny220.out,List.length_drop]<;>omega)
                  rw [show (l0_1).drop (1 : Int).toNat = y220 from Ny220.out.symm] at hr119
                  replace hr119 : Kd.C k57 _ A119 y220.length y220:=(by rw [hA119];exact hr119)
                  rw [← hy119,← hA119,← hc119] at hcut119
                  have HR223:=aMx16 hr119
                  have HC223:=aMx16 (show y220.length ≤ c119 from by rw [hy119,hc119];exact Nat.sub_le_sub_right hroom119 _)
                  clear hr119 hC119 hroom119 hi0119 hsz119 hc119
                  have KY119:=aMx16 hy119
                  have KA119:=aMx16 hA119
                  clear hy119 hA119
                  replace q119:=eq_true q119
                  refine hK.out _ _ ⟨(blk_cell BK191.out 0).trans rfl,(blk_cell BK191.out 1).trans rfl,HS2_,HS3_,HS4_,((HB.out.cell (World.block_lt_of_cell? w _ hw219_0)).trans hw219_0),((HB.out.cell (World.block_lt_of_cell? w _ hw219_1)).trans hw219_1),((HB.out.cell (World.block_lt_of_cell? w _ hw219_2)).trans hw219_2)⟩ (fun hHeld => ?_)
                  clear hK K
                  refine norm_ (a':=?_) ?_ ?_
                  rotate_left
                  ·show Act.put _ (some 77) _ = _
                   simp only [Act.put,sAx16,sBx16,sCx16,i64_w,i32_w]
                   rfl
                  refine pure_ (i:=17) (N:=some 88) (v:=?_) (a':=?_) #[true,true,true,true,true,true,true,true,true,true,true,true,true,true,true,true,true,true,false,false,false,false,false,false,false,false,false,false,false,false,false,false,false,false] rfl rfl (any_of HT_.out (by kernel_rfl)) (fun _ _ _ h => h) (Or.inl ⟨by rfl,?_⟩) ?_ ?_
                  rotate_left
                  ·intro w'
                   go_simp
                   with_reducible rfl
                  rotate_left
                  ·simp only [Act.put,sAx16,sBx16,sCx16,i64_w,i32_w]
                   rfl
                  refine pure_ (i:=18) (N:=some 89) (v:=?_) (a':=?_) #[true,true,true,true,true,true,true,true,true,true,true,true,true,true,true,true,true,true,true,false,false,false,false,false,false,false,false,false,false,false,false,false,false,false] rfl rfl (any_of HT_.out (by kernel_rfl)) (fun _ _ _ h => h) (Or.inl ⟨by rfl,?_⟩) ?_ ?_
                  rotate_left
                  ·intro w'
                   go_simp
                   with_reducible rfl
                  rotate_left
                  ·simp only [Act.put,sAx16,sBx16,sCx16,i64_w,i32_w]
                   rfl
                  refine pure_ (i:=20) (N:=some 91) (v:=?_) (a':=?_) #[true,true,true,true,true,true,true,true,true,true,true,true,true,true,true,true,true,true,true,false,true,false,false,false,false,false,false,false,false,false,false,false,false,false] rfl rfl (any_of HT_.out (by kernel_rfl)) (fun _ _ _ h => h) (Or.inl ⟨by rfl,?_⟩) ?_ ?_
                  rotate_left
                  ·intro w'
                   go_simp
                   with_reducible rfl
                  rotate_left
                  ·simp only [Act.put,sAx16,sBx16,sCx16,i64_w,i32_w]
                   rfl
                  refine pure_ (i:=22) (N:=some 93) (v:=?_) (a':=?_) #[true,true,true,true,true,true,true,true,true,true,true,true,true,true,true,true,true,true,true,false,true,false,true,false,false,false,false,false,false,false,false,false,false,false] rfl rfl (any_of HT_.out (by kernel_rfl)) (fun _ _ _ h => h) (Or.inl ⟨by rfl,?_⟩) ?_ ?_
                  rotate_left
                  ·intro w'
                   go_simp
                   with_reducible rfl
                  rotate_left
                  ·simp only [Act.put,sAx16,sBx16,sCx16,i64_w,i32_w]
                   rfl
                  refine pure_ (i:=26) (N:=some 97) (v:=?_) (a':=?_) #[true,true,true,true,true,true,true,true,true,true,true,true,true,true,true,true,true,true,true,false,true,false,true,false,false,false,true,false,false,false,false,false,false,false] rfl rfl (any_of HT_.out (by kernel_rfl)) (fun _ _ _ h => h) (Or.inl ⟨by rfl,?_⟩) ?_ ?_
                  rotate_left
                  ·intro w'
                   go_simp
                   with_reducible rfl
                  rotate_left
                  ·simp only [Act.put,sAx16,sBx16,sCx16,i64_w,i32_w]
                   rfl
                  refine take_ (i:=19) (N:=some 90) (v:=?_) (a':=?_) #[true,true,true,true,true,true,true,true,true,true,true,true,true,true,true,true,true,true,true,true,true,false,true,false,false,false,true,false,false,false,false,false,false,false] rfl rfl (take_ofW HT_.out HW_.out (by kernel_rfl)) (fun _ _ _ h => h) (Or.inl ⟨by rfl,?_⟩) hHeld ?_ ?_
                  rotate_left
                  ·rintro w' ⟨s0,s1,s2,s3,s4,s5,s6,s7⟩
                   go_simp
                   with_reducible rfl
                  rotate_left
                  ·simp only [Act.put,sAx16,sBx16,sCx16,i64_w,i32_w]
                   rfl
                  refine take_ (i:=21) (N:=some 92) (v:=?_) (a':=?_) #[true,true,true,true,true,true,true,true,true,true,true,true,true,true,true,true,true,true,true,true,true,true,true,false,false,false,true,false,false,false,false,false,false,false] rfl rfl (take_ofW HT_.out HW_.out (by kernel_rfl)) (fun _ _ _ h => h) (Or.inl ⟨by rfl,?_⟩) hHeld ?_ ?_
                  rotate_left
                  ·rintro w' ⟨s0,s1,s2,s3,s4,s5,s6,s7⟩
                   go_simp
                   with_reducible rfl
                  rotate_left
                  ·simp only [Act.put,sAx16,sBx16,sCx16,i64_w,i32_w]
                   rfl
                  refine take_ (i:=23) (N:=some 94) (v:=?_) (a':=?_) #[true,true,true,true,true,true,true,true,true,true,true,true,true,true,true,true,true,true,true,true,true,true,true,true,false,false,true,false,false,false,false,false,false,false] rfl rfl (take_ofW HT_.out HW_.out (by kernel_rfl)) (fun _ _ _ h => h) (Or.inl ⟨by rfl,?_⟩) hHeld ?_ ?_
                  rotate_left
                  ·rintro w' ⟨s0,s1,s2,s3,s4,s5,s6,s7⟩
                   go_simp
                   with_reducible rfl
                  rotate_left
                  ·simp only [Act.put,sAx16,sBx16,sCx16,i64_w,i32_w]
                   rfl
                  refine pure_ (i:=24) (N:=some 95) (v:=?_) (a':=?_) #[true,true,true,true,true,true,true,true,true,true,true,true,true,true,true,true,true,true,true,true,true,true,true,true,true,false,true,false,false,false,false,false,false,false] rfl rfl (any_of HT_.out (by kernel_rfl)) (fun _ _ _ h => h) (Or.inl ⟨by rfl,?_⟩) ?_ ?_
                  rotate_left
                  ·intro w'
                   go_simp
                   with_reducible rfl
                  rotate_left
                  ·simp only [Act.put,sAx16,sBx16,sCx16,i64_w,i32_w]
                   rfl
                  refine pure_ (i:=25) (N:=some 96) (v:=?_) (a':=?_) #[true,true,true,true,true,true,true,true,true,true,true,true,true,true,true,true,true,true,true,true,true,true,true,true,true,true,true,false,false,false,false,false,false,false] rfl rfl (any_of HT_.out (by kernel_rfl)) (fun _ _ _ h => h) (Or.inl ⟨by rfl,?_⟩) ?_ ?_
                  rotate_left
                  ·intro w'
                   go_simp
                   with_reducible rfl
                  rotate_left
                  ·simp only [Act.put,sAx16,sBx16,sCx16,i64_w,i32_w]
                   rfl
                  refine one_ (i:=27) (N:=some 98) #[true,true,true,true,true,true,true,true,true,true,true,true,true,true,true,true,true,true,true,true,true,true,true,true,true,true,true,true,false,false,false,false,false,false] rfl rfl (one_of HT_.out (by kernel_rfl)) (by decide) (fun K hK => ?_)
                  refine goes_ Tryd.func15 (by kernel_rfl) rfl #[.agg #[.slice (some ad206) l0_0.length c0_0,.slice A0_1 l0_1.length c0_1],.agg #[.slice (some ad206) l0_0.length c0_0,.slice A119 y220.length c119],.slice Ao109 x5_2.length co109] (by rfl) rfl rfl (by (try simp only [List.map_toArray,List.map_cons,List.map_nil]);first | done | rfl | (simp only [List.length_drop,List.length_take];rfl)) ?_
                  with_reducible refine (iso_Is.calls _ _ l0_0 _ _ l0_1 _ _ l0_0 _ _ y220 _ _ x5_2 false _ ?side1 ?side2 ?side3 ?side4 ?side5 ?side6 ?side7 ?side8 ?side9 ?side10 ?sideG A92.out).mono ?_
                  (case sideG => repeat (first|exact (Kd.C_below HG.out HB.out)|(with_reducible first|refine Kd.C_alloc ?_ _|refine Kd.C_drewN ?_ _|refine Kd.C_drew ?_)))
                  (case side1 => repeat (first|exact (Kd.C_below HR0_0.out HB.out)|(with_reducible first|refine Kd.C_alloc ?_ _|refine Kd.C_drewN ?_ _|refine Kd.C_drew ?_)))
                  (case side2 => exact HC0_0.out)
                  (case side3 => repeat (first|exact (Kd.C_below HR0_1.out HB.out)|(with_reducible first|refine Kd.C_alloc ?_ _|refine Kd.C_drewN ?_ _|refine Kd.C_drew ?_)))
                  (case side4 => exact HC0_1.out)
                  (case side5 => repeat (first|exact (Kd.C_below HR0_0.out HB.out)|(with_reducible first|refine Kd.C_alloc ?_ _|refine Kd.C_drewN ?_ _|refine Kd.C_drew ?_)))
                  (case side6 => exact HC0_0.out)
                  (case side7 => repeat (first|exact (Kd.C_below HR223.out HB.out)|(with_reducible first|refine Kd.C_alloc ?_ _|refine Kd.C_drewN ?_ _|refine Kd.C_drew ?_)))
                  (case side8 => exact HC223.out)
                  (case side9 => repeat (first|exact (Kd.R_reads' HO_5.out).2.2|(with_reducible first|refine Kd.C_alloc ?_ _|refine Kd.C_drewN ?_ _|refine Kd.C_drew ?_)))
                  (case side10 => exact (Kd.R_reads' HO_5.out).2.1)
                  rintro e w120 ⟨rfl,hb⟩
                  have HS2_:=(hb.cell (World.block_lt_of_cell? _ _ (hHeld.2.2.1))).trans (hHeld.2.2.1)
                  have HS3_:=(hb.cell (World.block_lt_of_cell? _ _ (hHeld.2.2.2.1))).trans (hHeld.2.2.2.1)
                  have HS4_:=(hb.cell (World.block_lt_of_cell? _ _ (hHeld.2.2.2.2.1))).trans (hHeld.2.2.2.2.1)
                  refine ⟨_,rfl,?_⟩
                  have n0_:=aMx16 (Kd.R_below (by (with_reducible repeat (first | apply Kd.R_alloc | apply Kd.R_drewN | apply Kd.R_drew));exact HO_5.out) hb)
                  have n1_:=aMx16 (Kd.R_below (by (with_reducible repeat (first | apply Kd.R_alloc | apply Kd.R_drewN | apply Kd.R_drew));exact HO202.out) hb)
                  have n2_:=aMx16 (blk_below (g:=gb191) (o:=.cells #[.slice (some ad206) l0_0.length c0_0,.slice A0_1 l0_1.length c0_1] 25 (0,0)) (by (with_reducible repeat (first | refine blk_drewN ?_ _ | refine blk_drew ?_ | refine blk_alloc ?_ _));exact BK191.out) hb)
                  have n3_:=aMx16 (below_step (by repeat (first | (with_reducible first | exact HB.out | apply below_alloc | apply pw_below_drewN | apply below_drew1 | refine below_set ?_ GE191.out) | exact HB.out)) hb)
                  clear HO_5
                  clear HO202
                  clear BK191
                  clear HB
                  have HO_5:=n0_
                  have HO202:=n1_
                  have BK191:=n2_
                  have HB:=n3_
                  clear n0_ n1_ n2_ n3_
                  (try clear hb)
                  (try clear hb2)
                  (try clear hk)
                  (try clear hi)
                  refine hK.out _ _ ⟨(blk_cell BK191.out 0).trans rfl,(blk_cell BK191.out 1).trans rfl,HS2_,HS3_,HS4_,((HB.out.cell (World.block_lt_of_cell? w _ hw219_0)).trans hw219_0),((HB.out.cell (World.block_lt_of_cell? w _ hw219_1)).trans hw219_1),((HB.out.cell (World.block_lt_of_cell? w _ hw219_2)).trans hw219_2)⟩ (fun hHeld => ?_)
                  clear hK K
                  refine norm_ (a':=?_) ?_ ?_
                  rotate_left
                  ·show Act.put _ (some 98) _ = _
                   simp only [Act.put,sAx16,sBx16,sCx16,i64_w,i32_w]
                   rfl
                  refine pure_ (i:=28) (N:=some 99) (v:=?_) (a':=?_) #[true,true,true,true,true,true,true,true,true,true,true,true,true,true,true,true,true,true,true,true,true,true,true,true,true,true,true,true,true,false,false,false,false,false] rfl rfl (any_of HT_.out (by kernel_rfl)) (fun _ _ _ h => h) (Or.inl ⟨by rfl,?_⟩) ?_ ?_
                  rotate_left
                  ·intro w'
                   go_simp
                   with_reducible rfl
                  rotate_left
                  ·simp only [Act.put,sAx16,sBx16,sCx16,i64_w,i32_w]
                   rfl
                  refine pure_ (i:=29) (N:=some 100) (v:=?_) (a':=?_) #[true,true,true,true,true,true,true,true,true,true,true,true,true,true,true,true,true,true,true,true,true,true,true,true,true,true,true,true,true,true,false,false,false,false] rfl rfl (any_of HT_.out (by kernel_rfl)) (fun _ _ _ h => h) (Or.inl ⟨by rfl,?_⟩) ?_ ?_
                  rotate_left
                  ·intro w'
                   go_simp
                   with_reducible rfl
                  rotate_left
                  ·simp only [Act.put,sAx16,sBx16,sCx16,i64_w,i32_w]
                   rfl
                  refine pure_ (i:=30) (N:=some 101) (v:=?_) (a':=?_) #[true,true,true,true,true,true,true,true,true,true,true,true,true,true,true,true,true,true,true,true,true,true,true,true,true,true,true,true,true,true,true,false,false,false] rfl rfl (any_of HT_.out (by kernel_rfl)) (fun _ _ _ h => h) (Or.inl ⟨by rfl,?_⟩) ?_ ?_
                  rotate_left
                  ·intro w'
                   go_simp
                   with_reducible rfl
                  rotate_left
                  ·simp only [Act.put,sAx16,sBx16,sCx16,i64_w,i32_w]
                   rfl
                  refine one_ (i:=31) (N:=some 102) #[true,true,true,true,true,true,true,true,true,true,true,true,true,true,true,true,true,true,true,true,true,true,true,true,true,true,true,true,true,true,true,true,false,false] rfl rfl (one_of HT_.out (by kernel_rfl)) (by decide) (fun K hK => ?_)
                  refine goes_ Tryd.func12 (by kernel_rfl) rfl #[] (by rfl) rfl rfl (by (try simp only [List.map_toArray,List.map_cons,List.map_nil]);first | done | rfl | (simp only [List.length_drop,List.length_take];rfl)) ?_
                  with_reducible refine (lapidarylaw13_known.calls  t225 _ A107.out).mono ?_
                  rintro e w121 ⟨rfl,hb⟩
                  have HS2_:=(hb.cell (World.block_lt_of_cell? _ _ (hHeld.2.2.1))).trans (hHeld.2.2.1)
                  have HS3_:=(hb.cell (World.block_lt_of_cell? _ _ (hHeld.2.2.2.1))).trans (hHeld.2.2.2.1)
                  have HS4_:=(hb.cell (World.block_lt_of_cell? _ _ (hHeld.2.2.2.2.1))).trans (hHeld.2.2.2.2.1)
                  refine ⟨_,rfl,?_⟩
                  have n0_:=aMx16 (Kd.R_below (by (with_reducible repeat (first | apply Kd.R_alloc | apply Kd.R_drewN | apply Kd.R_drew));exact HO_5.out) hb)
                  have n1_:=aMx16 (Kd.R_below (by (with_reducible repeat (first | apply Kd.R_alloc | apply Kd.R_drewN | apply Kd.R_drew));exact HO202.out) hb)
                  have n2_:=aMx16 (blk_below (g:=gb191) (o:=.cells #[.slice (some ad206) l0_0.length c0_0,.slice A0_1 l0_1.length c0_1] 25 (0,0)) (by (with_reducible repeat (first | refine blk_drewN ?_ _ | refine blk_drew ?_ | refine blk_alloc ?_ _));exact BK191.out) hb)
                  have n3_:=aMx16 (below_step (by repeat (first | (with_reducible first | exact HB.out | apply below_alloc | apply pw_below_drewN | apply below_drew1 | refine below_set ?_ GE191.out) | exact HB.out)) hb)
                  clear HO_5
                  clear HO202
                  clear BK191
                  clear HB
                  have HO_5:=n0_
                  have HO202:=n1_
                  have BK191:=n2_
                  have HB:=n3_
                  clear n0_ n1_ n2_ n3_
                  (try clear hb)
                  (try clear hb2)
                  (try clear hk)
                  (try clear hi)
                  refine hK.out _ _ ⟨(blk_cell BK191.out 0).trans rfl,(blk_cell BK191.out 1).trans rfl,HS2_,HS3_,HS4_,((HB.out.cell (World.block_lt_of_cell? w _ hw219_0)).trans hw219_0),((HB.out.cell (World.block_lt_of_cell? w _ hw219_1)).trans hw219_1),((HB.out.cell (World.block_lt_of_cell? w _ hw219_2)).trans hw219_2)⟩ (fun hHeld => ?_)
                  clear hK K
                  refine norm_ (a':=?_) ?_ ?_
                  rotate_left
                  ·show Act.put _ (some 102) _ = _
                   simp only [Act.put,sAx16,sBx16,sCx16,i64_w,i32_w]
                   rfl
                  refine pure_ (i:=32) (N:=some 103) (v:=?_) (a':=?_) #[true,true,true,true,true,true,true,true,true,true,true,true,true,true,true,true,true,true,true,true,true,true,true,true,true,true,true,true,true,true,true,true,true,false] rfl rfl (any_of HT_.out (by kernel_rfl)) (fun _ _ _ h => h) (Or.inl ⟨by rfl,?_⟩) ?_ ?_
                  rotate_left
                  ·intro w'
                   go_simp
                   with_reducible rfl
                  rotate_left
                  ·simp only [Act.put,sAx16,sBx16,sCx16,i64_w,i32_w]
                   rfl
                  refine pure_ (i:=33) (N:=some 4) (v:=?_) (a':=?_) #[true,true,true,true,true,true,true,true,true,true,true,true,true,true,true,true,true,true,true,true,true,true,true,true,true,true,true,true,true,true,true,true,true,true] rfl rfl (any_of HT_.out (by kernel_rfl)) (fun _ _ _ h => h) (Or.inl ⟨by rfl,?_⟩) ?_ ?_
                  rotate_left
                  ·intro w'
                   go_simp
                   with_reducible rfl
                  rotate_left
                  ·simp only [Act.put,sAx16,sBx16,sCx16,i64_w,i32_w]
                   rfl
                  refine done_ (done_of HT_.out (by kernel_rfl)) ?_
                  try go_wp2
                  go_ret
                  exact ⟨by first | rfl | (simp [errW_none,errW_some]<;>rfl) | (simp only [← hji32];first | rfl | (simp [errW_none,errW_some]<;>rfl)) | (simp [*,errW_none,errW_some]<;>rfl),by repeat (first | (with_reducible first | exact HB.out | apply below_alloc | apply pw_below_drewN | apply below_drew1 | refine below_set ?_ GE191.out) | exact HB.out)⟩
                ·rw [if_neg c91] at H
                 exact absurd H (by simp)
               ·rw [if_neg c90] at H
                exact absurd (Option.some.inj H) (by rw [HRT.out];decide)
             ·rw [if_neg c36] at H
              exact absurd H (by simp)
            ·rw [if_neg c34] at H
             exact absurd H (by simp)
           ·rw [if_neg c33] at H
            exact absurd H (by simp)
         ·rw [if_neg c30] at H
          exact absurd H (by simp)
       ·replace c22:=Bool.eq_false_iff.mpr c22
        subst c22
        have H1 : (some false) = some r:=by rw [if_neg (show ¬ (false = true) by decide)] at H;exact H
        exact absurd (Option.some.inj H1) (by rw [HRT.out];decide)
end Go.Proofs.YtbdpfmpbooikiaaDoor.PIsr
