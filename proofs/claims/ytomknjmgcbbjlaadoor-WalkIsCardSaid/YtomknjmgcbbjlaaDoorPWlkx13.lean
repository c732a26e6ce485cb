import Derived.Test.YtomknjmgcbbjlaaDoorPWlkx0
import Derived.Test.YtomknjmgcbbjlaaDoorStepsStub
import Derived.Test.YtomknjmgcbbjlaaDoorPWlkx4
import Derived.Test.YtomknjmgcbbjlaaDoorPWlkx5
import Derived.Test.YtomknjmgcbbjlaaDoorPWlkx5k
import Derived.Test.YtomknjmgcbbjlaaDoorPWlkx12
import Derived.Test.YtomknjmgcbbjlaaDoorOrderStub
namespace Go.Proofs.YtomknjmgcbbjlaaDoor.PWlk
open Go Go.RowKit Go.Proofs.YtomknjmgcbbjlaaDoorW.PrintWords Go.Proofs.YtomknjmgcbbjlaaDoorW.PrintLast Go.Proofs.YtomknjmgcbbjlaaDoorW.PrintMore
attribute [local go_sem] max2_int min2_int max_two min_two max_three min_three max_four min_four
set_option linter.unusedVariables false
set_option maxRecDepth 100000
set_option linter.unusedSimpArgs false
attribute [local go_sem high] eqA46 eqA47
attribute [local go_sem] idx47_0_0 idx47_1_0 idx47_2_0 idx107_0_0 idx107_1_0
theorem tm1_x13 : (wrap64 1).tmod 3 = 1 := by first | rfl | decide | (unfold wrap64; rfl)
theorem tm2_x13 : (wrap64 2).tmod 3 = 2 := by first | rfl | decide | (unfold wrap64; rfl)
theorem tm3_x13 : (wrap64 3).tmod 3 = 0 := by first | rfl | decide | (unfold wrap64; rfl)
attribute [local go_sem] tm1_x13 tm2_x13 tm3_x13
theorem sAx13 {α : Type _} {l : List α} {i : Nat} {a : α} : l.toArray.setIfInBounds i a = (l.set i a).toArray := List.setIfInBounds_toArray ..
theorem sBx13 {α : Type _} {x y : α} {l : List α} : (x :: l).set 0 y = y :: l := rfl
theorem sCx13 {α : Type _} {x y : α} {l : List α} {i : Nat} : (x :: l).set (i + 1) y = x :: l.set i y := rfl
theorem aMx13 {p : Prop} (h : p) : Aside0 p := ⟨h⟩
def lapidaryref00_SameInts.l0 : Nat → List Int → List Int → Int → Option (Bool)
  | 0, _, _, _ => none
  | k + 1, x0, x1, x5 => if x5 < (x0.length : Int) then (if 0 ≤ x5 then (if x5 < (x1.length : Int) then (if (rd x0 x5) = (rd x1 x5) then (lapidaryref00_SameInts.l0 k x0 x1 (wrap64 (x5 + 1))) else (some false)) else (none)) else (none)) else (some true)
def lapidaryref00_SameInts.f (k : Nat) (l0 : List Int) (l1 : List Int) : Option (Bool) := if (l0.length : Int) = (l1.length : Int) then (lapidaryref00_SameInts.l0 k l0 l1 0) else (some false)
noncomputable def lapidarylaw11_WalkSteps.f (k : Nat) (l0_0 : List (S46)) (l0_1 : List (S47)) : Option (Bool) := (lapidarylaw11_long.f l0_0 l0_1).bind fun t400 => (if t400 = true then ((lapidarylaw11_known.f k).bind fun t401 => (some t401)) else ((walk_Steps.f l0_0 l0_1).bind fun bt402 => ((walk_Order.f l0_0 l0_1).bind fun bt406 => ((lapidaryref11_Walk.f k l0_0 l0_1).bind fun bt413 => ((lapidaryref11_SameSteps.f k bt402.1 bt413.2.2.2.2.1).bind fun t430 => (if t430 = true then ((lapidaryref00_SameInts.f k bt406.1 bt413.1).bind fun t431 => (if t431 = true then ((lapidaryref00_SameInts.f k bt406.2.1 bt413.2.1).bind fun t432 => (if t432 = true then (if bt402.2 = bt413.2.2.2.2.2 then (if bt406.2.2 = bt413.2.2.2.2.2 then ((lapidarylaw11_known.f k).bind fun t433 => (some t433)) else (some false)) else (some false)) else (some false))) else (some false))) else (some false)))))))
mutual
def lapidaryref10_Same.j0 : Nat → Bool → List (S46) → List (S47) → List (S46) → List (S47) → Option (Bool)
  | 0, _, _, _, _, _ => none
  | k + 1, x22, x435000, x435001, x436000, x436001 => if x22 = true then (some false) else (lapidaryref10_Same.l0 k 0 x435000 x435001 x436000 x436001)
def lapidaryref10_Same.l0 : Nat → Int → List (S46) → List (S47) → List (S46) → List (S47) → Option (Bool)
  | 0, _, _, _, _, _ => none
  | k + 1, x5, x435000, x435001, x436000, x436001 => if x5 < (x435000.length : Int) then (if 0 ≤ x5 then (if x5 < (x436000.length : Int) then (if (!(((rd_T46 x435000 x5).f0) == ((rd_T46 x436000 x5).f0)) || (!(((rd_T46 x435000 x5).f1) == ((rd_T46 x436000 x5).f1)) || (!(((rd_T46 x435000 x5).f2) == ((rd_T46 x436000 x5).f2))))) = true then (some false) else (lapidaryref10_Same.l0 k (wrap64 (x5 + 1)) x435000 x435001 x436000 x436001)) else (none)) else (none)) else (lapidaryref10_Same.l1 k 0 x435000 x435001 x436000 x436001)
def lapidaryref10_Same.l1 : Nat → Int → List (S46) → List (S47) → List (S46) → List (S47) → Option (Bool)
  | 0, _, _, _, _, _ => none
  | k + 1, x6, x435000, x435001, x436000, x436001 => if x6 < (x435001.length : Int) then (if 0 ≤ x6 then (if x6 < (x436001.length : Int) then (if (!(((rd_T47 x435001 x6).f0) == ((rd_T47 x436001 x6).f0)) || (!(((rd_T47 x435001 x6).f1) == ((rd_T47 x436001 x6).f1)) || (!(((rd_T47 x435001 x6).f2) == ((rd_T47 x436001 x6).f2))))) = true then (some false) else (lapidaryref10_Same.l1 k (wrap64 (x6 + 1)) x435000 x435001 x436000 x436001)) else (none)) else (none)) else (some true)
end
def lapidaryref10_Same.f (k : Nat) (l0_0 : List (S46)) (l0_1 : List (S47)) (l1_0 : List (S46)) (l1_1 : List (S47)) : Option (Bool) := if (l0_0.length : Int) = (l1_0.length : Int) then (lapidaryref10_Same.j0 k ((l0_1.length : Int) != (l1_1.length : Int)) l0_0 l0_1 l1_0 l1_1) else (lapidaryref10_Same.j0 k true l0_0 l0_1 l1_0 l1_1)
set_option maxHeartbeats 8000000 in
set_option maxRecDepth 100000 in
theorem lapidaryref10_Same.calls (k : Nat) (A0_0 : Option Addr) (c0_0 : Nat) (l0_0 : List (S46)) (A0_1 : Option Addr) (c0_1 : Nat) (l0_1 : List (S47)) (A1_0 : Option Addr) (c1_0 : Nat) (l1_0 : List (S46)) (A1_1 : Option Addr) (c1_1 : Nat) (l1_1 : List (S47)) (r : Bool) (w : World) (hr0_0 : Kd.C k46 w A0_0 l0_0.length l0_0) (hc0_0 : l0_0.length ≤ c0_0) (hr0_1 : Kd.C k47 w A0_1 l0_1.length l0_1) (hc0_1 : l0_1.length ≤ c0_1) (hr1_0 : Kd.C k46 w A1_0 l1_0.length l1_0) (hc1_0 : l1_0.length ≤ c1_0) (hr1_1 : Kd.C k47 w A1_1 l1_1.length l1_1) (hc1_1 : l1_1.length ≤ c1_1) (h : lapidaryref10_Same.f k l0_0 l0_1 l1_0 l1_1 = some r) :
  Calls Tryd.prog 28 #[.agg #[.slice A0_0 l0_0.length c0_0,.slice A0_1 l0_1.length c0_1],.agg #[.slice A1_0 l1_0.length c1_0,.slice A1_1 l1_1.length c1_1]] w fun e w' => e = .returned (.bool r) ∧ Below w.heap.size w w':=by
 have hu25:=Tryd.underlying25
 have hu46:=Tryd.underlying46
 have hu47:=Tryd.underlying47
 have HR0_0:=aMx13 hr0_0
 have HC0_0:=aMx13 hc0_0
 clear hr0_0 hc0_0
 have HR0_1:=aMx13 hr0_1
 have HC0_1:=aMx13 hc0_1
 clear hr0_1 hc0_1
 have HR1_0:=aMx13 hr1_0
 have HC1_0:=aMx13 hc1_0
 clear hr1_0 hc1_0
 have HR1_1:=aMx13 hr1_1
 have HC1_1:=aMx13 hc1_1
 clear hr1_1 hc1_1
 have HB:=aMx13 (Below.refl w.heap.size w)
 have H : (if (l0_0.length : Int) = (l1_0.length : Int) then (lapidaryref10_Same.j0 k ((l0_1.length : Int) != (l1_1.length : Int)) l0_0 l0_1 l1_0 l1_1) else (lapidaryref10_Same.j0 k true l0_0 l0_1 l1_0 l1_1)) = some r:=h
 clear h
 have HC3:=aMx13 H
 clear H
 go_enter Tryd.func28,Tryd.ntmps28
 go_upto_region 1 with (first | ((with_reducible refine gate_dst (N:=2) rfl ?_);(try (refine gate_guard (by rfl) ?_;dsimp only));refine box_event ?hg (N:=2) ?hd (cs:=#[.slice A0_0 l0_0.length c0_0,.slice A0_1 l0_1.length c0_1]) (t:=25) ?hr ?_;(case hd => rfl);(case hg => rfl);(case hr => first | (go_simp;done) | (go_simp;rfl));intro gb434 hg w4 hbox hb;have n0_:=aMx13 (below_step (by repeat (first | (with_reducible first | exact HB.out | apply below_alloc | apply pw_below_drewN | apply below_drew1) | exact HB.out)) hb);have n1_:=aMx13 (hbox);have n2_:=aMx13 ((by rw [hg];exact (below_size (by repeat (first | (with_reducible first | exact HB.out | apply below_alloc | apply pw_below_drewN | apply below_drew1) | exact HB.out))) : w.heap.size ≤ gb434));have n3_:=aMx13 ((by rw [hg];exact (below_size (by repeat (first | (with_reducible first | exact HB.out | apply below_alloc | apply pw_below_drewN | apply below_drew1) | exact HB.out))) : w.heap.size ≤ gb434));clear HB;have HB:=n0_;have BK434:=n1_;have GW434:=n2_;have GE434:=n3_;clear n0_ n1_ n2_ n3_;clear hb hbox hg) | ((with_reducible refine gate_dst (N:=3) rfl ?_);(try (refine gate_guard (by rfl) ?_;dsimp only));refine box_event ?hg (N:=3) ?hd (cs:=#[.slice A1_0 l1_0.length c1_0,.slice A1_1 l1_1.length c1_1]) (t:=25) ?hr ?_;(case hd => rfl);(case hg => rfl);(case hr => first | (go_simp;done) | (go_simp;rfl));intro gb435 hg w5 hbox hb;have n0_:=aMx13 (blk_below (g:=gb434) (o:=.cells #[.slice A0_0 l0_0.length c0_0,.slice A0_1 l0_1.length c0_1] 25 (0,0)) (by (with_reducible repeat (first | refine blk_drewN ?_ _ | refine blk_drew ?_ | refine blk_alloc ?_ _));exact BK434.out) hb);have n1_:=aMx13 (below_step (by repeat (first | (with_reducible first | exact HB.out | apply below_alloc | apply pw_below_drewN | apply below_drew1 | refine below_set ?_ GE434.out) | exact HB.out)) hb);have n2_:=aMx13 (hbox);have n3_:=aMx13 ((by rw [hg];exact (below_size (by repeat (first | (with_reducible first | exact HB.out | apply below_alloc | apply pw_below_drewN | apply below_drew1 | refine below_set ?_ GE434.out) | exact HB.out))) : w.heap.size ≤ gb435));have n4_:=aMx13 ((by rw [hg];exact (below_size (by repeat (first | (with_reducible first | exact HB.out | apply below_alloc | apply pw_below_drewN | apply below_drew1 | refine below_set ?_ GE434.out) | exact HB.out))) : w.heap.size ≤ gb435));have n5_:=aMx13 ((by rw [hg];exact Nat.ne_of_lt (blk_lt (g:=gb434) (o:=.cells #[.slice A0_0 l0_0.length c0_0,.slice A0_1 l0_1.length c0_1] 25 (0,0)) (by (with_reducible repeat (first | refine blk_drewN ?_ _ | refine blk_drew ?_ | refine blk_alloc ?_ _));exact BK434.out)) : gb434 ≠ gb435));have n6_:=aMx13 ((by rw [hg];exact Nat.ne_of_gt (blk_lt (g:=gb434) (o:=.cells #[.slice A0_0 l0_0.length c0_0,.slice A0_1 l0_1.length c0_1] 25 (0,0)) (by (with_reducible repeat (first | refine blk_drewN ?_ _ | refine blk_drew ?_ | refine blk_alloc ?_ _));exact BK434.out)) : gb435 ≠ gb434));clear BK434;clear HB;have BK434:=n0_;have HB:=n1_;have BK435:=n2_;have GW435:=n3_;have GE435:=n4_;have NB434_435:=n5_;have NB435_434:=n6_;clear n0_ n1_ n2_ n3_ n4_ n5_ n6_;clear hb hbox hg))
 repeat (go_quiet (first | ((with_reducible refine gate_dst (N:=2) rfl ?_);(try (refine gate_guard (by rfl) ?_;dsimp only));refine box_event ?hg (N:=2) ?hd (cs:=#[.slice A0_0 l0_0.length c0_0,.slice A0_1 l0_1.length c0_1]) (t:=25) ?hr ?_;(case hd => rfl);(case hg => rfl);(case hr => first | (go_simp;done) | (go_simp;rfl));intro gb434 hg w4 hbox hb;have n0_:=aMx13 (below_step (by repeat (first | (with_reducible first | exact HB.out | apply below_alloc | apply pw_below_drewN | apply below_drew1) | exact HB.out)) hb);have n1_:=aMx13 (hbox);have n2_:=aMx13 ((by rw [hg];exact (below_size (by repeat (first | (with_reducible first | exact HB.out | apply below_alloc | apply pw_below_drewN | apply below_drew1) | exact HB.out))) : w.heap.size ≤ gb434));have n3_:=aMx13 ((by rw [hg];exact (below_size (by repeat (first | (with_reducible first | exact HB.out | apply below_alloc | apply pw_below_drewN | apply below_drew1) | exact HB.out))) : w.heap.size ≤ gb434));clear HB;have HB:=n0_;have BK434:=n1_;have GW434:=n2_;have GE434:=n3_;clear n0_ n1_ n2_ n3_;clear hb hbox hg) | ((with_reducible refine gate_dst (N:=3) rfl ?_);(try (refine gate_guard (by rfl) ?_;dsimp only));refine box_event ?hg (N:=3) ?hd (cs:=#[.slice A1_0 l1_0.length c1_0,.slice A1_1 l1_1.length c1_1]) (t:=25) ?hr ?_;(case hd => rfl);(case hg => rfl);(case hr => first | (go_simp;done) | (go_simp;rfl));intro gb435 hg w5 hbox hb;have n0_:=aMx13 (blk_below (g:=gb434) (o:=.cells #[.slice A0_0 l0_0.length c0_0,.slice A0_1 l0_1.length c0_1] 25 (0,0)) (by (with_reducible repeat (first | refine blk_drewN ?_ _ | refine blk_drew ?_ | refine blk_alloc ?_ _));exact BK434.out) hb);have n1_:=aMx13 (below_step (by repeat (first | (with_reducible first | exact HB.out | apply below_alloc | apply pw_below_drewN | apply below_drew1 | refine below_set ?_ GE434.out) | exact HB.out)) hb);have n2_:=aMx13 (hbox);have n3_:=aMx13 ((by rw [hg];exact (below_size (by repeat (first | (with_reducible first | exact HB.out | apply below_alloc | apply pw_below_drewN | apply below_drew1 | refine below_set ?_ GE434.out) | exact HB.out))) : w.heap.size ≤ gb435));have n4_:=aMx13 ((by rw [hg];exact (below_size (by repeat (first | (with_reducible first | exact HB.out | apply below_alloc | apply pw_below_drewN | apply below_drew1 | refine below_set ?_ GE434.out) | exact HB.out))) : w.heap.size ≤ gb435));have n5_:=aMx13 ((by rw [hg];exact Nat.ne_of_lt (blk_lt (g:=gb434) (o:=.cells #[.slice A0_0 l0_0.length c0_0,.slice A0_1 l0_1.length c0_1] 25 (0,0)) (by (with_reducible repeat (first | refine blk_drewN ?_ _ | refine blk_drew ?_ | refine blk_alloc ?_ _));exact BK434.out)) : gb434 ≠ gb435));have n6_:=aMx13 ((by rw [hg];exact Nat.ne_of_gt (blk_lt (g:=gb434) (o:=.cells #[.slice A0_0 l0_0.length c0_0,.slice A0_1 l0_1.length c0_1] 25 (0,0)) (by (with_reducible repeat (first | refine blk_drewN ?_ _ | refine blk_drew ?_ | refine blk_alloc ?_ _));exact BK434.out)) : gb435 ≠ gb434));clear BK434;clear HB;have BK434:=n0_;have HB:=n1_;have BK435:=n2_;have GW435:=n3_;have GE435:=n4_;have NB434_435:=n5_;have NB435_434:=n6_;clear n0_ n1_ n2_ n3_ n4_ n5_ n6_;clear hb hbox hg));go_upto_region 1 with (first | ((with_reducible refine gate_dst (N:=2) rfl ?_);(try (refine gate_guard (by rfl) ?_;dsimp only));refine box_event ?hg (N:=2) ?hd (cs:=#[.slice A0_0 l0_0.length c0_0,.slice A0_1 l0_1.length c0_1]) (t:=25) ?hr ?_;(case hd => rfl);(case hg => rfl);(case hr => first | (go_simp;done) | (go_simp;rfl));intro gb434 hg w4 hbox hb;have n0_:=aMx13 (below_step (by repeat (first | (with_reducible first | exact HB.out | apply below_alloc | apply pw_below_drewN | apply below_drew1) | exact HB.out)) hb);have n1_:=aMx13 (hbox);have n2_:=aMx13 ((by rw [hg];exact (below_size (by repeat (first | (with_reducible first | exact HB.out | apply below_alloc | apply pw_below_drewN | apply below_drew1) | exact HB.out))) : w.heap.size ≤ gb434));have n3_:=aMx13 ((by rw [hg];exact (below_size (by repeat (first | (with_reducible first | exact HB.out | apply below_alloc | apply pw_below_drewN | apply below_drew1) | exact HB.out))) : w.heap.size ≤ gb434));clear HB;have HB:=n0_;have BK434:=n1_;have GW434:=n2_;have GE434:=n3_;clear n0_ n1_ n2_ n3_;clear hb hbox hg) | ((with_reducible refine gate_dst (N:=3) rfl ?_);(try (refine gate_guard (by rfl) ?_;dsimp only));refine box_event ?hg (N:=3) ?hd (cs:=#[.slice A1_0 l1_0.length c1_0,.slice A1_1 l1_1.length c1_1]) (t:=25) ?hr ?_;(case hd => rfl);(case hg => rfl);(case hr => first | (go_simp;done) | (go_simp;rfl));intro gb435 hg w5 hbox hb;have n0_:=aMx13 (blk_below (g:=gb434) (o:=.cells #[.slice A0_0 l0_0.length c0_0,.slice A0_1 l0_1.length c0_1] 25 (0,0)) (by (with_reducible repeat (first | refine blk_drewN ?_ _ | refine blk_drew ?_ | refine blk_alloc ?_ _));exact BK434.out) hb);have n1_:=aMx13 (below_step (by repeat (first | (with_reducible first | exact HB.out | apply below_alloc | apply pw_below_drewN | apply below_drew1 | refine below_set ?_ GE434.out) | exact HB.out)) hb);have n2_:=aMx13 (hbox);have n3_:=aMx13 ((by rw [hg];exact (below_size (by repeat (first | (with_reducible first | exact HB.out | apply below_alloc | apply pw_below_drewN | apply below_drew1 | refine below_set ?_ GE434.out) | exact HB.out))) : w.heap.size ≤ gb435));have n4_:=aMx13 ((by rw [hg];exact (below_size (by repeat (first | (with_reducible first | exact HB.out | apply below_alloc | apply pw_below_drewN | apply below_drew1 | refine below_set ?_ GE434.out) | exact HB.out))) : w.heap.size ≤ gb435));have n5_:=aMx13 ((by rw [hg];exact Nat.ne_of_lt (blk_lt (g:=gb434) (o:=.cells #[.slice A0_0 l0_0.length c0_0,.slice A0_1 l0_1.length c0_1] 25 (0,0)) (by (with_reducible repeat (first | refine blk_drewN ?_ _ | refine blk_drew ?_ | refine blk_alloc ?_ _));exact BK434.out)) : gb434 ≠ gb435));have n6_:=aMx13 ((by rw [hg];exact Nat.ne_of_gt (blk_lt (g:=gb434) (o:=.cells #[.slice A0_0 l0_0.length c0_0,.slice A0_1 l0_1.length c0_1] 25 (0,0)) (by (with_reducible repeat (first | refine blk_drewN ?_ _ | refine blk_drew ?_ | refine blk_alloc ?_ _));exact BK434.out)) : gb435 ≠ gb434));clear BK434;clear HB;have BK434:=n0_;have HB:=n1_;have BK435:=n2_;have GW435:=n3_;have GE435:=n4_;have NB434_435:=n5_;have NB435_434:=n6_;clear n0_ n1_ n2_ n3_ n4_ n5_ n6_;clear hb hbox hg)))
 (try simp only [Act.put,sAx13,sBx13,sCx13])
 go_cut [22] (fun v22 wc => ∃ (kq : Nat) (x22_2 : Bool),v22 = .bool x22_2 ∧ Aside0 (lapidaryref10_Same.j0 kq x22_2 l0_0 l0_1 l1_0 l1_1 = some r) ∧ Aside0 (kq ≤ k) ∧ Aside0 (wc.heap[gb434]? = some (.cells #[(.slice A0_0 l0_0.length c0_0),(.slice A0_1 l0_1.length c0_1)] 25 (0,0))) ∧ Aside0 (wc.heap[gb435]? = some (.cells #[(.slice A1_0 l1_0.length c1_0),(.slice A1_1 l1_1.length c1_1)] 25 (0,0))) ∧ Aside0 (Below w.heap.size w wc))
 case first =>
  have H:=HC3.out
  clear HC3
  by_cases c6 : (l0_0.length : Int) = (l1_0.length : Int)
  ·rw [if_pos c6] at H
   have c6b0 : ((l0_0.length : Int) == (l1_0.length : Int)) = true:=beq_iff_eq.mpr c6
   have c6b1 : ((l0_0.length : Int) != (l1_0.length : Int)) = false:=bne_eq_false_iff_eq.mpr c6
   have c6b2 : (l0_0.length == l1_0.length) = true:=by first | simpa using c6 | (simp at c6 ⊢;omega)
   clear c6
   (first | rw [c6b0] | (simp only [i64_w,i32_w];rw [c6b0]) | skip)
   have H':=aMx13 H
   clear H
   have hnb7:=NB434_435.out
   have hnc7:=NB435_434.out
   have hcz8_0 : w5.cell? ⟨gb434,0,none⟩ = some (.slice A0_0 l0_0.length c0_0):=(blk_cell BK434.out 0).trans rfl
   have hcz8_1 : w5.cell? ⟨gb434,1,none⟩ = some (.slice A0_1 l0_1.length c0_1):=(blk_cell BK434.out 1).trans rfl
   have hfz8_0:=blk_frozen BK434.out 0
   have hfz8_1:=blk_frozen BK434.out 1
   have hcz9_0 : w5.cell? ⟨gb435,0,none⟩ = some (.slice A1_0 l1_0.length c1_0):=(blk_cell BK435.out 0).trans rfl
   have hcz9_1 : w5.cell? ⟨gb435,1,none⟩ = some (.slice A1_1 l1_1.length c1_1):=(blk_cell BK435.out 1).trans rfl
   have hfz9_0:=blk_frozen BK435.out 0
   have hfz9_1:=blk_frozen BK435.out 1
   go_wp2
   repeat (go_quiet (fail);try go_wp2)
   go_meet
   case rel => exact ⟨_,(((l0_1.length : Int) != (l1_1.length : Int))),(by first | rfl | (simp;done) | (simp [*];done) | (simp [wrap64];done)),H',⟨by first | omega | exact Nat.le_refl _⟩,⟨by (with_reducible repeat (first | refine blk_drewN ?_ _ | refine blk_drew ?_ | refine blk_alloc ?_ _));exact BK434.out⟩,⟨by (with_reducible repeat (first | refine blk_drewN ?_ _ | refine blk_drew ?_ | refine blk_alloc ?_ _));exact BK435.out⟩,⟨by repeat (first | (with_reducible first | exact HB.out | apply below_alloc | apply pw_below_drewN | apply below_drew1 | refine below_set ?_ GE434.out | refine below_set ?_ GE435.out) | exact HB.out)⟩⟩
  ·rw [if_neg c6] at H
   have c6b0 : ((l0_0.length : Int) == (l1_0.length : Int)) = false:=beq_eq_false_iff_ne.mpr c6
   have c6b1 : ((l0_0.length : Int) != (l1_0.length : Int)) = true:=bne_iff_ne.mpr c6
   have c6b2 : (l0_0.length == l1_0.length) = false:=by first | simpa using c6 | (simp at c6 ⊢;omega)
   (first | rw [c6b0] | (simp only [i64_w,i32_w];rw [c6b0]) | skip)
   have H':=aMx13 H
   clear H
   have hnb10:=NB434_435.out
   have hnc10:=NB435_434.out
   have hcz11_0 : w5.cell? ⟨gb434,0,none⟩ = some (.slice A0_0 l0_0.length c0_0):=(blk_cell BK434.out 0).trans rfl
   have hcz11_1 : w5.cell? ⟨gb434,1,none⟩ = some (.slice A0_1 l0_1.length c0_1):=(blk_cell BK434.out 1).trans rfl
   have hfz11_0:=blk_frozen BK434.out 0
   have hfz11_1:=blk_frozen BK434.out 1
   have hcz12_0 : w5.cell? ⟨gb435,0,none⟩ = some (.slice A1_0 l1_0.length c1_0):=(blk_cell BK435.out 0).trans rfl
   have hcz12_1 : w5.cell? ⟨gb435,1,none⟩ = some (.slice A1_1 l1_1.length c1_1):=(blk_cell BK435.out 1).trans rfl
   have hfz12_0:=blk_frozen BK435.out 0
   have hfz12_1:=blk_frozen BK435.out 1
   go_wp2
   repeat (go_quiet (fail);try go_wp2)
   go_meet
   case rel => exact ⟨_,(true),(by first | rfl | (simp;done) | (simp [*];done) | (simp [wrap64];done)),H',⟨by first | omega | exact Nat.le_refl _⟩,⟨by (with_reducible repeat (first | refine blk_drewN ?_ _ | refine blk_drew ?_ | refine blk_alloc ?_ _));exact BK434.out⟩,⟨by (with_reducible repeat (first | refine blk_drewN ?_ _ | refine blk_drew ?_ | refine blk_alloc ?_ _));exact BK435.out⟩,⟨by repeat (first | (with_reducible first | exact HB.out | apply below_alloc | apply pw_below_drewN | apply below_drew1 | refine below_set ?_ GE434.out | refine below_set ?_ GE435.out) | exact HB.out)⟩⟩
 case rest =>
  clear HC3
  (try clear c1);(try clear c2);(try clear p2);(try clear c6);(try clear c6b0);(try clear c6b1);(try clear c6b2);(try clear c7);(try clear c10);(try clear hcz11_0);(try clear hcz11_1);(try clear hcz12_0);(try clear hcz12_1);(try clear hcz8_0);(try clear hcz8_1);(try clear hcz9_0);(try clear hcz9_1);(try clear hfz11_0);(try clear hfz11_1);(try clear hfz12_0);(try clear hfz12_1);(try clear hfz8_0);(try clear hfz8_1);(try clear hfz9_0);(try clear hfz9_1)
  obtain ⟨kq,x22_2,rfl,HA,HJ2,BK434,BK435,HB⟩:=hcut
  cases kq with
  | zero => exact absurd HA.out (by simp [lapidaryref10_Same.j0])
  | succ kj2 =>
   have H:=HA.out
   clear HA
   simp only [lapidaryref10_Same.j0] at H
   by_cases c13 : x22_2 = true
   ·subst c13
    have H1 : (some false) = some r:=by rw [if_pos rfl] at H;exact H
    clear H
    have H:=H1
    clear H1
    obtain rfl:=Option.some.inj H
    go_wp2
    repeat (go_quiet (fail);try go_wp2)
    go_ret
    exact ⟨by first | rfl | (simp [errW_none,errW_some]<;>rfl) | (simp [*,errW_none,errW_some]<;>rfl),by repeat (first | (with_reducible first | exact HB.out | apply below_alloc | apply pw_below_drewN | apply below_drew1 | refine below_set ?_ GE434.out | refine below_set ?_ GE435.out) | exact HB.out)⟩
   ·replace c13:=Bool.eq_false_iff.mpr c13
    subst c13
    have H1 : (lapidaryref10_Same.l0 kj2 0 l0_0 l0_1 l1_0 l1_1) = some r:=by rw [if_neg (show ¬ (false = true) by decide)] at H;exact H
    clear H
    have H:=H1
    clear H1
    have H':=aMx13 H
    clear H
    go_wp2
    repeat (go_quiet (fail);try go_wp2)
    go_loopg [5] kj2 (fun kq v5 w' => ∃ (x5_2 : Int),v5 = .int .i64 x5_2 ∧ Aside0 (lapidaryref10_Same.l0 kq x5_2 l0_0 l0_1 l1_0 l1_1 = some r) ∧ Aside0 (kq ≤ kj2) ∧ Aside0 (w'.heap[gb434]? = some (.cells #[(.slice A0_0 l0_0.length c0_0),(.slice A0_1 l0_1.length c0_1)] 25 (0,0))) ∧ Aside0 (w'.heap[gb435]? = some (.cells #[(.slice A1_0 l1_0.length c1_0),(.slice A1_1 l1_1.length c1_1)] 25 (0,0))) ∧ Aside0 (Below w.heap.size w w'))
    case atStart => exact ⟨(0),(by first | rfl | (simp;done) | (simp [*];done) | (simp [wrap64];done)),H',⟨Nat.le_refl _⟩,⟨by (with_reducible repeat (first | refine blk_drewN ?_ _ | refine blk_drew ?_ | refine blk_alloc ?_ _));exact BK434.out⟩,⟨by (with_reducible repeat (first | refine blk_drewN ?_ _ | refine blk_drew ?_ | refine blk_alloc ?_ _));exact BK435.out⟩,⟨by repeat (first | (with_reducible first | exact HB.out | apply below_alloc | apply pw_below_drewN | apply below_drew1 | refine below_set ?_ GE434.out | refine below_set ?_ GE435.out) | exact HB.out)⟩⟩
    case round =>
     clear H'
     (try clear c1);(try clear c2);(try clear p2);(try clear c6);(try clear c6b0);(try clear c6b1);(try clear c6b2);(try clear c7);(try clear c10);(try clear c13);(try clear hcz11_0);(try clear hcz11_1);(try clear hcz12_0);(try clear hcz12_1);(try clear hcz8_0);(try clear hcz8_1);(try clear hcz9_0);(try clear hcz9_1);(try clear hfz11_0);(try clear hfz11_1);(try clear hfz12_0);(try clear hfz12_1);(try clear hfz8_0);(try clear hfz8_1);(try clear hfz9_0);(try clear hfz9_1);(try clear p2)
     obtain ⟨x5_2,rfl,HA,HK2,BK434,BK435,HB⟩:=hrel
     cases gk with
     | zero => exact absurd HA.out (by simp [lapidaryref10_Same.l0])
     | succ k2 =>
      have H:=HA.out
      clear HA
      simp only [lapidaryref10_Same.l0] at H
      by_cases c14 : x5_2 < (l0_0.length : Int)
      ·rw [if_pos c14] at H
       have c14b0 : decide (x5_2 < (l0_0.length : Int)) = true:=decide_eq_true c14
       clear c14
       by_cases c15 : 0 ≤ x5_2
       ·rw [if_pos c15] at H
        have c15b0 : decide (0 ≤ x5_2) = true:=decide_eq_true c15
        clear c15
        by_cases c16 : x5_2 < (l1_0.length : Int)
        ·rw [if_pos c16] at H
         have c16b0 : decide (x5_2 < (l1_0.length : Int)) = true:=decide_eq_true c16
         clear c16
         by_cases c17 : (!(((rd_T46 l0_0 x5_2).f0) == ((rd_T46 l1_0 x5_2).f0)) || (!(((rd_T46 l0_0 x5_2).f1) == ((rd_T46 l1_0 x5_2).f1)) || (!(((rd_T46 l0_0 x5_2).f2) == ((rd_T46 l1_0 x5_2).f2))))) = true
         ·rw [if_pos c17] at H
          have c17b0 : (!(((rd_T46 l0_0 x5_2).f0) == ((rd_T46 l1_0 x5_2).f0)) || (!(((rd_T46 l0_0 x5_2).f1) == ((rd_T46 l1_0 x5_2).f1)) || (!(((rd_T46 l0_0 x5_2).f2) == ((rd_T46 l1_0 x5_2).f2))))) = true:=c17
          clear c17
          obtain rfl:=Option.some.inj H
          have hnb18:=NB434_435.out
          have hnc18:=NB435_434.out
          have hcz19_0 : wr.cell? ⟨gb434,0,none⟩ = some (.slice A0_0 l0_0.length c0_0):=(blk_cell BK434.out 0).trans rfl
          have hcz19_1 : wr.cell? ⟨gb434,1,none⟩ = some (.slice A0_1 l0_1.length c0_1):=(blk_cell BK434.out 1).trans rfl
          have hfz19_0:=blk_frozen BK434.out 0
          have hfz19_1:=blk_frozen BK434.out 1
          have p436 : 0 ≤ (x5_2 : Int):=of_decide_eq_true (by first | (with_reducible assumption) | assumption)
          have q436 : x5_2 < (l0_0.length : Int):=of_decide_eq_true (by first | (with_reducible assumption) | assumption)
          obtain ⟨ad436,e436,hx436_0,hx436_1,hx436_2⟩:=at_T46 HR0_0.out x5_2 p436 q436
          cases e436
          replace hx436_0:=(HB.out.cell (World.block_lt_of_cell? w _ hx436_0)).trans hx436_0
          replace hx436_1:=(HB.out.cell (World.block_lt_of_cell? w _ hx436_1)).trans hx436_1
          replace hx436_2:=(HB.out.cell (World.block_lt_of_cell? w _ hx436_2)).trans hx436_2
          replace p436:=eq_true p436
          replace q436:=eq_true q436
          have hcz20_0 : wr.cell? ⟨gb435,0,none⟩ = some (.slice A1_0 l1_0.length c1_0):=(blk_cell BK435.out 0).trans rfl
          have hcz20_1 : wr.cell? ⟨gb435,1,none⟩ = some (.slice A1_1 l1_1.length c1_1):=(blk_cell BK435.out 1).trans rfl
          have hfz20_0:=blk_frozen BK435.out 0
          have hfz20_1:=blk_frozen BK435.out 1
          have p437 : 0 ≤ (x5_2 : Int):=of_decide_eq_true (by first | (with_reducible assumption) | assumption)
          have q437 : x5_2 < (l1_0.length : Int):=of_decide_eq_true (by first | (with_reducible assumption) | assumption)
          obtain ⟨ad437,e437,hx437_0,hx437_1,hx437_2⟩:=at_T46 HR1_0.out x5_2 p437 q437
          cases e437
          replace hx437_0:=(HB.out.cell (World.block_lt_of_cell? w _ hx437_0)).trans hx437_0
          replace hx437_1:=(HB.out.cell (World.block_lt_of_cell? w _ hx437_1)).trans hx437_1
          replace hx437_2:=(HB.out.cell (World.block_lt_of_cell? w _ hx437_2)).trans hx437_2
          replace p437:=eq_true p437
          replace q437:=eq_true q437
          go_wp2
          repeat (go_quiet (fail);try go_wp2)
          go_ret
          exact ⟨by first | rfl | (simp [errW_none,errW_some]<;>rfl) | (simp [*,errW_none,errW_some]<;>rfl),by repeat (first | (with_reducible first | exact HB.out | apply below_alloc | apply pw_below_drewN | apply below_drew1 | refine below_set ?_ GE434.out | refine below_set ?_ GE435.out) | exact HB.out)⟩
         ·rw [if_neg c17] at H
          have c17b0 : (!(((rd_T46 l0_0 x5_2).f0) == ((rd_T46 l1_0 x5_2).f0)) || (!(((rd_T46 l0_0 x5_2).f1) == ((rd_T46 l1_0 x5_2).f1)) || (!(((rd_T46 l0_0 x5_2).f2) == ((rd_T46 l1_0 x5_2).f2))))) = false:=by simpa using c17
          clear c17
          have H':=aMx13 H
          clear H
          have hnb21:=NB434_435.out
          have hnc21:=NB435_434.out
          have hcz22_0 : wr.cell? ⟨gb434,0,none⟩ = some (.slice A0_0 l0_0.length c0_0):=(blk_cell BK434.out 0).trans rfl
          have hcz22_1 : wr.cell? ⟨gb434,1,none⟩ = some (.slice A0_1 l0_1.length c0_1):=(blk_cell BK434.out 1).trans rfl
          have hfz22_0:=blk_frozen BK434.out 0
          have hfz22_1:=blk_frozen BK434.out 1
          have p436 : 0 ≤ (x5_2 : Int):=of_decide_eq_true (by first | (with_reducible assumption) | assumption)
          have q436 : x5_2 < (l0_0.length : Int):=of_decide_eq_true (by first | (with_reducible assumption) | assumption)
          obtain ⟨ad436,e436,hx436_0,hx436_1,hx436_2⟩:=at_T46 HR0_0.out x5_2 p436 q436
          cases e436
          replace hx436_0:=(HB.out.cell (World.block_lt_of_cell? w _ hx436_0)).trans hx436_0
          replace hx436_1:=(HB.out.cell (World.block_lt_of_cell? w _ hx436_1)).trans hx436_1
          replace hx436_2:=(HB.out.cell (World.block_lt_of_cell? w _ hx436_2)).trans hx436_2
          replace p436:=eq_true p436
          replace q436:=eq_true q436
          have hcz23_0 : wr.cell? ⟨gb435,0,none⟩ = some (.slice A1_0 l1_0.length c1_0):=(blk_cell BK435.out 0).trans rfl
          have hcz23_1 : wr.cell? ⟨gb435,1,none⟩ = some (.slice A1_1 l1_1.length c1_1):=(blk_cell BK435.out 1).trans rfl
          have hfz23_0:=blk_frozen BK435.out 0
          have hfz23_1:=blk_frozen BK435.out 1
          have p437 : 0 ≤ (x5_2 : Int):=of_decide_eq_true (by first | (with_reducible assumption) | assumption)
          have q437 : x5_2 < (l1_0.length : Int):=of_decide_eq_true (by first | (with_reducible assumption) | assumption)
          obtain ⟨ad437,e437,hx437_0,hx437_1,hx437_2⟩:=at_T46 HR1_0.out x5_2 p437 q437
          cases e437
          replace hx437_0:=(HB.out.cell (World.block_lt_of_cell? w _ hx437_0)).trans hx437_0
          replace hx437_1:=(HB.out.cell (World.block_lt_of_cell? w _ hx437_1)).trans hx437_1
          replace hx437_2:=(HB.out.cell (World.block_lt_of_cell? w _ hx437_2)).trans hx437_2
          replace p437:=eq_true p437
          replace q437:=eq_true q437
          go_wp2
          repeat (go_quiet (fail);try go_wp2)
          go_roundg k2
          case measure => have:=HJ2.out;have:=HK2.out;omega
          case rel => exact ⟨(wrap64 (x5_2+1)),(by first | rfl | (simp;done) | (simp [*];done) | (simp [wrap64];done)),H',⟨by have:=HJ2.out;have:=HK2.out;omega⟩,⟨by (with_reducible repeat (first | refine blk_drewN ?_ _ | refine blk_drew ?_ | refine blk_alloc ?_ _));exact BK434.out⟩,⟨by (with_reducible repeat (first | refine blk_drewN ?_ _ | refine blk_drew ?_ | refine blk_alloc ?_ _));exact BK435.out⟩,⟨by repeat (first | (with_reducible first | exact HB.out | apply below_alloc | apply pw_below_drewN | apply below_drew1 | refine below_set ?_ GE434.out | refine below_set ?_ GE435.out) | exact HB.out)⟩⟩
        ·rw [if_neg c16] at H
         exact absurd H (by simp)
       ·rw [if_neg c15] at H
        exact absurd H (by simp)
      ·rw [if_neg c14] at H
       have c14b0 : decide (x5_2 < (l0_0.length : Int)) = false:=decide_eq_false c14
       clear c14
       have H':=aMx13 H
       clear H
       have hnb24:=NB434_435.out
       have hnc24:=NB435_434.out
       have hcz25_0 : wr.cell? ⟨gb434,0,none⟩ = some (.slice A0_0 l0_0.length c0_0):=(blk_cell BK434.out 0).trans rfl
       have hcz25_1 : wr.cell? ⟨gb434,1,none⟩ = some (.slice A0_1 l0_1.length c0_1):=(blk_cell BK434.out 1).trans rfl
       have hfz25_0:=blk_frozen BK434.out 0
       have hfz25_1:=blk_frozen BK434.out 1
       go_wp2
       repeat (go_quiet (fail);try go_wp2)
       go_loopg [6] k2 (fun kq v6 w' => ∃ (x6_3 : Int),v6 = .int .i64 x6_3 ∧ Aside0 (lapidaryref10_Same.l1 kq x6_3 l0_0 l0_1 l1_0 l1_1 = some r) ∧ Aside0 (kq ≤ k2) ∧ Aside0 (w'.heap[gb434]? = some (.cells #[(.slice A0_0 l0_0.length c0_0),(.slice A0_1 l0_1.length c0_1)] 25 (0,0))) ∧ Aside0 (w'.heap[gb435]? = some (.cells #[(.slice A1_0 l1_0.length c1_0),(.slice A1_1 l1_1.length c1_1)] 25 (0,0))) ∧ Aside0 (Below w.heap.size w w'))
       case atStart => exact ⟨(0),(by first | rfl | (simp;done) | (simp [*];done) | (simp [wrap64];done)),H',⟨Nat.le_refl _⟩,⟨by (with_reducible repeat (first | refine blk_drewN ?_ _ | refine blk_drew ?_ | refine blk_alloc ?_ _));exact BK434.out⟩,⟨by (with_reducible repeat (first | refine blk_drewN ?_ _ | refine blk_drew ?_ | refine blk_alloc ?_ _));exact BK435.out⟩,⟨by repeat (first | (with_reducible first | exact HB.out | apply below_alloc | apply pw_below_drewN | apply below_drew1 | refine below_set ?_ GE434.out | refine below_set ?_ GE435.out) | exact HB.out)⟩⟩
       case round =>
        clear H'
        (try clear c1);(try clear c2);(try clear p2);(try clear p4);(try clear q4);(try clear hx4);(try clear c6);(try clear c6b0);(try clear c6b1);(try clear c6b2);(try clear p6);(try clear c7);(try clear c10);(try clear c13);(try clear c14);(try clear c14b0);(try clear c15);(try clear c15b0);(try clear c16);(try clear c16b0);(try clear c17);(try clear c17b0);(try clear c18);(try clear c21);(try clear c24);(try clear hcz11_0);(try clear hcz11_1);(try clear hcz12_0);(try clear hcz12_1);(try clear hcz19_0);(try clear hcz19_1);(try clear hcz20_0);(try clear hcz20_1);(try clear hcz22_0);(try clear hcz22_1);(try clear hcz23_0);(try clear hcz23_1);(try clear hcz25_0);(try clear hcz25_1);(try clear hcz8_0);(try clear hcz8_1);(try clear hcz9_0);(try clear hcz9_1);(try clear hfz11_0);(try clear hfz11_1);(try clear hfz12_0);(try clear hfz12_1);(try clear hfz19_0);(try clear hfz19_1);(try clear hfz20_0);(try clear hfz20_1);(try clear hfz22_0);(try clear hfz22_1);(try clear hfz23_0);(try clear hfz23_1);(try clear hfz25_0);(try clear hfz25_1);(try clear hfz8_0);(try clear hfz8_1);(try clear hfz9_0);(try clear hfz9_1);(try clear hx436_0);(try clear hx436_1);(try clear hx436_2);(try clear hx437_0);(try clear hx437_1);(try clear hx437_2);(try clear p2);(try clear p436);(try clear p437);(try clear q436);(try clear q437)
        obtain ⟨x6_3,rfl,HA,HK3,BK434,BK435,HB⟩:=hrel
        cases gk with
        | zero => exact absurd HA.out (by simp [lapidaryref10_Same.l1])
        | succ k3 =>
         have H:=HA.out
         clear HA
         simp only [lapidaryref10_Same.l1] at H
         by_cases c26 : x6_3 < (l0_1.length : Int)
         ·rw [if_pos c26] at H
          have c26b0 : decide (x6_3 < (l0_1.length : Int)) = true:=decide_eq_true c26
          clear c26
          by_cases c27 : 0 ≤ x6_3
          ·rw [if_pos c27] at H
           have c27b0 : decide (0 ≤ x6_3) = true:=decide_eq_true c27
           clear c27
           by_cases c28 : x6_3 < (l1_1.length : Int)
           ·rw [if_pos c28] at H
            have c28b0 : decide (x6_3 < (l1_1.length : Int)) = true:=decide_eq_true c28
            clear c28
            by_cases c29 : (!(((rd_T47 l0_1 x6_3).f0) == ((rd_T47 l1_1 x6_3).f0)) || (!(((rd_T47 l0_1 x6_3).f1) == ((rd_T47 l1_1 x6_3).f1)) || (!(((rd_T47 l0_1 x6_3).f2) == ((rd_T47 l1_1 x6_3).f2))))) = true
            ·rw [if_pos c29] at H
             have c29b0 : (!(((rd_T47 l0_1 x6_3).f0) == ((rd_T47 l1_1 x6_3).f0)) || (!(((rd_T47 l0_1 x6_3).f1) == ((rd_T47 l1_1 x6_3).f1)) || (!(((rd_T47 l0_1 x6_3).f2) == ((rd_T47 l1_1 x6_3).f2))))) = true:=c29
             clear c29
             obtain rfl:=Option.some.inj H
             have hnb30:=NB434_435.out
             have hnc30:=NB435_434.out
             have hcz31_0 : wr.cell? ⟨gb434,0,none⟩ = some (.slice A0_0 l0_0.length c0_0):=(blk_cell BK434.out 0).trans rfl
             have hcz31_1 : wr.cell? ⟨gb434,1,none⟩ = some (.slice A0_1 l0_1.length c0_1):=(blk_cell BK434.out 1).trans rfl
             have hfz31_0:=blk_frozen BK434.out 0
             have hfz31_1:=blk_frozen BK434.out 1
             have p438 : 0 ≤ (x6_3 : Int):=of_decide_eq_true (by first | (with_reducible assumption) | assumption)
             have q438 : x6_3 < (l0_1.length : Int):=of_decide_eq_true (by first | (with_reducible assumption) | assumption)
             obtain ⟨ad438,e438,hx438_0,hx438_1,hx438_2⟩:=at_T47 HR0_1.out x6_3 p438 q438
             cases e438
             replace hx438_0:=(HB.out.cell (World.block_lt_of_cell? w _ hx438_0)).trans hx438_0
             replace hx438_1:=(HB.out.cell (World.block_lt_of_cell? w _ hx438_1)).trans hx438_1
             replace hx438_2:=(HB.out.cell (World.block_lt_of_cell? w _ hx438_2)).trans hx438_2
             replace p438:=eq_true p438
             replace q438:=eq_true q438
             have hcz32_0 : wr.cell? ⟨gb435,0,none⟩ = some (.slice A1_0 l1_0.length c1_0):=(blk_cell BK435.out 0).trans rfl
             have hcz32_1 : wr.cell? ⟨gb435,1,none⟩ = some (.slice A1_1 l1_1.length c1_1):=(blk_cell BK435.out 1).trans rfl
             have hfz32_0:=blk_frozen BK435.out 0
             have hfz32_1:=blk_frozen BK435.out 1
             have p439 : 0 ≤ (x6_3 : Int):=of_decide_eq_true (by first | (with_reducible assumption) | assumption)
             have q439 : x6_3 < (l1_1.length : Int):=of_decide_eq_true (by first | (with_reducible assumption) | assumption)
             obtain ⟨ad439,e439,hx439_0,hx439_1,hx439_2⟩:=at_T47 HR1_1.out x6_3 p439 q439
             cases e439
             replace hx439_0:=(HB.out.cell (World.block_lt_of_cell? w _ hx439_0)).trans hx439_0
             replace hx439_1:=(HB.out.cell (World.block_lt_of_cell? w _ hx439_1)).trans hx439_1
             replace hx439_2:=(HB.out.cell (World.block_lt_of_cell? w _ hx439_2)).trans hx439_2
             replace p439:=eq_true p439
             replace q439:=eq_true q439
             go_wp2
             repeat (go_quiet (fail);try go_wp2)
             go_ret
             exact ⟨by first | rfl | (simp [errW_none,errW_some]<;>rfl) | (simp [*,errW_none,errW_some]<;>rfl),by repeat (first | (with_reducible first | exact HB.out | apply below_alloc | apply pw_below_drewN | apply below_drew1 | refine below_set ?_ GE434.out | refine below_set ?_ GE435.out) | exact HB.out)⟩
            ·rw [if_neg c29] at H
             have c29b0 : (!(((rd_T47 l0_1 x6_3).f0) == ((rd_T47 l1_1 x6_3).f0)) || (!(((rd_T47 l0_1 x6_3).f1) == ((rd_T47 l1_1 x6_3).f1)) || (!(((rd_T47 l0_1 x6_3).f2) == ((rd_T47 l1_1 x6_3).f2))))) = false:=by simpa using c29
             clear c29
             have H':=aMx13 H
             clear H
             have hnb33:=NB434_435.out
             have hnc33:=NB435_434.out
             have hcz34_0 : wr.cell? ⟨gb434,0,none⟩ = some (.slice A0_0 l0_0.length c0_0):=(blk_cell BK434.out 0).trans rfl
             have hcz34_1 : wr.cell? ⟨gb434,1,none⟩ = some (.slice A0_1 l0_1.length c0_1):=(blk_cell BK434.out 1).trans rfl
             have hfz34_0:=blk_frozen BK434.out 0
             have hfz34_1:=blk_frozen BK434.out 1
             have p438 : 0 ≤ (x6_3 : Int):=of_decide_eq_true (by first | (with_reducible assumption) | assumption)
             have q438 : x6_3 < (l0_1.length : Int):=of_decide_eq_true (by first | (with_reducible assumption) | assumption)
             obtain ⟨ad438,e438,hx438_0,hx438_1,hx438_2⟩:=at_T47 HR0_1.out x6_3 p438 q438
             cases e438
             replace hx438_0:=(HB.out.cell (World.block_lt_of_cell? w _ hx438_0)).trans hx438_0
             replace hx438_1:=(HB.out.cell (World.block_lt_of_cell? w _ hx438_1)).trans hx438_1
             replace hx438_2:=(HB.out.cell (World.block_lt_of_cell? w _ hx438_2)).trans hx438_2
             replace p438:=eq_true p438
             replace q438:=eq_true q438
             have hcz35_0 : wr.cell? ⟨gb435,0,none⟩ = some (.slice A1_0 l1_0.length c1_0):=(blk_cell BK435.out 0).trans rfl
             have hcz35_1 : wr.cell? ⟨gb435,1,none⟩ = some (.slice A1_1 l1_1.length c1_1):=(blk_cell BK435.out 1).trans rfl
             have hfz35_0:=blk_frozen BK435.out 0
             have hfz35_1:=blk_frozen BK435.out 1
             have p439 : 0 ≤ (x6_3 : Int):=of_decide_eq_true (by first | (with_reducible assumption) | assumption)
             have q439 : x6_3 < (l1_1.length : Int):=of_decide_eq_true (by first | (with_reducible assumption) | assumption)
             obtain ⟨ad439,e439,hx439_0,hx439_1,hx439_2⟩:=at_T47 HR1_1.out x6_3 p439 q439
             cases e439
             replace hx439_0:=(HB.out.cell (World.block_lt_of_cell? w _ hx439_0)).trans hx439_0
             replace hx439_1:=(HB.out.cell (World.block_lt_of_cell? w _ hx439_1)).trans hx439_1
             replace hx439_2:=(HB.out.cell (World.block_lt_of_cell? w _ hx439_2)).trans hx439_2
             replace p439:=eq_true p439
             replace q439:=eq_true q439
             go_wp2
             repeat (go_quiet (fail);try go_wp2)
             go_roundg k3
             case measure => have:=HJ2.out;have:=HK2.out;have:=HK3.out;omega
             case rel => exact ⟨(wrap64 (x6_3+1)),(by first | rfl | (simp;done) | (simp [*];done) | (simp [wrap64];done)),H',⟨by have:=HJ2.out;have:=HK2.out;have:=HK3.out;omega⟩,⟨by (with_reducible repeat (first | refine blk_drewN ?_ _ | refine blk_drew ?_ | refine blk_alloc ?_ _));exact BK434.out⟩,⟨by (with_reducible repeat (first | refine blk_drewN ?_ _ | refine blk_drew ?_ | refine blk_alloc ?_ _));exact BK435.out⟩,⟨by repeat (first | (with_reducible first | exact HB.out | apply below_alloc | apply pw_below_drewN | apply below_drew1 | refine below_set ?_ GE434.out | refine below_set ?_ GE435.out) | exact HB.out)⟩⟩
           ·rw [if_neg c28] at H
            exact absurd H (by simp)
          ·rw [if_neg c27] at H
           exact absurd H (by simp)
         ·rw [if_neg c26] at H
          have c26b0 : decide (x6_3 < (l0_1.length : Int)) = false:=decide_eq_false c26
          clear c26
          obtain rfl:=Option.some.inj H
          have hnb36:=NB434_435.out
          have hnc36:=NB435_434.out
          have hcz37_0 : wr.cell? ⟨gb434,0,none⟩ = some (.slice A0_0 l0_0.length c0_0):=(blk_cell BK434.out 0).trans rfl
          have hcz37_1 : wr.cell? ⟨gb434,1,none⟩ = some (.slice A0_1 l0_1.length c0_1):=(blk_cell BK434.out 1).trans rfl
          have hfz37_0:=blk_frozen BK434.out 0
          have hfz37_1:=blk_frozen BK434.out 1
          go_wp2
          repeat (go_quiet (fail);try go_wp2)
          go_ret
          exact ⟨by first | rfl | (simp [errW_none,errW_some]<;>rfl) | (simp [*,errW_none,errW_some]<;>rfl),by repeat (first | (with_reducible first | exact HB.out | apply below_alloc | apply pw_below_drewN | apply below_drew1 | refine below_set ?_ GE434.out | refine below_set ?_ GE435.out) | exact HB.out)⟩
end Go.Proofs.YtomknjmgcbbjlaaDoor.PWlk
