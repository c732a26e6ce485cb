import Derived.Test.YtckemiefcdpofaaDoorPMsrx0
import Derived.Test.YtckemiefcdpofaaDoorPMsrx19
import Derived.Test.YtckemiefcdpofaaDoorPMsrx3
import Derived.Test.YtckemiefcdpofaaDoorPMsrx5
import Derived.Test.YtckemiefcdpofaaDoorPMsrx9
import Derived.Test.YtckemiefcdpofaaDoorKnownStub
import Derived.Test.YtckemiefcdpofaaDoorEdgesStub
import Derived.Test.YtckemiefcdpofaaDoorBorderStub
namespace Go.Proofs.YtckemiefcdpofaaDoor.PMsr
open Go Go.RowKit Go.Proofs.YtckemiefcdpofaaDoorW.PrintWords Go.Proofs.YtckemiefcdpofaaDoorW.PrintLast Go.Proofs.YtckemiefcdpofaaDoorW.PrintMore
attribute [local go_sem] max2_int min2_int max_two min_two max_three min_three max_four min_four
set_option linter.unusedVariables false
set_option maxRecDepth 100000
set_option linter.unusedSimpArgs false
attribute [local go_sem high] eqA52
attribute [local go_sem] idx36_0_0 idx36_1_0 idx36_2_0 idx52_0_0 idx52_1_0
theorem tm1_x20 : (wrap64 1).tmod 3 = 1 := by first | rfl | decide | (unfold wrap64; rfl)
theorem tm2_x20 : (wrap64 2).tmod 3 = 2 := by first | rfl | decide | (unfold wrap64; rfl)
theorem tm3_x20 : (wrap64 3).tmod 3 = 0 := by first | rfl | decide | (unfold wrap64; rfl)
attribute [local go_sem] tm1_x20 tm2_x20 tm3_x20
theorem sAx20 {α : Type _} {l : List α} {i : Nat} {a : α} : l.toArray.setIfInBounds i a = (l.set i a).toArray := List.setIfInBounds_toArray ..
theorem sBx20 {α : Type _} {x y : α} {l : List α} : (x :: l).set 0 y = y :: l := rfl
theorem sCx20 {α : Type _} {x y : α} {l : List α} {i : Nat} : (x :: l).set (i + 1) y = x :: l.set i y := rfl
theorem aMx20 {p : Prop} (h : p) : Aside0 p := ⟨h⟩
def lapidaryref10_SameEdges.l0 : Nat → List (S52) → List (S52) → Int → Option (Bool)
  | 0, _, _, _ => none
  | k + 1, x0, x1, x5 => if x5 < (x0.length : Int) then (if 0 ≤ x5 then (if x5 < (x1.length : Int) then (if (!(((rd_T52 x0 x5).f0) == ((rd_T52 x1 x5).f0)) || (!(((rd_T52 x0 x5).f1) == ((rd_T52 x1 x5).f1)))) = true then (some false) else (lapidaryref10_SameEdges.l0 k x0 x1 (wrap64 (x5 + 1)))) else (none)) else (none)) else (some true)
def lapidaryref10_SameEdges.f (k : Nat) (l0 : List (S52)) (l1 : List (S52)) : Option (Bool) := if (l0.length : Int) = (l1.length : Int) then (lapidaryref10_SameEdges.l0 k l0 l1 0) else (some false)
set_option maxHeartbeats 8000000 in
set_option maxRecDepth 100000 in
theorem lapidaryref10_SameEdges.calls (k : Nat) (A0 : Option Addr) (c0 : Nat) (l0 : List (S52)) (A1 : Option Addr) (c1 : Nat) (l1 : List (S52)) (r : Bool) (w : World) (hr0 : Kd.C k52 w A0 l0.length l0) (hc0 : l0.length ≤ c0) (hr1 : Kd.C k52 w A1 l1.length l1) (hc1 : l1.length ≤ c1) (h : lapidaryref10_SameEdges.f k l0 l1 = some r) :
  Calls Tryd.prog 18 #[.slice A0 l0.length c0,.slice A1 l1.length c1] w fun e w' => e = .returned (.bool r) ∧ Drawn0 w w':=by
 have hu52:=Tryd.underlying52
 have HR0:=aMx20 hr0
 have HC0:=aMx20 hc0
 clear hr0 hc0
 have HR1:=aMx20 hr1
 have HC1:=aMx20 hc1
 clear hr1 hc1
 have H : (if (l0.length : Int) = (l1.length : Int) then (lapidaryref10_SameEdges.l0 k l0 l1 0) else (some false)) = some r:=h
 clear h
 by_cases c3 : (l0.length : Int) = (l1.length : Int)
 ·rw [if_pos c3] at H
  have c3b0 : ((l0.length : Int) == (l1.length : Int)) = true:=beq_iff_eq.mpr c3
  have c3b1 : ((l0.length : Int) != (l1.length : Int)) = false:=bne_eq_false_iff_eq.mpr c3
  have c3b2 : (l0.length == l1.length) = true:=by first | simpa using c3 | (simp at c3 ⊢;omega)
  clear c3
  have H':=aMx20 H
  clear H
  go_enter Tryd.func18,Tryd.ntmps18
  go_wp2
  repeat (go_quiet (fail);try go_wp2)
  go_loopg [5] k (fun kq v5 w' => ∃ (x5_1 : Int),v5 = .int .i64 x5_1 ∧ Aside0 (lapidaryref10_SameEdges.l0 kq l0 l1 x5_1 = some r) ∧ Aside0 (kq ≤ k) ∧ Drawn0 w w')
  case atStart => exact ⟨(0),(by first | rfl | (simp;done) | (simp [*];done) | (simp [wrap64];done)),H',⟨Nat.le_refl _⟩,by repeat (first | exact Drawn0.refl _ | apply Drawn0.step)⟩
  case round =>
   clear H'
   (try clear c1);(try clear p2);(try clear c3);(try clear c3b0);(try clear c3b1);(try clear c3b2)
   obtain ⟨x5_1,rfl,HA,HK1,⟨m1,rfl⟩⟩:=hrel
   cases gk with
   | zero => exact absurd HA.out (by simp [lapidaryref10_SameEdges.l0])
   | succ k1 =>
    have H:=HA.out
    clear HA
    simp only [lapidaryref10_SameEdges.l0] at H
    by_cases c4 : x5_1 < (l0.length : Int)
    ·rw [if_pos c4] at H
     have c4b0 : decide (x5_1 < (l0.length : Int)) = true:=decide_eq_true c4
     clear c4
     by_cases c5 : 0 ≤ x5_1
     ·rw [if_pos c5] at H
      have c5b0 : decide (0 ≤ x5_1) = true:=decide_eq_true c5
      clear c5
      by_cases c6 : x5_1 < (l1.length : Int)
      ·rw [if_pos c6] at H
       have c6b0 : decide (x5_1 < (l1.length : Int)) = true:=decide_eq_true c6
       clear c6
       by_cases c7 : (!(((rd_T52 l0 x5_1).f0) == ((rd_T52 l1 x5_1).f0)) || (!(((rd_T52 l0 x5_1).f1) == ((rd_T52 l1 x5_1).f1)))) = true
       ·rw [if_pos c7] at H
        have c7b0 : (!(((rd_T52 l0 x5_1).f0) == ((rd_T52 l1 x5_1).f0)) || (!(((rd_T52 l0 x5_1).f1) == ((rd_T52 l1 x5_1).f1)))) = true:=c7
        clear c7
        obtain rfl:=Option.some.inj H
        have p194 : 0 ≤ (x5_1 : Int):=of_decide_eq_true (by first | (with_reducible assumption) | assumption)
        have q194 : x5_1 < (l0.length : Int):=of_decide_eq_true (by first | (with_reducible assumption) | assumption)
        obtain ⟨ad194,e194,hx194_0,hx194_1⟩:=at_T52 HR0.out x5_1 p194 q194
        cases e194
        replace p194:=eq_true p194
        replace q194:=eq_true q194
        have p195 : 0 ≤ (x5_1 : Int):=of_decide_eq_true (by first | (with_reducible assumption) | assumption)
        have q195 : x5_1 < (l1.length : Int):=of_decide_eq_true (by first | (with_reducible assumption) | assumption)
        obtain ⟨ad195,e195,hx195_0,hx195_1⟩:=at_T52 HR1.out x5_1 p195 q195
        cases e195
        replace p195:=eq_true p195
        replace q195:=eq_true q195
        go_wp2
        repeat (go_quiet (fail);try go_wp2)
        go_ret
        exact ⟨by first | rfl | (simp;done) | (simp [*];done) | (simp [wrap64];done),by repeat (first | exact Drawn0.refl _ | apply Drawn0.step)⟩
       ·rw [if_neg c7] at H
        have c7b0 : (!(((rd_T52 l0 x5_1).f0) == ((rd_T52 l1 x5_1).f0)) || (!(((rd_T52 l0 x5_1).f1) == ((rd_T52 l1 x5_1).f1)))) = false:=by simpa using c7
        clear c7
        have H':=aMx20 H
        clear H
        have p194 : 0 ≤ (x5_1 : Int):=of_decide_eq_true (by first | (with_reducible assumption) | assumption)
        have q194 : x5_1 < (l0.length : Int):=of_decide_eq_true (by first | (with_reducible assumption) | assumption)
        obtain ⟨ad194,e194,hx194_0,hx194_1⟩:=at_T52 HR0.out x5_1 p194 q194
        cases e194
        replace p194:=eq_true p194
        replace q194:=eq_true q194
        have p195 : 0 ≤ (x5_1 : Int):=of_decide_eq_true (by first | (with_reducible assumption) | assumption)
        have q195 : x5_1 < (l1.length : Int):=of_decide_eq_true (by first | (with_reducible assumption) | assumption)
        obtain ⟨ad195,e195,hx195_0,hx195_1⟩:=at_T52 HR1.out x5_1 p195 q195
        cases e195
        replace p195:=eq_true p195
        replace q195:=eq_true q195
        go_wp2
        repeat (go_quiet (fail);try go_wp2)
        go_roundg k1
        case measure => have:=HK1.out;omega
        case rel => exact ⟨(wrap64 (x5_1+1)),(by first | rfl | (simp;done) | (simp [*];done) | (simp [wrap64];done)),H',⟨by have:=HK1.out;omega⟩,by repeat (first | exact Drawn0.refl _ | apply Drawn0.step)⟩
      ·rw [if_neg c6] at H
       exact absurd H (by simp)
     ·rw [if_neg c5] at H
      exact absurd H (by simp)
    ·rw [if_neg c4] at H
     have c4b0 : decide (x5_1 < (l0.length : Int)) = false:=decide_eq_false c4
     clear c4
     obtain rfl:=Option.some.inj H
     go_wp2
     repeat (go_quiet (fail);try go_wp2)
     go_ret
     exact ⟨by first | rfl | (simp;done) | (simp [*];done) | (simp [wrap64];done),by repeat (first | exact Drawn0.refl _ | apply Drawn0.step)⟩
 ·rw [if_neg c3] at H
  have c3b0 : ((l0.length : Int) == (l1.length : Int)) = false:=beq_eq_false_iff_ne.mpr c3
  have c3b1 : ((l0.length : Int) != (l1.length : Int)) = true:=bne_iff_ne.mpr c3
  have c3b2 : (l0.length == l1.length) = false:=by first | simpa using c3 | (simp at c3 ⊢;omega)
  obtain rfl:=Option.some.inj H
  go_enter Tryd.func18,Tryd.ntmps18
  go_wp2
  repeat (go_quiet (fail);try go_wp2)
  go_ret
  exact ⟨by first | rfl | (simp;done) | (simp [*];done) | (simp [wrap64];done),by repeat (first | exact Drawn0.refl _ | apply Drawn0.step)⟩
mutual
def lapidaryref10_Edges.l0 : Nat → Bool → List (S52) → Int → List (S55) → List (S36) → Option ((List (S52)))
  | 0, _, _, _, _, _ => none
  | k + 1, x1, x5, x6, x197000, x197001 => if x6 < (x197000.length : Int) then (lapidaryref10_Edges.l1 k x1 x5 x6 0 x197000 x197001) else (some x5)
def lapidaryref10_Edges.l1 : Nat → Bool → List (S52) → Int → Int → List (S55) → List (S36) → Option ((List (S52)))
  | 0, _, _, _, _, _, _ => none
  | k + 1, x1, x5, x6, x7, x197000, x197001 => if x7 < (x197000.length : Int) then ((lapidaryref10_Has.f k x197001 x6 x7).bind fun t197 => ((lapidaryref10_Has.f k x197001 x7 x6).bind fun t198 => (if x1 = true then (if t197 ≥ 0 then (if t198 ≥ 0 then (lapidaryref10_Edges.l1 k x1 x5 x6 (wrap64 (x7 + 1)) x197000 x197001) else (if x5.length < 8796093022208 then (lapidaryref10_Edges.l1 k x1 (x5 ++ [(⟨x6, x7⟩ : S52)]) x6 (wrap64 (x7 + 1)) x197000 x197001) else (none))) else (lapidaryref10_Edges.l1 k x1 x5 x6 (wrap64 (x7 + 1)) x197000 x197001)) else (if x6 < x7 then (if t197 ≥ 0 then (if x5.length < 8796093022208 then (lapidaryref10_Edges.l1 k x1 (x5 ++ [(⟨x6, x7⟩ : S52)]) x6 (wrap64 (x7 + 1)) x197000 x197001) else (none)) else (if t198 ≥ 0 then (if x5.length < 8796093022208 then (lapidaryref10_Edges.l1 k x1 (x5 ++ [(⟨x6, x7⟩ : S52)]) x6 (wrap64 (x7 + 1)) x197000 x197001) else (none)) else (lapidaryref10_Edges.l1 k x1 x5 x6 (wrap64 (x7 + 1)) x197000 x197001))) else (lapidaryref10_Edges.l1 k x1 x5 x6 (wrap64 (x7 + 1)) x197000 x197001))))) else (lapidaryref10_Edges.l0 k x1 x5 (wrap64 (x6 + 1)) x197000 x197001)
end
def lapidaryref10_Edges.f (k : Nat) (l0_0 : List (S55)) (l0_1 : List (S36)) (a1 : Bool) : Option ((List (S52))) := lapidaryref10_Edges.l0 k a1 ([] : List (S52)) 0 l0_0 l0_1
set_option maxHeartbeats 8000000 in
set_option maxRecDepth 100000 in
theorem lapidaryref10_Edges.calls (k : Nat) (A0_0 : Option Addr) (c0_0 : Nat) (l0_0 : List (S55)) (A0_1 : Option Addr) (c0_1 : Nat) (l0_1 : List (S36)) (a1 : Bool) (r : List (S52)) (w : World) (hr0_0 : Kd.C k55 w A0_0 l0_0.length l0_0) (hc0_0 : l0_0.length ≤ c0_0) (hr0_1 : Kd.C k36 w A0_1 l0_1.length l0_1) (hc0_1 : l0_1.length ≤ c0_1) (h : lapidaryref10_Edges.f k l0_0 l0_1 a1 = some r) :
  Calls Tryd.prog 19 #[.agg #[.slice A0_0 l0_0.length c0_0,.slice A0_1 l0_1.length c0_1],.bool a1] w fun e w' => ∃ v0_ : Value,e = .returned (v0_) ∧ Kd.R k52 52 w' w.heap.size (fun _ => True) v0_ r ∧ Below w.heap.size w w':=by
 have hu25:=Tryd.underlying25
 have hu52:=Tryd.underlying52
 have HR0_0:=aMx20 hr0_0
 have HC0_0:=aMx20 hc0_0
 clear hr0_0 hc0_0
 have HR0_1:=aMx20 hr0_1
 have HC0_1:=aMx20 hc0_1
 clear hr0_1 hc0_1
 have HB:=aMx20 (Below.refl w.heap.size w)
 have H : (lapidaryref10_Edges.l0 k a1 ([] : List (S52)) 0 l0_0 l0_1) = some r:=h
 clear h
 have H':=aMx20 H
 clear H
 go_enter Tryd.func19,Tryd.ntmps19
 go_wp2_with (first|((with_reducible refine gate_dst (N:=2) rfl ?_);refine box_event ?hg (N:=2) ?hd (cs:=#[.slice A0_0 l0_0.length c0_0,.slice A0_1 l0_1.length c0_1]) (t:=25) ?hr ?_;(case hd => rfl);(case hg => rfl);(case hr => first|(go_simp;done)|(go_simp;rfl));intro gb196 hg w3 hbox hb;have n0_:=aMx20 (below_step (by repeat (with_reducible first|exact HB.out|apply below_alloc|apply pw_below_drewN|apply below_drew1)) hb);have n1_:=aMx20 (hbox);have n2_:=aMx20 ((by rw [hg];exact (below_size (by repeat (with_reducible first|exact HB.out|apply below_alloc|apply pw_below_drewN|apply below_drew1))) : w.heap.size ≤ gb196));have n3_:=aMx20 ((by rw [hg];exact (below_size (by repeat (with_reducible first|exact HB.out|apply below_alloc|apply pw_below_drewN|apply below_drew1))) : w.heap.size ≤ gb196));clear HB;have HB:=n0_;have BK196:=n1_;have GW196:=n2_;have GE196:=n3_;clear n0_ n1_ n2_ n3_;clear hb hbox hg))
 go_loopg [5,6] k (fun kq v5 v6 w' => ∃ (x5_1 : List (S52)) (x6_1 : Int),v6 = .int .i64 x6_1 ∧ Aside0 (lapidaryref10_Edges.l0 kq a1 x5_1 x6_1 l0_0 l0_1 = some r) ∧ Aside0 (kq ≤ k) ∧ Aside0 (Kd.R k52 52 w' w.heap.size (fun _ => True) v5 x5_1) ∧ Aside0 (w'.heap[gb196]? = some (.cells #[(.slice A0_0 l0_0.length c0_0),(.slice A0_1 l0_1.length c0_1)] 25 (0,0))) ∧ Aside0 (Below w.heap.size w w'))
 case atStart => exact ⟨(([] : List (S52))),(0),(by first | rfl | (simp;done) | (simp [*];done) | (simp [wrap64];done)),H',⟨Nat.le_refl _⟩,⟨by first | exact Kd.R_nil _ _ _ _ _ | exact Kd.N_nil _ _ _ _ _ | exact Kd.V_nil _ _ _ _ _ | exact Kd.Q_nil _ _ _ _ _ | exact Kd.S_nil _ _ _ _ _⟩,⟨by (with_reducible repeat (first | refine blk_drewN ?_ _ | refine blk_drew ?_ | refine blk_alloc ?_ _));exact BK196.out⟩,⟨by repeat (first | (with_reducible first | exact HB.out | apply below_alloc | apply pw_below_drewN | apply below_drew1 | refine below_set ?_ GE196.out) | exact HB.out)⟩⟩
 case round =>
  clear H'
  (try clear c1);(try clear p2)
  obtain ⟨x5_1,x6_1,rfl,HA,HK1,HO_5,BK196,HB⟩:=hrel
  cases gk with
  | zero => exact absurd HA.out (by simp [lapidaryref10_Edges.l0])
  | succ k1 =>
   have H:=HA.out
   clear HA
   simp only [lapidaryref10_Edges.l0] at H
   by_cases c4 : x6_1 < (l0_0.length : Int)
   ·rw [if_pos c4] at H
    have c4b0 : decide (x6_1 < (l0_0.length : Int)) = true:=decide_eq_true c4
    clear c4
    have H':=aMx20 H
    clear H
    have hcz5_0 : wr.cell? ⟨gb196,0,none⟩ = some (.slice A0_0 l0_0.length c0_0):=(blk_cell BK196.out 0).trans rfl
    have hcz5_1 : wr.cell? ⟨gb196,1,none⟩ = some (.slice A0_1 l0_1.length c0_1):=(blk_cell BK196.out 1).trans rfl
    have hfz5_0:=blk_frozen BK196.out 0
    have hfz5_1:=blk_frozen BK196.out 1
    go_wp2
    go_loopg [5,7] k1 (fun kq v5 v7 w' => ∃ (x5_2 : List (S52)) (x7_2 : Int),v7 = .int .i64 x7_2 ∧ Aside0 (lapidaryref10_Edges.l1 kq a1 x5_2 x6_1 x7_2 l0_0 l0_1 = some r) ∧ Aside0 (kq ≤ k1) ∧ Aside0 (Kd.R k52 52 w' w.heap.size (fun _ => True) v5 x5_2) ∧ Aside0 (w'.heap[gb196]? = some (.cells #[(.slice A0_0 l0_0.length c0_0),(.slice A0_1 l0_1.length c0_1)] 25 (0,0))) ∧ Aside0 (Below w.heap.size w w'))
    case atStart => exact ⟨(x5_1),(0),(by first | rfl | (simp;done) | (simp [*];done) | (simp [wrap64];done)),H',⟨Nat.le_refl _⟩,⟨by (with_reducible repeat (first | apply Kd.R_alloc | apply Kd.R_drewN | apply Kd.R_drew));exact HO_5.out⟩,⟨by (with_reducible repeat (first | refine blk_drewN ?_ _ | refine blk_drew ?_ | refine blk_alloc ?_ _));exact BK196.out⟩,⟨by repeat (first | (with_reducible first | exact HB.out | apply below_alloc | apply pw_below_drewN | apply below_drew1 | refine below_set ?_ GE196.out) | exact HB.out)⟩⟩
    case round =>
     clear H'
     (try clear c1);(try clear p2);(try clear c4);(try clear c4b0);(try clear hcz5_0);(try clear hcz5_1);(try clear hfz5_0);(try clear hfz5_1);(try clear p2)
     obtain ⟨x5_2,x7_2,rfl,HA,HK2,HO_5,BK196,HB⟩:=hrel
     cases gk with
     | zero => exact absurd HA.out (by simp [lapidaryref10_Edges.l1])
     | succ k2 =>
      have H:=HA.out
      clear HA
      simp only [lapidaryref10_Edges.l1] at H
      by_cases c6 : x7_2 < (l0_0.length : Int)
      ·rw [if_pos c6] at H
       have c6b0 : decide (x7_2 < (l0_0.length : Int)) = true:=decide_eq_true c6
       clear c6
       replace H:=Option.bind_eq_some_iff.mp H
       obtain ⟨t197,A70,H⟩:=H
       replace H : ((lapidaryref10_Has.f k2 l0_1 x7_2 x6_1).bind fun t198 => (if a1 = true then (if t197 ≥ 0 then (if t198 ≥ 0 then (lapidaryref10_Edges.l1 k2 a1 x5_2 x6_1 (wrap64 (x7_2+1)) l0_0 l0_1) else (if x5_2.length < 8796093022208 then (lapidaryref10_Edges.l1 k2 a1 (x5_2++[(⟨x6_1,x7_2⟩ : S52)]) x6_1 (wrap64 (x7_2+1)) l0_0 l0_1) else (none))) else (lapidaryref10_Edges.l1 k2 a1 x5_2 x6_1 (wrap64 (x7_2+1)) l0_0 l0_1)) else (if x6_1 < x7_2 then (if t197 ≥ 0 then (if x5_2.length < 8796093022208 then (lapidaryref10_Edges.l1 k2 a1 (x5_2++[(⟨x6_1,x7_2⟩ : S52)]) x6_1 (wrap64 (x7_2+1)) l0_0 l0_1) else (none)) else (if t198 ≥ 0 then (if x5_2.length < 8796093022208 then (lapidaryref10_Edges.l1 k2 a1 (x5_2++[(⟨x6_1,x7_2⟩ : S52)]) x6_1 (wrap64 (x7_2+1)) l0_0 l0_1) else (none)) else (lapidaryref10_Edges.l1 k2 a1 x5_2 x6_1 (wrap64 (x7_2+1)) l0_0 l0_1))) else (lapidaryref10_Edges.l1 k2 a1 x5_2 x6_1 (wrap64 (x7_2+1)) l0_0 l0_1)))) = some r:=H
       have A7:=aMx20 A70
       clear A70
       replace H:=Option.bind_eq_some_iff.mp H
       obtain ⟨t198,A80,H⟩:=H
       replace H : (if a1 = true then (if t197 ≥ 0 then (if t198 ≥ 0 then (lapidaryref10_Edges.l1 k2 a1 x5_2 x6_1 (wrap64 (x7_2+1)) l0_0 l0_1) else (if x5_2.length < 8796093022208 then (lapidaryref10_Edges.l1 k2 a1 (x5_2++[(⟨x6_1,x7_2⟩ : S52)]) x6_1 (wrap64 (x7_2+1)) l0_0 l0_1) else (none))) else (lapidaryref10_Edges.l1 k2 a1 x5_2 x6_1 (wrap64 (x7_2+1)) l0_0 l0_1)) else (if x6_1 < x7_2 then (if t197 ≥ 0 then (if x5_2.length < 8796093022208 then (lapidaryref10_Edges.l1 k2 a1 (x5_2++[(⟨x6_1,x7_2⟩ : S52)]) x6_1 (wrap64 (x7_2+1)) l0_0 l0_1) else (none)) else (if t198 ≥ 0 then (if x5_2.length < 8796093022208 then (lapidaryref10_Edges.l1 k2 a1 (x5_2++[(⟨x6_1,x7_2⟩ : S52)]) x6_1 (wrap64 (x7_2+1)) l0_0 l0_1) else (none)) else (lapidaryref10_Edges.l1 k2 a1 x5_2 x6_1 (wrap64 (x7_2+1)) l0_0 l0_1))) else (lapidaryref10_Edges.l1 k2 a1 x5_2 x6_1 (wrap64 (x7_2+1)) l0_0 l0_1))) = some r:=H
       have A8:=aMx20 A80
       clear A80
       by_cases c9 : a1 = true
       ·subst c9
        have H1 : (if t197 ≥ 0 then (if t198 ≥ 0 then (lapidaryref10_Edges.l1 k2 true x5_2 x6_1 (wrap64 (x7_2+1)) l0_0 l0_1) else (if x5_2.length < 8796093022208 then (lapidaryref10_Edges.l1 k2 true (x5_2++[(⟨x6_1,x7_2⟩ : S52)]) x6_1 (wrap64 (x7_2+1)) l0_0 l0_1) else (none))) else (lapidaryref10_Edges.l1 k2 true x5_2 x6_1 (wrap64 (x7_2+1)) l0_0 l0_1)) = some r:=by rw [if_pos rfl] at H;exact H
        clear H
        have H:=H1
        clear H1
        by_cases c10 : t197 ≥ 0
        ·rw [if_pos c10] at H
         have c10b0 : decide (0 ≤ t197) = true:=decide_eq_true c10
         clear c10
         by_cases c11 : t198 ≥ 0
         ·rw [if_pos c11] at H
          have c11b0 : decide (0 ≤ t198) = true:=decide_eq_true c11
          clear c11
          have H':=aMx20 H
          clear H
          have hcz12_0 : wr.cell? ⟨gb196,0,none⟩ = some (.slice A0_0 l0_0.length c0_0):=(blk_cell BK196.out 0).trans rfl
          have hcz12_1 : wr.cell? ⟨gb196,1,none⟩ = some (.slice A0_1 l0_1.length c0_1):=(blk_cell BK196.out 1).trans rfl
          have hfz12_0:=blk_frozen BK196.out 0
          have hfz12_1:=blk_frozen BK196.out 1
          go_wp2_with (first|((with_reducible refine gate_callee (f:=22) rfl ?_);refine goesL_ (some 28) rfl rfl Tryd.func22 (by kernel_rfl) rfl #[.slice A0_1 l0_1.length c0_1,.int .i64 x6_1,.int .i64 x7_2] rfl (by (try simp only [List.map_toArray,List.map_cons,List.map_nil]);first|done|rfl|(simp only [List.length_drop,List.length_take];rfl)) ?_;(with_reducible refine (lapidaryref10_Has.calls k2 _ _ l0_1 x6_1 x7_2 t197 _ ?side1 ?side2 A7.out).mono ?_);(case side1 => repeat (first|exact (Kd.C_below HR0_1.out HB.out)|(with_reducible first|refine Kd.C_alloc ?_ _|refine Kd.C_drewN ?_ _|refine Kd.C_drew ?_)));(case side2 => exact HC0_1.out);rintro e w' ⟨rfl,⟨nd,rfl⟩⟩;refine ⟨_,rfl,?_⟩)|((with_reducible refine gate_callee (f:=22) rfl ?_);refine goesL_ (some 34) rfl rfl Tryd.func22 (by kernel_rfl) rfl #[.slice A0_1 l0_1.length c0_1,.int .i64 x7_2,.int .i64 x6_1] rfl (by (try simp only [List.map_toArray,List.map_cons,List.map_nil]);first|done|rfl|(simp only [List.length_drop,List.length_take];rfl)) ?_;(with_reducible refine (lapidaryref10_Has.calls k2 _ _ l0_1 x7_2 x6_1 t198 _ ?side1 ?side2 A8.out).mono ?_);(case side1 => repeat (first|exact (Kd.C_below HR0_1.out (by repeat (first|(with_reducible first|exact HB.out|apply below_alloc|apply pw_below_drewN|apply below_drew1|refine below_set ?_ GE196.out)|exact HB.out)))|(with_reducible first|refine Kd.C_alloc ?_ _|refine Kd.C_drewN ?_ _|refine Kd.C_drew ?_)));(case side2 => exact HC0_1.out);rintro e w' ⟨rfl,⟨nd,rfl⟩⟩;refine ⟨_,rfl,?_⟩))
          go_roundg k2
          case measure => have:=HK1.out;have:=HK2.out;omega
          case rel => exact ⟨(x5_2),(wrap64 (x7_2+1)),(by first | rfl | (simp;done) | (simp [*];done) | (simp [wrap64];done)),H',⟨by have:=HK1.out;have:=HK2.out;omega⟩,⟨by (with_reducible repeat (first | apply Kd.R_alloc | apply Kd.R_drewN | apply Kd.R_drew));exact HO_5.out⟩,⟨by (with_reducible repeat (first | refine blk_drewN ?_ _ | refine blk_drew ?_ | refine blk_alloc ?_ _));exact BK196.out⟩,⟨by repeat (first | (with_reducible first | exact HB.out | apply below_alloc | apply pw_below_drewN | apply below_drew1 | refine below_set ?_ GE196.out) | exact HB.out)⟩⟩
         ·rw [if_neg c11] at H
          have c11b0 : decide (0 ≤ t198) = false:=decide_eq_false c11
          clear c11
          by_cases c13 : x5_2.length < 8796093022208
          ·rw [if_pos c13] at H
           have LMc13:=aMx20 c13
           clear c13
           obtain ⟨y199,hy199⟩ : ∃ y_ : List (S52),y_ = (x5_2++[(⟨x6_1,x7_2⟩ : S52)]):=⟨_,rfl⟩
           replace H : (lapidaryref10_Edges.l1 k2 true y199 x6_1 (wrap64 (x7_2+1)) l0_0 l0_1) = some r:=by first | (rw [hy199];with_reducible exact H) | (have H2_:=(Option.bind_some _ _).symm.trans H;rw [hy199];with_reducible exact H2_) | (have H2_:=(Option.bind_some _ _).symm.trans H;with_reducible exact H2_) | with_reducible exact H | (rw [hy199];exact H) | exact H
           have Ny199:=aMx20 hy199
           clear hy199
           have H':=aMx20 H
           clear H
           have hcz14_0 : wr.cell? ⟨gb196,0,none⟩ = some (.slice A0_0 l0_0.length c0_0):=(blk_cell BK196.out 0).trans rfl
           have hcz14_1 : wr.cell? ⟨gb196,1,none⟩ = some (.slice A0_1 l0_1.length c0_1):=(blk_cell BK196.out 1).trans rfl
           have hfz14_0:=blk_frozen BK196.out 0
           have hfz14_1:=blk_frozen BK196.out 1
           go_wp2_with (first|((with_reducible refine gate_callee (f:=22) rfl ?_);refine goesL_ (some 28) rfl rfl Tryd.func22 (by kernel_rfl) rfl #[.slice A0_1 l0_1.length c0_1,.int .i64 x6_1,.int .i64 x7_2] rfl (by (try simp only [List.map_toArray,List.map_cons,List.map_nil]);first|done|rfl|(simp only [List.length_drop,List.length_take];rfl)) ?_;(with_reducible refine (lapidaryref10_Has.calls k2 _ _ l0_1 x6_1 x7_2 t197 _ ?side1 ?side2 A7.out).mono ?_);(case side1 => repeat (first|exact (Kd.C_below HR0_1.out HB.out)|(with_reducible first|refine Kd.C_alloc ?_ _|refine Kd.C_drewN ?_ _|refine Kd.C_drew ?_)));(case side2 => exact HC0_1.out);rintro e w' ⟨rfl,⟨nd,rfl⟩⟩;refine ⟨_,rfl,?_⟩)|((with_reducible refine gate_callee (f:=22) rfl ?_);refine goesL_ (some 34) rfl rfl Tryd.func22 (by kernel_rfl) rfl #[.slice A0_1 l0_1.length c0_1,.int .i64 x7_2,.int .i64 x6_1] rfl (by (try simp only [List.map_toArray,List.map_cons,List.map_nil]);first|done|rfl|(simp only [List.length_drop,List.length_take];rfl)) ?_;(with_reducible refine (lapidaryref10_Has.calls k2 _ _ l0_1 x7_2 x6_1 t198 _ ?side1 ?side2 A8.out).mono ?_);(case side1 => repeat (first|exact (Kd.C_below HR0_1.out (by repeat (first|(with_reducible first|exact HB.out|apply below_alloc|apply pw_below_drewN|apply below_drew1|refine below_set ?_ GE196.out)|exact HB.out)))|(with_reducible first|refine Kd.C_alloc ?_ _|refine Kd.C_drewN ?_ _|refine Kd.C_drew ?_)));(case side2 => exact HC0_1.out);rintro e w' ⟨rfl,⟨nd,rfl⟩⟩;refine ⟨_,rfl,?_⟩)|((with_reducible refine gate_builtin (b:=.append) (xs:=#[.tmp 59,.tmp 63]) rfl ?_);at_builtin;refine Kd.R_append k52 (w0:=w) w.heap.size rfl (.tmp 59) (.tmp 63) 31 52 (.agg #[(.int .i64 0),(.int .i64 0)]) 16 rfl Tryd.underlying31 info52 rfl (by decide) (by omega) u5 x5_2 (⟨x6_1,x7_2⟩ : S52) [.int .i64 x6_1,.int .i64 x7_2] (fun _ => True) (fun _ => False) rfl rfl ?aP (fun _ hk => hk.elim) ?aF ?aO ?aB ?aS ?aL ?_;(case aP => exact k52_mkM _ _ _ (⟨x6_1,x7_2⟩ : S52));(case aB => exact (by repeat (first|(with_reducible first|exact HB.out|apply below_alloc|apply pw_below_drewN|apply below_drew1|refine below_set ?_ GE196.out)|exact HB.out)));(case aF => exact (fun _ _ => trivial));(case aO => exact (by (with_reducible repeat (first|apply Kd.R_alloc|apply Kd.R_drewN|apply Kd.R_drew));exact HO_5.out));(case aS => exact (below_size (by repeat (first|(with_reducible first|exact HB.out|apply below_alloc|apply pw_below_drewN|apply below_drew1|refine below_set ?_ GE196.out)|exact HB.out))));(case aL => have:=LMc13.out;omega);intro v200 w15 ho hb hg hat;rw [← Ny199.out] at ho;have n0_:=aMx20 (blk_grown (g:=gb196) (o:=.cells #[.slice A0_0 l0_0.length c0_0,.slice A0_1 l0_1.length c0_1] 25 (0,0)) (by (with_reducible repeat (first|refine blk_drewN ?_ _|refine blk_drew ?_|refine blk_alloc ?_ _));exact BK196.out) hg (Kd.R_ne HO_5.out BK196.out (by decide)));have n1_:=aMx20 (hb);have n2_:=aMx20 (ho);clear BK196;clear HB;clear HO_5;have BK196:=n0_;have HB:=n1_;have HO201:=n2_;clear n0_ n1_ n2_;clear ho hb hg hat))
           go_roundg k2
           case measure => have:=HK1.out;have:=HK2.out;omega
           case rel => exact ⟨(y199),(wrap64 (x7_2+1)),(by first | rfl | (simp;done) | (simp [*];done) | (simp [wrap64];done)),H',⟨by have:=HK1.out;have:=HK2.out;omega⟩,⟨by (with_reducible repeat (first | apply Kd.R_alloc | apply Kd.R_drewN | apply Kd.R_drew));exact HO201.out⟩,⟨by (with_reducible repeat (first | refine blk_drewN ?_ _ | refine blk_drew ?_ | refine blk_alloc ?_ _));exact BK196.out⟩,⟨by repeat (first | (with_reducible first | exact HB.out | apply below_alloc | apply pw_below_drewN | apply below_drew1 | refine below_set ?_ GE196.out) | exact HB.out)⟩⟩
          ·rw [if_neg c13] at H
           exact absurd H (by simp)
        ·rw [if_neg c10] at H
         have c10b0 : decide (0 ≤ t197) = false:=decide_eq_false c10
         clear c10
         have H':=aMx20 H
         clear H
         have hcz16_0 : wr.cell? ⟨gb196,0,none⟩ = some (.slice A0_0 l0_0.length c0_0):=(blk_cell BK196.out 0).trans rfl
         have hcz16_1 : wr.cell? ⟨gb196,1,none⟩ = some (.slice A0_1 l0_1.length c0_1):=(blk_cell BK196.out 1).trans rfl
         have hfz16_0:=blk_frozen BK196.out 0
         have hfz16_1:=blk_frozen BK196.out 1
         go_wp2_with (first|((with_reducible refine gate_callee (f:=22) rfl ?_);refine goesL_ (some 28) rfl rfl Tryd.func22 (by kernel_rfl) rfl #[.slice A0_1 l0_1.length c0_1,.int .i64 x6_1,.int .i64 x7_2] rfl (by (try simp only [List.map_toArray,List.map_cons,List.map_nil]);first|done|rfl|(simp only [List.length_drop,List.length_take];rfl)) ?_;(with_reducible refine (lapidaryref10_Has.calls k2 _ _ l0_1 x6_1 x7_2 t197 _ ?side1 ?side2 A7.out).mono ?_);(case side1 => repeat (first|exact (Kd.C_below HR0_1.out HB.out)|(with_reducible first|refine Kd.C_alloc ?_ _|refine Kd.C_drewN ?_ _|refine Kd.C_drew ?_)));(case side2 => exact HC0_1.out);rintro e w' ⟨rfl,⟨nd,rfl⟩⟩;refine ⟨_,rfl,?_⟩)|((with_reducible refine gate_callee (f:=22) rfl ?_);refine goesL_ (some 34) rfl rfl Tryd.func22 (by kernel_rfl) rfl #[.slice A0_1 l0_1.length c0_1,.int .i64 x7_2,.int .i64 x6_1] rfl (by (try simp only [List.map_toArray,List.map_cons,List.map_nil]);first|done|rfl|(simp only [List.length_drop,List.length_take];rfl)) ?_;(with_reducible refine (lapidaryref10_Has.calls k2 _ _ l0_1 x7_2 x6_1 t198 _ ?side1 ?side2 A8.out).mono ?_);(case side1 => repeat (first|exact (Kd.C_below HR0_1.out (by repeat (first|(with_reducible first|exact HB.out|apply below_alloc|apply pw_below_drewN|apply below_drew1|refine below_set ?_ GE196.out)|exact HB.out)))|(with_reducible first|refine Kd.C_alloc ?_ _|refine Kd.C_drewN ?_ _|refine Kd.C_drew ?_)));(case side2 => exact HC0_1.out);rintro e w' ⟨rfl,⟨nd,rfl⟩⟩;refine ⟨_,rfl,?_⟩))
         go_roundg k2
         case measure => have:=HK1.out;have:=HK2.out;omega
         case rel => exact ⟨(x5_2),(wrap64 (x7_2+1)),(by first | rfl | (simp;done) | (simp [*];done) | (simp [wrap64];done)),H',⟨by have:=HK1.out;have:=HK2.out;omega⟩,⟨by (with_reducible repeat (first | apply Kd.R_alloc | apply Kd.R_drewN | apply Kd.R_drew));exact HO_5.out⟩,⟨by (with_reducible repeat (first | refine blk_drewN ?_ _ | refine blk_drew ?_ | refine blk_alloc ?_ _));exact BK196.out⟩,⟨by repeat (first | (with_reducible first | exact HB.out | apply below_alloc | apply pw_below_drewN | apply below_drew1 | refine below_set ?_ GE196.out) | exact HB.out)⟩⟩
       ·replace c9:=Bool.eq_false_iff.mpr c9
        subst c9
        have H1 : (if x6_1 < x7_2 then (if t197 ≥ 0 then (if x5_2.length < 8796093022208 then (lapidaryref10_Edges.l1 k2 false (x5_2++[(⟨x6_1,x7_2⟩ : S52)]) x6_1 (wrap64 (x7_2+1)) l0_0 l0_1) else (none)) else (if t198 ≥ 0 then (if x5_2.length < 8796093022208 then (lapidaryref10_Edges.l1 k2 false (x5_2++[(⟨x6_1,x7_2⟩ : S52)]) x6_1 (wrap64 (x7_2+1)) l0_0 l0_1) else (none)) else (lapidaryref10_Edges.l1 k2 false x5_2 x6_1 (wrap64 (x7_2+1)) l0_0 l0_1))) else (lapidaryref10_Edges.l1 k2 false x5_2 x6_1 (wrap64 (x7_2+1)) l0_0 l0_1)) = some r:=by rw [if_neg (show ¬ (false = true) by decide)] at H;exact H
        clear H
        have H:=H1
        clear H1
        by_cases c17 : x6_1 < x7_2
        ·rw [if_pos c17] at H
         have c17b0 : decide (x6_1 < x7_2) = true:=decide_eq_true c17
         clear c17
         by_cases c18 : t197 ≥ 0
         ·rw [if_pos c18] at H
          have c18b0 : decide (0 ≤ t197) = true:=decide_eq_true c18
          clear c18
          by_cases c19 : x5_2.length < 8796093022208
          ·rw [if_pos c19] at H
           have LMc19:=aMx20 c19
           clear c19
           obtain ⟨y202,hy202⟩ : ∃ y_ : List (S52),y_ = (x5_2++[(⟨x6_1,x7_2⟩ : S52)]):=⟨_,rfl⟩
           replace H : (lapidaryref10_Edges.l1 k2 false y202 x6_1 (wrap64 (x7_2+1)) l0_0 l0_1) = some r:=by first | (rw [hy202];with_reducible exact H) | (have H2_:=(Option.bind_some _ _).symm.trans H;rw [hy202];with_reducible exact H2_) | (have H2_:=(Option.bind_some _ _).symm.trans H;with_reducible exact H2_) | with_reducible exact H | (rw [hy202];exact H) | exact H
           have Ny202:=aMx20 hy202
           clear hy202
           have H':=aMx20 H
           clear H
           have hcz20_0 : wr.cell? ⟨gb196,0,none⟩ = some (.slice A0_0 l0_0.length c0_0):=(blk_cell BK196.out 0).trans rfl
           have hcz20_1 : wr.cell? ⟨gb196,1,none⟩ = some (.slice A0_1 l0_1.length c0_1):=(blk_cell BK196.out 1).trans rfl
           have hfz20_0:=blk_frozen BK196.out 0
           have hfz20_1:=blk_frozen BK196.out 1
           go_wp2_with (first|((with_reducible refine gate_callee (f:=22) rfl ?_);refine goesL_ (some 28) rfl rfl Tryd.func22 (by kernel_rfl) rfl #[.slice A0_1 l0_1.length c0_1,.int .i64 x6_1,.int .i64 x7_2] rfl (by (try simp only [List.map_toArray,List.map_cons,List.map_nil]);first|done|rfl|(simp only [List.length_drop,List.length_take];rfl)) ?_;(with_reducible refine (lapidaryref10_Has.calls k2 _ _ l0_1 x6_1 x7_2 t197 _ ?side1 ?side2 A7.out).mono ?_);(case side1 => repeat (first|exact (Kd.C_below HR0_1.out HB.out)|(with_reducible first|refine Kd.C_alloc ?_ _|refine Kd.C_drewN ?_ _|refine Kd.C_drew ?_)));(case side2 => exact HC0_1.out);rintro e w' ⟨rfl,⟨nd,rfl⟩⟩;refine ⟨_,rfl,?_⟩)|((with_reducible refine gate_callee (f:=22) rfl ?_);refine goesL_ (some 34) rfl rfl Tryd.func22 (by kernel_rfl) rfl #[.slice A0_1 l0_1.length c0_1,.int .i64 x7_2,.int .i64 x6_1] rfl (by (try simp only [List.map_toArray,List.map_cons,List.map_nil]);first|done|rfl|(simp only [List.length_drop,List.length_take];rfl)) ?_;(with_reducible refine (lapidaryref10_Has.calls k2 _ _ l0_1 x7_2 x6_1 t198 _ ?side1 ?side2 A8.out).mono ?_);(case side1 => repeat (first|exact (Kd.C_below HR0_1.out (by repeat (first|(with_reducible first|exact HB.out|apply below_alloc|apply pw_below_drewN|apply below_drew1|refine below_set ?_ GE196.out)|exact HB.out)))|(with_reducible first|refine Kd.C_alloc ?_ _|refine Kd.C_drewN ?_ _|refine Kd.C_drew ?_)));(case side2 => exact HC0_1.out);rintro e w' ⟨rfl,⟨nd,rfl⟩⟩;refine ⟨_,rfl,?_⟩)|((with_reducible refine gate_builtin (b:=.append) (xs:=#[.tmp 59,.tmp 63]) rfl ?_);at_builtin;refine Kd.R_append k52 (w0:=w) w.heap.size rfl (.tmp 59) (.tmp 63) 31 52 (.agg #[(.int .i64 0),(.int .i64 0)]) 16 rfl Tryd.underlying31 info52 rfl (by decide) (by omega) u5 x5_2 (⟨x6_1,x7_2⟩ : S52) [.int .i64 x6_1,.int .i64 x7_2] (fun _ => True) (fun _ => False) rfl rfl ?aP (fun _ hk => hk.elim) ?aF ?aO ?aB ?aS ?aL ?_;(case aP => exact k52_mkM _ _ _ (⟨x6_1,x7_2⟩ : S52));(case aB => exact (by repeat (first|(with_reducible first|exact HB.out|apply below_alloc|apply pw_below_drewN|apply below_drew1|refine below_set ?_ GE196.out)|exact HB.out)));(case aF => exact (fun _ _ => trivial));(case aO => exact (by (with_reducible repeat (first|apply Kd.R_alloc|apply Kd.R_drewN|apply Kd.R_drew));exact HO_5.out));(case aS => exact (below_size (by repeat (first|(with_reducible first|exact HB.out|apply below_alloc|apply pw_below_drewN|apply below_drew1|refine below_set ?_ GE196.out)|exact HB.out))));(case aL => have:=LMc19.out;omega);intro v203 w21 ho hb hg hat;rw [← Ny202.out] at ho;have n0_:=aMx20 (blk_grown (g:=gb196) (o:=.cells #[.slice A0_0 l0_0.length c0_0,.slice A0_1 l0_1.length c0_1] 25 (0,0)) (by (with_reducible repeat (first|refine blk_drewN ?_ _|refine blk_drew ?_|refine blk_alloc ?_ _));exact BK196.out) hg (Kd.R_ne HO_5.out BK196.out (by decide)));have n1_:=aMx20 (hb);have n2_:=aMx20 (ho);clear BK196;clear HB;clear HO_5;have BK196:=n0_;have HB:=n1_;have HO204:=n2_;clear n0_ n1_ n2_;clear ho hb hg hat))
           go_roundg k2
           case measure => have:=HK1.out;have:=HK2.out;omega
           case rel => exact ⟨(y202),(wrap64 (x7_2+1)),(by first | rfl | (simp;done) | (simp [*];done) | (simp [wrap64];done)),H',⟨by have:=HK1.out;have:=HK2.out;omega⟩,⟨by (with_reducible repeat (first | apply Kd.R_alloc | apply Kd.R_drewN | apply Kd.R_drew));exact HO204.out⟩,⟨by (with_reducible repeat (first | refine blk_drewN ?_ _ | refine blk_drew ?_ | refine blk_alloc ?_ _));exact BK196.out⟩,⟨by repeat (first | (with_reducible first | exact HB.out | apply below_alloc | apply pw_below_drewN | apply below_drew1 | refine below_set ?_ GE196.out) | exact HB.out)⟩⟩
          ·rw [if_neg c19] at H
           exact absurd H (by simp)
         ·rw [if_neg c18] at H
          have c18b0 : decide (0 ≤ t197) = false:=decide_eq_false c18
          clear c18
          by_cases c22 : t198 ≥ 0
          ·rw [if_pos c22] at H
           have c22b0 : decide (0 ≤ t198) = true:=decide_eq_true c22
           clear c22
           by_cases c23 : x5_2.length < 8796093022208
           ·rw [if_pos c23] at H
            have LMc23:=aMx20 c23
            clear c23
            obtain ⟨y205,hy205⟩ : ∃ y_ : List (S52),y_ = (x5_2++[(⟨x6_1,x7_2⟩ : S52)]):=⟨_,rfl⟩
            replace H : (lapidaryref10_Edges.l1 k2 false y205 x6_1 (wrap64 (x7_2+1)) l0_0 l0_1) = some r:=by first | (rw [hy205];with_reducible exact H) | (have H2_:=(Option.bind_some _ _).symm.trans H;rw [hy205];with_reducible exact H2_) | (have H2_:=(Option.bind_some _ _).symm.trans H;with_reducible exact H2_) | with_reducible exact H | (rw [hy205];exact H) | exact H
            have Ny205:=aMx20 hy205
            clear hy205
            have H':=aMx20 H
            clear H
            have hcz24_0 : wr.cell? ⟨gb196,0,none⟩ = some (.slice A0_0 l0_0.length c0_0):=(blk_cell BK196.out 0).trans rfl
            have hcz24_1 : wr.cell? ⟨gb196,1,none⟩ = some (.slice A0_1 l0_1.length c0_1):=(blk_cell BK196.out 1).trans rfl
            have hfz24_0:=blk_frozen BK196.out 0
            have hfz24_1:=blk_frozen BK196.out 1
            go_wp2_with (first|((with_reducible refine gate_callee (f:=22) rfl ?_);refine goesL_ (some 28) rfl rfl Tryd.func22 (by kernel_rfl) rfl #[.slice A0_1 l0_1.length c0_1,.int .i64 x6_1,.int .i64 x7_2] rfl (by (try simp only [List.map_toArray,List.map_cons,List.map_nil]);first|done|rfl|(simp only [List.length_drop,List.length_take];rfl)) ?_;(with_reducible refine (lapidaryref10_Has.calls k2 _ _ l0_1 x6_1 x7_2 t197 _ ?side1 ?side2 A7.out).mono ?_);(case side1 => repeat (first|exact (Kd.C_below HR0_1.out HB.out)|(with_reducible first|refine Kd.C_alloc ?_ _|refine Kd.C_drewN ?_ _|refine Kd.C_drew ?_)));(case side2 => exact HC0_1.out);rintro e w' ⟨rfl,⟨nd,rfl⟩⟩;refine ⟨_,rfl,?_⟩)|((with_reducible refine gate_callee (f:=22) rfl ?_);refine goesL_ (some 34) rfl rfl Tryd.func22 (by kernel_rfl) rfl #[.slice A0_1 l0_1.length c0_1,.int .i64 x7_2,.int .i64 x6_1] rfl (by (try simp only [List.map_toArray,List.map_cons,List.map_nil]);first|done|rfl|(simp only [List.length_drop,List.length_take];rfl)) ?_;(with_reducible refine (lapidaryref10_Has.calls k2 _ _ l0_1 x7_2 x6_1 t198 _ ?side1 ?side2 A8.out).mono ?_);(case side1 => repeat (first|exact (Kd.C_below HR0_1.out (by repeat (first|(with_reducible first|exact HB.out|apply below_alloc|apply pw_below_drewN|apply below_drew1|refine below_set ?_ GE196.out)|exact HB.out)))|(with_reducible first|refine Kd.C_alloc ?_ _|refine Kd.C_drewN ?_ _|refine Kd.C_drew ?_)));(case side2 => exact HC0_1.out);rintro e w' ⟨rfl,⟨nd,rfl⟩⟩;refine ⟨_,rfl,?_⟩)|((with_reducible refine gate_builtin (b:=.append) (xs:=#[.tmp 59,.tmp 63]) rfl ?_);at_builtin;refine Kd.R_append k52 (w0:=w) w.heap.size rfl (.tmp 59) (.tmp 63) 31 52 (.agg #[(.int .i64 0),(.int .i64 0)]) 16 rfl Tryd.underlying31 info52 rfl (by decide) (by omega) u5 x5_2 (⟨x6_1,x7_2⟩ : S52) [.int .i64 x6_1,.int .i64 x7_2] (fun _ => True) (fun _ => False) rfl rfl ?aP (fun _ hk => hk.elim) ?aF ?aO ?aB ?aS ?aL ?_;(case aP => exact k52_mkM _ _ _ (⟨x6_1,x7_2⟩ : S52));(case aB => exact (by repeat (first|(with_reducible first|exact HB.out|apply below_alloc|apply pw_below_drewN|apply below_drew1|refine below_set ?_ GE196.out)|exact HB.out)));(case aF => exact (fun _ _ => trivial));(case aO => exact (by (with_reducible repeat (first|apply Kd.R_alloc|apply Kd.R_drewN|apply Kd.R_drew));exact HO_5.out));(case aS => exact (below_size (by repeat (first|(with_reducible first|exact HB.out|apply below_alloc|apply pw_below_drewN|apply below_drew1|refine below_set ?_ GE196.out)|exact HB.out))));(case aL => have:=LMc23.out;omega);intro v206 w25 ho hb hg hat;rw [← Ny205.out] at ho;have n0_:=aMx20 (blk_grown (g:=gb196) (o:=.cells #[.slice A0_0 l0_0.length c0_0,.slice A0_1 l0_1.length c0_1] 25 (0,0)) (by (with_reducible repeat (first|refine blk_drewN ?_ _|refine blk_drew ?_|refine blk_alloc ?_ _));exact BK196.out) hg (Kd.R_ne HO_5.out BK196.out (by decide)));have n1_:=aMx20 (hb);have n2_:=aMx20 (ho);clear BK196;clear HB;clear HO_5;have BK196:=n0_;have HB:=n1_;have HO207:=n2_;clear n0_ n1_ n2_;clear ho hb hg hat))
            go_roundg k2
            case measure => have:=HK1.out;have:=HK2.out;omega
            case rel => exact ⟨(y205),(wrap64 (x7_2+1)),(by first | rfl | (simp;done) | (simp [*];done) | (simp [wrap64];done)),H',⟨by have:=HK1.out;have:=HK2.out;omega⟩,⟨by (with_reducible repeat (first | apply Kd.R_alloc | apply Kd.R_drewN | apply Kd.R_drew));exact HO207.out⟩,⟨by (with_reducible repeat (first | refine blk_drewN ?_ _ | refine blk_drew ?_ | refine blk_alloc ?_ _));exact BK196.out⟩,⟨by repeat (first | (with_reducible first | exact HB.out | apply below_alloc | apply pw_below_drewN | apply below_drew1 | refine below_set ?_ GE196.out) | exact HB.out)⟩⟩
           ·rw [if_neg c23] at H
            exact absurd H (by simp)
          ·rw [if_neg c22] at H
           have c22b0 : decide (0 ≤ t198) = false:=decide_eq_false c22
           clear c22
           have H':=aMx20 H
           clear H
           have hcz26_0 : wr.cell? ⟨gb196,0,none⟩ = some (.slice A0_0 l0_0.length c0_0):=(blk_cell BK196.out 0).trans rfl
           have hcz26_1 : wr.cell? ⟨gb196,1,none⟩ = some (.slice A0_1 l0_1.length c0_1):=(blk_cell BK196.out 1).trans rfl
           have hfz26_0:=blk_frozen BK196.out 0
           have hfz26_1:=blk_frozen BK196.out 1
           go_wp2_with (first|((with_reducible refine gate_callee (f:=22) rfl ?_);refine goesL_ (some 28) rfl rfl Tryd.func22 (by kernel_rfl) rfl #[.slice A0_1 l0_1.length c0_1,.int .i64 x6_1,.int .i64 x7_2] rfl (by (try simp only [List.map_toArray,List.map_cons,List.map_nil]);first|done|rfl|(simp only [List.length_drop,List.length_take];rfl)) ?_;(with_reducible refine (lapidaryref10_Has.calls k2 _ _ l0_1 x6_1 x7_2 t197 _ ?side1 ?side2 A7.out).mono ?_);(case side1 => repeat (first|exact (Kd.C_below HR0_1.out HB.out)|(with_reducible first|refine Kd.C_alloc ?_ _|refine Kd.C_drewN ?_ _|refine Kd.C_drew ?_)));(case side2 => exact HC0_1.out);rintro e w' ⟨rfl,⟨nd,rfl⟩⟩;refine ⟨_,rfl,?_⟩)|((with_reducible refine gate_callee (f:=22) rfl ?_);refine goesL_ (some 34) rfl rfl Tryd.func22 (by kernel_rfl) rfl #[.slice A0_1 l0_1.length c0_1,.int .i64 x7_2,.int .i64 x6_1] rfl (by (try simp only [List.map_toArray,List.map_cons,List.map_nil]);first|done|rfl|(simp only [List.length_drop,List.length_take];rfl)) ?_;(with_reducible refine (lapidaryref10_Has.calls k2 _ _ l0_1 x7_2 x6_1 t198 _ ?side1 ?side2 A8.out).mono ?_);(case side1 => repeat (first|exact (Kd.C_below HR0_1.out (by repeat (first|(with_reducible first|exact HB.out|apply below_alloc|apply pw_below_drewN|apply below_drew1|refine below_set ?_ GE196.out)|exact HB.out)))|(with_reducible first|refine Kd.C_alloc ?_ _|refine Kd.C_drewN ?_ _|refine Kd.C_drew ?_)));(case side2 => exact HC0_1.out);rintro e w' ⟨rfl,⟨nd,rfl⟩⟩;refine ⟨_,rfl,?_⟩))
           go_roundg k2
           case measure => have:=HK1.out;have:=HK2.out;omega
           case rel => exact ⟨(x5_2),(wrap64 (x7_2+1)),(by first | rfl | (simp;done) | (simp [*];done) | (simp [wrap64];done)),H',⟨by have:=HK1.out;have:=HK2.out;omega⟩,⟨by (with_reducible repeat (first | apply Kd.R_alloc | apply Kd.R_drewN | apply Kd.R_drew));exact HO_5.out⟩,⟨by (with_reducible repeat (first | refine blk_drewN ?_ _ | refine blk_drew ?_ | refine blk_alloc ?_ _));exact BK196.out⟩,⟨by repeat (first | (with_reducible first | exact HB.out | apply below_alloc | apply pw_below_drewN | apply below_drew1 | refine below_set ?_ GE196.out) | exact HB.out)⟩⟩
        ·rw [if_neg c17] at H
         have c17b0 : decide (x6_1 < x7_2) = false:=decide_eq_false c17
         clear c17
         have H':=aMx20 H
         clear H
         have hcz27_0 : wr.cell? ⟨gb196,0,none⟩ = some (.slice A0_0 l0_0.length c0_0):=(blk_cell BK196.out 0).trans rfl
         have hcz27_1 : wr.cell? ⟨gb196,1,none⟩ = some (.slice A0_1 l0_1.length c0_1):=(blk_cell BK196.out 1).trans rfl
         have hfz27_0:=blk_frozen BK196.out 0
         have hfz27_1:=blk_frozen BK196.out 1
         go_wp2_with (first|((with_reducible refine gate_callee (f:=22) rfl ?_);refine goesL_ (some 28) rfl rfl Tryd.func22 (by kernel_rfl) rfl #[.slice A0_1 l0_1.length c0_1,.int .i64 x6_1,.int .i64 x7_2] rfl (by (try simp only [List.map_toArray,List.map_cons,List.map_nil]);first|done|rfl|(simp only [List.length_drop,List.length_take];rfl)) ?_;(with_reducible refine (lapidaryref10_Has.calls k2 _ _ l0_1 x6_1 x7_2 t197 _ ?side1 ?side2 A7.out).mono ?_);(case side1 => repeat (first|exact (Kd.C_below HR0_1.out HB.out)|(with_reducible first|refine Kd.C_alloc ?_ _|refine Kd.C_drewN ?_ _|refine Kd.C_drew ?_)));(case side2 => exact HC0_1.out);rintro e w' ⟨rfl,⟨nd,rfl⟩⟩;refine ⟨_,rfl,?_⟩)|((with_reducible refine gate_callee (f:=22) rfl ?_);refine goesL_ (some 34) rfl rfl Tryd.func22 (by kernel_rfl) rfl #[.slice A0_1 l0_1.length c0_1,.int .i64 x7_2,.int .i64 x6_1] rfl (by (try simp only [List.map_toArray,List.map_cons,List.map_nil]);first|done|rfl|(simp only [List.length_drop,List.length_take];rfl)) ?_;(with_reducible refine (lapidaryref10_Has.calls k2 _ _ l0_1 x7_2 x6_1 t198 _ ?side1 ?side2 A8.out).mono ?_);(case side1 => repeat (first|exact (Kd.C_below HR0_1.out (by repeat (first|(with_reducible first|exact HB.out|apply below_alloc|apply pw_below_drewN|apply below_drew1|refine below_set ?_ GE196.out)|exact HB.out)))|(with_reducible first|refine Kd.C_alloc ?_ _|refine Kd.C_drewN ?_ _|refine Kd.C_drew ?_)));(case side2 => exact HC0_1.out);rintro e w' ⟨rfl,⟨nd,rfl⟩⟩;refine ⟨_,rfl,?_⟩))
         go_roundg k2
         case measure => have:=HK1.out;have:=HK2.out;omega
         case rel => exact ⟨(x5_2),(wrap64 (x7_2+1)),(by first | rfl | (simp;done) | (simp [*];done) | (simp [wrap64];done)),H',⟨by have:=HK1.out;have:=HK2.out;omega⟩,⟨by (with_reducible repeat (first | apply Kd.R_alloc | apply Kd.R_drewN | apply Kd.R_drew));exact HO_5.out⟩,⟨by (with_reducible repeat (first | refine blk_drewN ?_ _ | refine blk_drew ?_ | refine blk_alloc ?_ _));exact BK196.out⟩,⟨by repeat (first | (with_reducible first | exact HB.out | apply below_alloc | apply pw_below_drewN | apply below_drew1 | refine below_set ?_ GE196.out) | exact HB.out)⟩⟩
      ·rw [if_neg c6] at H
       have c6b0 : decide (x7_2 < (l0_0.length : Int)) = false:=decide_eq_false c6
       clear c6
       have H':=aMx20 H
       clear H
       have hcz28_0 : wr.cell? ⟨gb196,0,none⟩ = some (.slice A0_0 l0_0.length c0_0):=(blk_cell BK196.out 0).trans rfl
       have hcz28_1 : wr.cell? ⟨gb196,1,none⟩ = some (.slice A0_1 l0_1.length c0_1):=(blk_cell BK196.out 1).trans rfl
       have hfz28_0:=blk_frozen BK196.out 0
       have hfz28_1:=blk_frozen BK196.out 1
       go_wp2
       go_roundg k2
       case measure => have:=HK1.out;have:=HK2.out;omega
       case rel => exact ⟨(x5_2),(wrap64 (x6_1+1)),(by first | rfl | (simp;done) | (simp [*];done) | (simp [wrap64];done)),H',⟨by have:=HK1.out;have:=HK2.out;omega⟩,⟨by (with_reducible repeat (first | apply Kd.R_alloc | apply Kd.R_drewN | apply Kd.R_drew));exact HO_5.out⟩,⟨by (with_reducible repeat (first | refine blk_drewN ?_ _ | refine blk_drew ?_ | refine blk_alloc ?_ _));exact BK196.out⟩,⟨by repeat (first | (with_reducible first | exact HB.out | apply below_alloc | apply pw_below_drewN | apply below_drew1 | refine below_set ?_ GE196.out) | exact HB.out)⟩⟩
   ·rw [if_neg c4] at H
    have c4b0 : decide (x6_1 < (l0_0.length : Int)) = false:=decide_eq_false c4
    clear c4
    obtain rfl:=Option.some.inj H
    have hcz29_0 : wr.cell? ⟨gb196,0,none⟩ = some (.slice A0_0 l0_0.length c0_0):=(blk_cell BK196.out 0).trans rfl
    have hcz29_1 : wr.cell? ⟨gb196,1,none⟩ = some (.slice A0_1 l0_1.length c0_1):=(blk_cell BK196.out 1).trans rfl
    have hfz29_0:=blk_frozen BK196.out 0
    have hfz29_1:=blk_frozen BK196.out 1
    go_wp2
    go_ret
    exact ⟨_,by first | rfl | (simp [errW_none,errW_some]<;>rfl) | (simp [*,errW_none,errW_some]<;>rfl),by (with_reducible repeat (first | apply Kd.R_alloc | apply Kd.R_drewN | apply Kd.R_drew));exact HO_5.out,by repeat (first | (with_reducible first | exact HB.out | apply below_alloc | apply pw_below_drewN | apply below_drew1 | refine below_set ?_ GE196.out) | exact HB.out)⟩
noncomputable def lapidarylaw10_MeshEdges.j0 : Nat → List (S52) → List (S52) → Int → Bool → List (S55) → List (S36) → Option (Bool)
  | 0, _, _, _, _, _, _ => none
  | k + 1, x3, x5, x7, x30, x209000, x209001 => if x30 = true then (some false) else (if x7 = 0 then ((lapidaryref10_Edges.f k x209000 x209001 false).bind fun t221 => ((lapidaryref10_SameEdges.f k x3 t221).bind fun t224 => (if t224 = true then ((lapidaryref10_Edges.f k x209000 x209001 true).bind fun t225 => ((lapidaryref10_SameEdges.f k x5 t225).bind fun t228 => (if t228 = true then ((lapidarylaw10_known.f).bind fun t229 => (some t229)) else (some false)))) else (some false)))) else (if (wrap64 ((x3.length : Int) + (x5.length : Int))) = 0 then ((lapidarylaw10_known.f).bind fun t220 => (some t220)) else (some false)))
noncomputable def lapidarylaw10_MeshEdges.f (k : Nat) (l0_0 : List (S55)) (l0_1 : List (S36)) : Option (Bool) := (lapidarylaw10_long.f l0_0 l0_1).bind fun t209 => (if t209 = true then ((lapidarylaw10_known.f).bind fun t210 => (some t210)) else ((mesh_Edges.f l0_0 l0_1).bind fun bt211 => ((mesh_Border.f l0_0 l0_1).bind fun bt215 => ((lapidaryref10_Check.f k l0_0 l0_1).bind fun t219 => (if bt211.2 = t219 then (lapidarylaw10_MeshEdges.j0 k bt211.1 bt215.1 t219 (bt215.2 != t219) l0_0 l0_1) else (lapidarylaw10_MeshEdges.j0 k bt211.1 bt215.1 t219 true l0_0 l0_1))))))
set_option maxHeartbeats 8000000 in
set_option maxRecDepth 100000 in
theorem lapidarylaw10_MeshEdges.calls (k : Nat) (A0_0 : Option Addr) (c0_0 : Nat) (l0_0 : List (S55)) (A0_1 : Option Addr) (c0_1 : Nat) (l0_1 : List (S36)) (r : Bool) (w : World) (hr0_0 : Kd.C k55 w A0_0 l0_0.length l0_0) (hc0_0 : l0_0.length ≤ c0_0) (hr0_1 : Kd.C k36 w A0_1 l0_1.length l0_1) (hc0_1 : l0_1.length ≤ c0_1) (hG : Kd.C k36 w (some ⟨0, 0, none⟩) 1 [⟨1, 2, 0⟩]) (hrt : r = true) (h : lapidarylaw10_MeshEdges.f k l0_0 l0_1 = some r) :
  Calls Tryd.prog 4 #[.agg #[.slice A0_0 l0_0.length c0_0,.slice A0_1 l0_1.length c0_1]] w fun e w' => e = .returned (.bool r) ∧ Below w.heap.size w w':=by
 have HRT:=aMx20 hrt
 clear hrt
 have HG:=aMx20 hG
 clear hG
 have hu25:=Tryd.underlying25
 have HR0_0:=aMx20 hr0_0
 have HC0_0:=aMx20 hc0_0
 clear hr0_0 hc0_0
 have HR0_1:=aMx20 hr0_1
 have HC0_1:=aMx20 hc0_1
 clear hr0_1 hc0_1
 have HB:=aMx20 (Below.refl w.heap.size w)
 have H : ((lapidarylaw10_long.f l0_0 l0_1).bind fun t209 => (if t209 = true then ((lapidarylaw10_known.f).bind fun t210 => (some t210)) else ((mesh_Edges.f l0_0 l0_1).bind fun bt211 => ((mesh_Border.f l0_0 l0_1).bind fun bt215 => ((lapidaryref10_Check.f k l0_0 l0_1).bind fun t219 => (if bt211.2 = t219 then (lapidarylaw10_MeshEdges.j0 k bt211.1 bt215.1 t219 (bt215.2 != t219) l0_0 l0_1) else (lapidarylaw10_MeshEdges.j0 k bt211.1 bt215.1 t219 true l0_0 l0_1))))))) = some r:=h
 clear h
 replace H:=Option.bind_eq_some_iff.mp H
 obtain ⟨t209,A20,H⟩:=H
 replace H : (if t209 = true then ((lapidarylaw10_known.f).bind fun t210 => (some t210)) else ((mesh_Edges.f l0_0 l0_1).bind fun bt211 => ((mesh_Border.f l0_0 l0_1).bind fun bt215 => ((lapidaryref10_Check.f k l0_0 l0_1).bind fun t219 => (if bt211.2 = t219 then (lapidarylaw10_MeshEdges.j0 k bt211.1 bt215.1 t219 (bt215.2 != t219) l0_0 l0_1) else (lapidarylaw10_MeshEdges.j0 k bt211.1 bt215.1 t219 true l0_0 l0_1)))))) = some r:=H
 have A2:=aMx20 A20
 clear A20
 by_cases c3 : t209 = true
 ·subst c3
  have H1 : ((lapidarylaw10_known.f).bind fun t210 => (some t210)) = some r:=by rw [if_pos rfl] at H;exact H
  clear H
  have H:=H1
  clear H1
  replace H:=Option.bind_eq_some_iff.mp H
  obtain ⟨t210,A40,H⟩:=H
  replace H : (some t210) = some r:=H
  have A4:=aMx20 A40
  clear A40
  obtain rfl:=Option.some.inj H
  go_enter Tryd.func4,Tryd.ntmps4
  go_wp2_with (first|((with_reducible refine gate_dst (N:=1) rfl ?_);refine box_event ?hg (N:=1) ?hd (cs:=#[.slice A0_0 l0_0.length c0_0,.slice A0_1 l0_1.length c0_1]) (t:=25) ?hr ?_;(case hd => rfl);(case hg => rfl);(case hr => first|(go_simp;done)|(go_simp;rfl));intro gb208 hg w5 hbox hb;have n0_:=aMx20 (below_step (by repeat (with_reducible first|exact HB.out|apply below_alloc|apply pw_below_drewN|apply below_drew1)) hb);have n1_:=aMx20 (hbox);have n2_:=aMx20 ((by rw [hg];exact (below_size (by repeat (with_reducible first|exact HB.out|apply below_alloc|apply pw_below_drewN|apply below_drew1))) : w.heap.size ≤ gb208));have n3_:=aMx20 ((by rw [hg];exact (below_size (by repeat (with_reducible first|exact HB.out|apply below_alloc|apply pw_below_drewN|apply below_drew1))) : w.heap.size ≤ gb208));clear HB;have HB:=n0_;have BK208:=n1_;have GW208:=n2_;have GE208:=n3_;clear n0_ n1_ n2_ n3_;clear hb hbox hg;have hcz6_0 : w5.cell? ⟨gb208,0,none⟩ = some (.slice A0_0 l0_0.length c0_0):=(blk_cell BK208.out 0).trans rfl;have hcz6_1 : w5.cell? ⟨gb208,1,none⟩ = some (.slice A0_1 l0_1.length c0_1):=(blk_cell BK208.out 1).trans rfl;have hfz6_0:=blk_frozen BK208.out 0;have hfz6_1:=blk_frozen BK208.out 1)|((with_reducible refine gate_callee (f:=12) rfl ?_);refine goesL_ (some 9) rfl rfl Tryd.func12 (by kernel_rfl) rfl #[.agg #[.slice A0_0 l0_0.length c0_0,.slice A0_1 l0_1.length c0_1]] rfl (by (try simp only [List.map_toArray,List.map_cons,List.map_nil]);first|done|rfl|(simp only [List.length_drop,List.length_take];rfl)) ?_;(with_reducible refine (lapidarylaw10_long.calls _ _ l0_0 _ _ l0_1 true _ ?side1 ?side2 ?side3 ?side4 A2.out).mono ?_);(case side1 => repeat (first|exact (Kd.C_below HR0_0.out HB.out)|(with_reducible first|refine Kd.C_alloc ?_ _|refine Kd.C_drewN ?_ _|refine Kd.C_drew ?_)));(case side2 => exact HC0_0.out);(case side3 => repeat (first|exact (Kd.C_below HR0_1.out HB.out)|(with_reducible first|refine Kd.C_alloc ?_ _|refine Kd.C_drewN ?_ _|refine Kd.C_drew ?_)));(case side4 => exact HC0_1.out);rintro e w7 ⟨rfl,hb⟩;refine ⟨_,rfl,?_⟩;have n0_:=aMx20 (blk_below (g:=gb208) (o:=.cells #[.slice A0_0 l0_0.length c0_0,.slice A0_1 l0_1.length c0_1] 25 (0,0)) (by (with_reducible repeat (first|refine blk_drewN ?_ _|refine blk_drew ?_|refine blk_alloc ?_ _));exact BK208.out) hb);have n1_:=aMx20 (below_step (by repeat (first|(with_reducible first|exact HB.out|apply below_alloc|apply pw_below_drewN|apply below_drew1|refine below_set ?_ GE208.out)|exact HB.out)) hb);clear BK208;clear HB;have BK208:=n0_;have HB:=n1_;clear n0_ n1_;(try clear hb);(try clear hb2);(try clear hk);(try clear hi))|((with_reducible refine gate_callee (f:=13) rfl ?_);refine goesL_ (some 10) rfl rfl Tryd.func13 (by kernel_rfl) rfl #[] rfl (by (try simp only [List.map_toArray,List.map_cons,List.map_nil]);first|done|rfl|(simp only [List.length_drop,List.length_take];rfl)) ?_;(with_reducible refine (lapidarylaw10_known.calls  t210 _ ?sideG A4.out).mono ?_);(case sideG => exact Kd.C_below HG.out (by repeat (first|(with_reducible first|exact HB.out|apply below_alloc|apply pw_below_drewN|apply below_drew1|refine below_set ?_ GE208.out)|exact HB.out)));rintro e w8 ⟨rfl,hb⟩;refine ⟨_,rfl,?_⟩;have n0_:=aMx20 (blk_below (g:=gb208) (o:=.cells #[.slice A0_0 l0_0.length c0_0,.slice A0_1 l0_1.length c0_1] 25 (0,0)) (by (with_reducible repeat (first|refine blk_drewN ?_ _|refine blk_drew ?_|refine blk_alloc ?_ _));exact BK208.out) hb);have n1_:=aMx20 (below_step (by repeat (first|(with_reducible first|exact HB.out|apply below_alloc|apply pw_below_drewN|apply below_drew1|refine below_set ?_ GE208.out)|exact HB.out)) hb);clear BK208;clear HB;have BK208:=n0_;have HB:=n1_;clear n0_ n1_;(try clear hb);(try clear hb2);(try clear hk);(try clear hi)))
  go_ret
  exact ⟨by first | rfl | (simp [errW_none,errW_some]<;>rfl) | (simp [*,errW_none,errW_some]<;>rfl),by repeat (first | (with_reducible first | exact HB.out | apply below_alloc | apply pw_below_drewN | apply below_drew1 | refine below_set ?_ GE208.out) | exact HB.out)⟩
 ·replace c3:=Bool.eq_false_iff.mpr c3
  subst c3
  have H1 : ((mesh_Edges.f l0_0 l0_1).bind fun bt211 => ((mesh_Border.f l0_0 l0_1).bind fun bt215 => ((lapidaryref10_Check.f k l0_0 l0_1).bind fun t219 => (if bt211.2 = t219 then (lapidarylaw10_MeshEdges.j0 k bt211.1 bt215.1 t219 (bt215.2 != t219) l0_0 l0_1) else (lapidarylaw10_MeshEdges.j0 k bt211.1 bt215.1 t219 true l0_0 l0_1))))) = some r:=by rw [if_neg (show ¬ (false = true) by decide)] at H;exact H
  clear H
  have H:=H1
  clear H1
  replace H:=Option.bind_eq_some_iff.mp H
  obtain ⟨⟨t211,t214⟩,A90,H⟩:=H
  replace H : ((mesh_Border.f l0_0 l0_1).bind fun bt215 => ((lapidaryref10_Check.f k l0_0 l0_1).bind fun t219 => (if t214 = t219 then (lapidarylaw10_MeshEdges.j0 k t211 bt215.1 t219 (bt215.2 != t219) l0_0 l0_1) else (lapidarylaw10_MeshEdges.j0 k t211 bt215.1 t219 true l0_0 l0_1)))) = some r:=H
  have A9:=aMx20 A90
  clear A90
  replace H:=Option.bind_eq_some_iff.mp H
  obtain ⟨⟨t215,t218⟩,A100,H⟩:=H
  replace H : ((lapidaryref10_Check.f k l0_0 l0_1).bind fun t219 => (if t214 = t219 then (lapidarylaw10_MeshEdges.j0 k t211 t215 t219 (t218 != t219) l0_0 l0_1) else (lapidarylaw10_MeshEdges.j0 k t211 t215 t219 true l0_0 l0_1))) = some r:=H
  have A10:=aMx20 A100
  clear A100
  replace H:=Option.bind_eq_some_iff.mp H
  obtain ⟨t219,A110,H⟩:=H
  replace H : (if t214 = t219 then (lapidarylaw10_MeshEdges.j0 k t211 t215 t219 (t218 != t219) l0_0 l0_1) else (lapidarylaw10_MeshEdges.j0 k t211 t215 t219 true l0_0 l0_1)) = some r:=H
  have A11:=aMx20 A110
  clear A110
  have HC12:=aMx20 H
  clear H
  go_enter Tryd.func4,Tryd.ntmps4
  go_upto_region 6 with (first | ((with_reducible refine gate_dst (N:=1) rfl ?_);refine box_event ?hg (N:=1) ?hd (cs:=#[.slice A0_0 l0_0.length c0_0,.slice A0_1 l0_1.length c0_1]) (t:=25) ?hr ?_;(case hd => rfl);(case hg => rfl);(case hr => first | (go_simp;done) | (go_simp;rfl));intro gb208 hg w13 hbox hb;have n0_:=aMx20 (below_step (by repeat (first | (with_reducible first | exact HB.out | apply below_alloc | apply pw_below_drewN | apply below_drew1) | exact HB.out)) hb);have n1_:=aMx20 (hbox);have n2_:=aMx20 ((by rw [hg];exact (below_size (by repeat (first | (with_reducible first | exact HB.out | apply below_alloc | apply pw_below_drewN | apply below_drew1) | exact HB.out))) : w.heap.size ≤ gb208));have n3_:=aMx20 ((by rw [hg];exact (below_size (by repeat (first | (with_reducible first | exact HB.out | apply below_alloc | apply pw_below_drewN | apply below_drew1) | exact HB.out))) : w.heap.size ≤ gb208));clear HB;have HB:=n0_;have BK208:=n1_;have GW208:=n2_;have GE208:=n3_;clear n0_ n1_ n2_ n3_;clear hb hbox hg;have hcz14_0 : w13.cell? ⟨gb208,0,none⟩ = some (.slice A0_0 l0_0.length c0_0):=(blk_cell BK208.out 0).trans rfl;have hcz14_1 : w13.cell? ⟨gb208,1,none⟩ = some (.slice A0_1 l0_1.length c0_1):=(blk_cell BK208.out 1).trans rfl;have hfz14_0:=blk_frozen BK208.out 0;have hfz14_1:=blk_frozen BK208.out 1) | ((with_reducible refine gate_callee (f:=12) rfl ?_);refine goesL_ (some 9) rfl rfl Tryd.func12 (by kernel_rfl) rfl #[.agg #[.slice A0_0 l0_0.length c0_0,.slice A0_1 l0_1.length c0_1]] rfl (by (try simp only [List.map_toArray,List.map_cons,List.map_nil]);first | done | rfl | (simp only [List.length_drop,List.length_take];rfl)) ?_;(with_reducible refine (lapidarylaw10_long.calls _ _ l0_0 _ _ l0_1 false _ ?side1 ?side2 ?side3 ?side4 A2.out).mono ?_);(case side1 => repeat (first | exact (Kd.C_below HR0_0.out HB.out) | (with_reducible refine Kd.C_alloc ?_ _) | (with_reducible refine Kd.C_drewN ?_ _) | (with_reducible refine Kd.C_drew ?_)));(case side2 => exact HC0_0.out);(case side3 => repeat (first | exact (Kd.C_below HR0_1.out HB.out) | (with_reducible refine Kd.C_alloc ?_ _) | (with_reducible refine Kd.C_drewN ?_ _) | (with_reducible refine Kd.C_drew ?_)));(case side4 => exact HC0_1.out);rintro e w15 ⟨rfl,hb⟩;refine ⟨_,rfl,?_⟩;have n0_:=aMx20 (blk_below (g:=gb208) (o:=.cells #[.slice A0_0 l0_0.length c0_0,.slice A0_1 l0_1.length c0_1] 25 (0,0)) (by (with_reducible repeat (first | refine blk_drewN ?_ _ | refine blk_drew ?_ | refine blk_alloc ?_ _));exact BK208.out) hb);have n1_:=aMx20 (below_step (by repeat (first | (with_reducible first | exact HB.out | apply below_alloc | apply pw_below_drewN | apply below_drew1 | refine below_set ?_ GE208.out) | exact HB.out)) hb);clear BK208;clear HB;have BK208:=n0_;have HB:=n1_;clear n0_ n1_;(try clear hb);(try clear hb2);(try clear hk);(try clear hi);have hcz16_0 : w15.cell? ⟨gb208,0,none⟩ = some (.slice A0_0 l0_0.length c0_0):=(blk_cell BK208.out 0).trans rfl;have hcz16_1 : w15.cell? ⟨gb208,1,none⟩ = some (.slice A0_1 l0_1.length c0_1):=(blk_cell BK208.out 1).trans rfl;have hfz16_0:=blk_frozen BK208.out 0;have hfz16_1:=blk_frozen BK208.out 1) | ((with_reducible refine gate_callee (f:=16) rfl ?_);refine goesL_ (some 13) rfl rfl Tryd.func16 (by kernel_rfl) rfl #[.agg #[.slice A0_0 l0_0.length c0_0,.slice A0_1 l0_1.length c0_1]] rfl (by (try simp only [List.map_toArray,List.map_cons,List.map_nil]);first | done | rfl | (simp only [List.length_drop,List.length_take];rfl)) ?_;(with_reducible refine (mesh_Edges.calls _ _ l0_0 _ _ l0_1 t211 t214 _ ?side1 ?side2 ?side3 ?side4 ?sideG A9.out).mono ?_);(case sideG => exact Kd.C_below HG.out (by repeat (first | (with_reducible first | exact HB.out | apply below_alloc | apply pw_below_drewN | apply below_drew1 | refine below_set ?_ GE208.out) | exact HB.out)));(case side1 => repeat (first | exact (Kd.C_below HR0_0.out HB.out) | (with_reducible refine Kd.C_alloc ?_ _) | (with_reducible refine Kd.C_drewN ?_ _) | (with_reducible refine Kd.C_drew ?_)));(case side2 => exact HC0_0.out);(case side3 => repeat (first | exact (Kd.C_below HR0_1.out HB.out) | (with_reducible refine Kd.C_alloc ?_ _) | (with_reducible refine Kd.C_drewN ?_ _) | (with_reducible refine Kd.C_drew ?_)));(case side4 => exact HC0_1.out);rintro e w17 ⟨v212,rfl,ho0,hb⟩;refine ⟨_,rfl,?_⟩;have n0_:=aMx20 (Kd.R_lower ho0 (below_size (by repeat (first | (with_reducible first | exact HB.out | apply below_alloc | apply pw_below_drewN | apply below_drew1 | refine below_set ?_ GE208.out) | exact HB.out))));have n1_:=aMx20 (blk_below (g:=gb208) (o:=.cells #[.slice A0_0 l0_0.length c0_0,.slice A0_1 l0_1.length c0_1] 25 (0,0)) (by (with_reducible repeat (first | refine blk_drewN ?_ _ | refine blk_drew ?_ | refine blk_alloc ?_ _));exact BK208.out) hb);have n2_:=aMx20 (below_step (by repeat (first | (with_reducible first | exact HB.out | apply below_alloc | apply pw_below_drewN | apply below_drew1 | refine below_set ?_ GE208.out) | exact HB.out)) hb);clear BK208;clear HB;have HO213:=n0_;have BK208:=n1_;have HB:=n2_;clear n0_ n1_ n2_;(try clear hb);(try clear hb2);(try clear hk);(try clear hi);(try clear ho0);have hcz18_0 : w17.cell? ⟨gb208,0,none⟩ = some (.slice A0_0 l0_0.length c0_0):=(blk_cell BK208.out 0).trans rfl;have hcz18_1 : w17.cell? ⟨gb208,1,none⟩ = some (.slice A0_1 l0_1.length c0_1):=(blk_cell BK208.out 1).trans rfl;have hfz18_0:=blk_frozen BK208.out 0;have hfz18_1:=blk_frozen BK208.out 1) | ((with_reducible refine gate_callee (f:=17) rfl ?_);refine goesL_ (some 18) rfl rfl Tryd.func17 (by kernel_rfl) rfl #[.agg #[.slice A0_0 l0_0.length c0_0,.slice A0_1 l0_1.length c0_1]] rfl (by (try simp only [List.map_toArray,List.map_cons,List.map_nil]);first | done | rfl | (simp only [List.length_drop,List.length_take];rfl)) ?_;(with_reducible refine (mesh_Border.calls _ _ l0_0 _ _ l0_1 t215 t218 _ ?side1 ?side2 ?side3 ?side4 ?sideG A10.out).mono ?_);(case sideG => exact Kd.C_below HG.out (by repeat (first | (with_reducible first | exact HB.out | apply below_alloc | apply pw_below_drewN | apply below_drew1 | refine below_set ?_ GE208.out) | exact HB.out)));(case side1 => repeat (first | exact (Kd.C_below HR0_0.out HB.out) | (with_reducible refine Kd.C_alloc ?_ _) | (with_reducible refine Kd.C_drewN ?_ _) | (with_reducible refine Kd.C_drew ?_)));(case side2 => exact HC0_0.out);(case side3 => repeat (first | exact (Kd.C_below HR0_1.out HB.out) | (with_reducible refine Kd.C_alloc ?_ _) | (with_reducible refine Kd.C_drewN ?_ _) | (with_reducible refine Kd.C_drew ?_)));(case side4 => exact HC0_1.out);rintro e w19 ⟨v216,rfl,ho0,hb⟩;refine ⟨_,rfl,?_⟩;have n0_:=aMx20 (Kd.R_elder' (by (with_reducible repeat (first | apply Kd.R_alloc | apply Kd.R_drewN | apply Kd.R_drew));exact HO213.out) (Kd.R_base ho0) hb);have n1_:=aMx20 (Kd.R_lower (Kd.R_new' ho0 (Kd.R_lt (by (with_reducible repeat (first | apply Kd.R_alloc | apply Kd.R_drewN | apply Kd.R_drew));exact HO213.out))) (below_size (by repeat (first | (with_reducible first | exact HB.out | apply below_alloc | apply pw_below_drewN | apply below_drew1 | refine below_set ?_ GE208.out) | exact HB.out))));have n2_:=aMx20 (blk_below (g:=gb208) (o:=.cells #[.slice A0_0 l0_0.length c0_0,.slice A0_1 l0_1.length c0_1] 25 (0,0)) (by (with_reducible repeat (first | refine blk_drewN ?_ _ | refine blk_drew ?_ | refine blk_alloc ?_ _));exact BK208.out) hb);have n3_:=aMx20 (below_step (by repeat (first | (with_reducible first | exact HB.out | apply below_alloc | apply pw_below_drewN | apply below_drew1 | refine below_set ?_ GE208.out) | exact HB.out)) hb);clear HO213;clear BK208;clear HB;have HO213:=n0_;have HO217:=n1_;have BK208:=n2_;have HB:=n3_;clear n0_ n1_ n2_ n3_;(try clear hb);(try clear hb2);(try clear hk);(try clear hi);(try clear ho0);have hcz20_0 : w19.cell? ⟨gb208,0,none⟩ = some (.slice A0_0 l0_0.length c0_0):=(blk_cell BK208.out 0).trans rfl;have hcz20_1 : w19.cell? ⟨gb208,1,none⟩ = some (.slice A0_1 l0_1.length c0_1):=(blk_cell BK208.out 1).trans rfl;have hfz20_0:=blk_frozen BK208.out 0;have hfz20_1:=blk_frozen BK208.out 1) | ((with_reducible refine gate_callee (f:=15) rfl ?_);refine goesL_ (some 22) rfl rfl Tryd.func15 (by kernel_rfl) rfl #[.agg #[.slice A0_0 l0_0.length c0_0,.slice A0_1 l0_1.length c0_1]] rfl (by (try simp only [List.map_toArray,List.map_cons,List.map_nil]);first | done | rfl | (simp only [List.length_drop,List.length_take];rfl)) ?_;(with_reducible refine (lapidaryref10_Check.calls k _ _ l0_0 _ _ l0_1 t219 _ ?side1 ?side2 ?side3 ?side4 A11.out).mono ?_);(case side1 => repeat (first | exact (Kd.C_below HR0_0.out HB.out) | (with_reducible refine Kd.C_alloc ?_ _) | (with_reducible refine Kd.C_drewN ?_ _) | (with_reducible refine Kd.C_drew ?_)));(case side2 => exact HC0_0.out);(case side3 => repeat (first | exact (Kd.C_below HR0_1.out HB.out) | (with_reducible refine Kd.C_alloc ?_ _) | (with_reducible refine Kd.C_drewN ?_ _) | (with_reducible refine Kd.C_drew ?_)));(case side4 => exact HC0_1.out);rintro e w21 ⟨rfl,hb⟩;refine ⟨_,rfl,?_⟩;have n0_:=aMx20 (Kd.R_below (by (with_reducible repeat (first | apply Kd.R_alloc | apply Kd.R_drewN | apply Kd.R_drew));exact HO213.out) hb);have n1_:=aMx20 (Kd.R_below (by (with_reducible repeat (first | apply Kd.R_alloc | apply Kd.R_drewN | apply Kd.R_drew));exact HO217.out) hb);have n2_:=aMx20 (blk_below (g:=gb208) (o:=.cells #[.slice A0_0 l0_0.length c0_0,.slice A0_1 l0_1.length c0_1] 25 (0,0)) (by (with_reducible repeat (first | refine blk_drewN ?_ _ | refine blk_drew ?_ | refine blk_alloc ?_ _));exact BK208.out) hb);have n3_:=aMx20 (below_step (by repeat (first | (with_reducible first | exact HB.out | apply below_alloc | apply pw_below_drewN | apply below_drew1 | refine below_set ?_ GE208.out) | exact HB.out)) hb);clear HO213;clear HO217;clear BK208;clear HB;have HO213:=n0_;have HO217:=n1_;have BK208:=n2_;have HB:=n3_;clear n0_ n1_ n2_ n3_;(try clear hb);(try clear hb2);(try clear hk);(try clear hi)))
  (try simp only [Act.put,sAx20,sBx20,sCx20])
  go_cut [30] (fun v30 wc => ∃ (kq : Nat) (x30_11 : Bool),v30 = .bool x30_11 ∧ Aside0 (lapidarylaw10_MeshEdges.j0 kq t211 t215 t219 x30_11 l0_0 l0_1 = some r) ∧ Aside0 (kq ≤ k) ∧ Aside0 (Kd.R k52 52 wc w.heap.size (fun k_ => some k_ ≠ (v216 : Value).ownBlock) v212 t211) ∧ Aside0 (Kd.R k52 52 wc w.heap.size (fun k_ => some k_ ≠ (v212 : Value).ownBlock) v216 t215) ∧ Aside0 (wc.heap[gb208]? = some (.cells #[(.slice A0_0 l0_0.length c0_0),(.slice A0_1 l0_1.length c0_1)] 25 (0,0))) ∧ Aside0 (Below w.heap.size w wc))
  case first =>
   have H:=HC12.out
   clear HC12
   by_cases c22 : t214 = t219
   ·rw [if_pos c22] at H
    have c22b0 : (t214 == t219) = true:=beq_iff_eq.mpr c22
    have c22b1 : (t214 != t219) = false:=bne_eq_false_iff_eq.mpr c22
    clear c22
    (first | rw [c22b0] | (simp only [i64_w,i32_w];rw [c22b0]) | skip)
    have H':=aMx20 H
    clear H
    go_wp2
    go_meet
    case rel => exact ⟨_,((t218 != t219)),(by first | rfl | (simp;done) | (simp [*];done) | (simp [wrap64];done)),H',⟨by first | omega | exact Nat.le_refl _⟩,⟨by (with_reducible repeat (first | apply Kd.R_alloc | apply Kd.R_drewN | apply Kd.R_drew));exact Kd.R_mono HO213.out (fun _ hk => hk.2)⟩,⟨by (with_reducible repeat (first | apply Kd.R_alloc | apply Kd.R_drewN | apply Kd.R_drew));exact Kd.R_mono HO217.out (fun _ hk => hk.2)⟩,⟨by (with_reducible repeat (first | refine blk_drewN ?_ _ | refine blk_drew ?_ | refine blk_alloc ?_ _));exact BK208.out⟩,⟨by repeat (first | (with_reducible first | exact HB.out | apply below_alloc | apply pw_below_drewN | apply below_drew1 | refine below_set ?_ GE208.out) | exact HB.out)⟩⟩
   ·rw [if_neg c22] at H
    have c22b0 : (t214 == t219) = false:=beq_eq_false_iff_ne.mpr c22
    have c22b1 : (t214 != t219) = true:=bne_iff_ne.mpr c22
    (first | rw [c22b0] | (simp only [i64_w,i32_w];rw [c22b0]) | skip)
    have H':=aMx20 H
    clear H
    go_wp2
    go_meet
    case rel => exact ⟨_,(true),(by first | rfl | (simp;done) | (simp [*];done) | (simp [wrap64];done)),H',⟨by first | omega | exact Nat.le_refl _⟩,⟨by (with_reducible repeat (first | apply Kd.R_alloc | apply Kd.R_drewN | apply Kd.R_drew));exact Kd.R_mono HO213.out (fun _ hk => hk.2)⟩,⟨by (with_reducible repeat (first | apply Kd.R_alloc | apply Kd.R_drewN | apply Kd.R_drew));exact Kd.R_mono HO217.out (fun _ hk => hk.2)⟩,⟨by (with_reducible repeat (first | refine blk_drewN ?_ _ | refine blk_drew ?_ | refine blk_alloc ?_ _));exact BK208.out⟩,⟨by repeat (first | (with_reducible first | exact HB.out | apply below_alloc | apply pw_below_drewN | apply below_drew1 | refine below_set ?_ GE208.out) | exact HB.out)⟩⟩
  case rest =>
   clear HC12
   (try clear c1);(try clear c2);(try clear p2);(try clear c3);(try clear c4);(try clear c12);(try clear c13);(try clear c15);(try clear c16);(try clear c17);(try clear c22);(try clear c22b0);(try clear c22b1);(try clear hcz14_0);(try clear hcz14_1);(try clear hcz16_0);(try clear hcz16_1);(try clear hcz18_0);(try clear hcz18_1);(try clear hcz20_0);(try clear hcz20_1);(try clear hcz6_0);(try clear hcz6_1);(try clear hfz14_0);(try clear hfz14_1);(try clear hfz16_0);(try clear hfz16_1);(try clear hfz18_0);(try clear hfz18_1);(try clear hfz20_0);(try clear hfz20_1);(try clear hfz6_0);(try clear hfz6_1)
   obtain ⟨kq,x30_11,rfl,HA,HJ11,HO_3,HO_5,BK208,HB⟩:=hcut
   cases kq with
   | zero => exact absurd HA.out (by simp [lapidarylaw10_MeshEdges.j0])
   | succ kj11 =>
    have H:=HA.out
    clear HA
    simp only [lapidarylaw10_MeshEdges.j0] at H
    by_cases c23 : x30_11 = true
    ·subst c23
     have H1 : (some false) = some r:=by rw [if_pos rfl] at H;exact H
     exact absurd (Option.some.inj H1) (by rw [HRT.out];decide)
    ·replace c23:=Bool.eq_false_iff.mpr c23
     subst c23
     have H1 : (if t219 = 0 then ((lapidaryref10_Edges.f kj11 l0_0 l0_1 false).bind fun t221 => ((lapidaryref10_SameEdges.f kj11 t211 t221).bind fun t224 => (if t224 = true then ((lapidaryref10_Edges.f kj11 l0_0 l0_1 true).bind fun t225 => ((lapidaryref10_SameEdges.f kj11 t215 t225).bind fun t228 => (if t228 = true then ((lapidarylaw10_known.f).bind fun t229 => (some t229)) else (some false)))) else (some false)))) else (if (wrap64 ((t211.length : Int)+(t215.length : Int))) = 0 then ((lapidarylaw10_known.f).bind fun t220 => (some t220)) else (some false))) = some r:=by rw [if_neg (show ¬ (false = true) by decide)] at H;exact H
     clear H
     have H:=H1
     clear H1
     by_cases c24 : t219 = 0
     ·rw [if_pos c24] at H
      have c24b0 : (t219 == 0) = true:=beq_iff_eq.mpr c24
      have c24b1 : (t219 != 0) = false:=bne_eq_false_iff_eq.mpr c24
      clear c24
      replace H:=Option.bind_eq_some_iff.mp H
      obtain ⟨t221,A250,H⟩:=H
      replace H : ((lapidaryref10_SameEdges.f kj11 t211 t221).bind fun t224 => (if t224 = true then ((lapidaryref10_Edges.f kj11 l0_0 l0_1 true).bind fun t225 => ((lapidaryref10_SameEdges.f kj11 t215 t225).bind fun t228 => (if t228 = true then ((lapidarylaw10_known.f).bind fun t229 => (some t229)) else (some false)))) else (some false))) = some r:=H
      have A25:=aMx20 A250
      clear A250
      replace H:=Option.bind_eq_some_iff.mp H
      obtain ⟨t224,A260,H⟩:=H
      replace H : (if t224 = true then ((lapidaryref10_Edges.f kj11 l0_0 l0_1 true).bind fun t225 => ((lapidaryref10_SameEdges.f kj11 t215 t225).bind fun t228 => (if t228 = true then ((lapidarylaw10_known.f).bind fun t229 => (some t229)) else (some false)))) else (some false)) = some r:=H
      have A26:=aMx20 A260
      clear A260
      by_cases c27 : t224 = true
      ·subst c27
       have H1 : ((lapidaryref10_Edges.f kj11 l0_0 l0_1 true).bind fun t225 => ((lapidaryref10_SameEdges.f kj11 t215 t225).bind fun t228 => (if t228 = true then ((lapidarylaw10_known.f).bind fun t229 => (some t229)) else (some false)))) = some r:=by rw [if_pos rfl] at H;exact H
       clear H
       have H:=H1
       clear H1
       replace H:=Option.bind_eq_some_iff.mp H
       obtain ⟨t225,A280,H⟩:=H
       replace H : ((lapidaryref10_SameEdges.f kj11 t215 t225).bind fun t228 => (if t228 = true then ((lapidarylaw10_known.f).bind fun t229 => (some t229)) else (some false))) = some r:=H
       have A28:=aMx20 A280
       clear A280
       replace H:=Option.bind_eq_some_iff.mp H
       obtain ⟨t228,A290,H⟩:=H
       replace H : (if t228 = true then ((lapidarylaw10_known.f).bind fun t229 => (some t229)) else (some false)) = some r:=H
       have A29:=aMx20 A290
       clear A290
       by_cases c30 : t228 = true
       ·subst c30
        have H1 : ((lapidarylaw10_known.f).bind fun t229 => (some t229)) = some r:=by rw [if_pos rfl] at H;exact H
        clear H
        have H:=H1
        clear H1
        replace H:=Option.bind_eq_some_iff.mp H
        obtain ⟨t229,A310,H⟩:=H
        replace H : (some t229) = some r:=H
        have A31:=aMx20 A310
        clear A310
        obtain rfl:=Option.some.inj H
        have hcz32_0 : wc.cell? ⟨gb208,0,none⟩ = some (.slice A0_0 l0_0.length c0_0):=(blk_cell BK208.out 0).trans rfl
        have hcz32_1 : wc.cell? ⟨gb208,1,none⟩ = some (.slice A0_1 l0_1.length c0_1):=(blk_cell BK208.out 1).trans rfl
        have hfz32_0:=blk_frozen BK208.out 0
        have hfz32_1:=blk_frozen BK208.out 1
        go_wp2_with (first|((with_reducible refine gate_callee (f:=19) rfl ?_);refine goesL_ (some 44) rfl rfl Tryd.func19 (by kernel_rfl) rfl #[.agg #[.slice A0_0 l0_0.length c0_0,.slice A0_1 l0_1.length c0_1],.bool false] rfl (by (try simp only [List.map_toArray,List.map_cons,List.map_nil]);first|done|rfl|(simp only [List.length_drop,List.length_take];rfl)) ?_;(with_reducible refine (lapidaryref10_Edges.calls kj11 _ _ l0_0 _ _ l0_1 false t221 _ ?side1 ?side2 ?side3 ?side4 A25.out).mono ?_);(case side1 => repeat (first|exact (Kd.C_below HR0_0.out HB.out)|(with_reducible first|refine Kd.C_alloc ?_ _|refine Kd.C_drewN ?_ _|refine Kd.C_drew ?_)));(case side2 => exact HC0_0.out);(case side3 => repeat (first|exact (Kd.C_below HR0_1.out HB.out)|(with_reducible first|refine Kd.C_alloc ?_ _|refine Kd.C_drewN ?_ _|refine Kd.C_drew ?_)));(case side4 => exact HC0_1.out);rintro e w33 ⟨v222,rfl,ho0,hb⟩;refine ⟨_,rfl,?_⟩;have n0_:=aMx20 (Kd.R_elder' (by (with_reducible repeat (first|apply Kd.R_alloc|apply Kd.R_drewN|apply Kd.R_drew));exact HO_3.out) (Kd.R_base ho0) hb);have n1_:=aMx20 (Kd.R_elder' (by (with_reducible repeat (first|apply Kd.R_alloc|apply Kd.R_drewN|apply Kd.R_drew));exact HO_5.out) (Kd.R_base ho0) hb);have n2_:=aMx20 (Kd.R_lower (Kd.R_new' (Kd.R_new' ho0 (Kd.R_lt (by (with_reducible repeat (first|apply Kd.R_alloc|apply Kd.R_drewN|apply Kd.R_drew));exact HO_3.out))) (Kd.R_lt (by (with_reducible repeat (first|apply Kd.R_alloc|apply Kd.R_drewN|apply Kd.R_drew));exact HO_5.out))) (below_size (by repeat (first|(with_reducible first|exact HB.out|apply below_alloc|apply pw_below_drewN|apply below_drew1|refine below_set ?_ GE208.out)|exact HB.out))));have n3_:=aMx20 (blk_below (g:=gb208) (o:=.cells #[.slice A0_0 l0_0.length c0_0,.slice A0_1 l0_1.length c0_1] 25 (0,0)) (by (with_reducible repeat (first|refine blk_drewN ?_ _|refine blk_drew ?_|refine blk_alloc ?_ _));exact BK208.out) hb);have n4_:=aMx20 (below_step (by repeat (first|(with_reducible first|exact HB.out|apply below_alloc|apply pw_below_drewN|apply below_drew1|refine below_set ?_ GE208.out)|exact HB.out)) hb);clear HO_3;clear HO_5;clear BK208;clear HB;have HO_3:=n0_;have HO_5:=n1_;have HO223:=n2_;have BK208:=n3_;have HB:=n4_;clear n0_ n1_ n2_ n3_ n4_;(try clear hb);(try clear hb2);(try clear hk);(try clear hi);(try clear ho0);obtain ⟨Ao34,co34,eo34⟩:=Kd.R_slice HO_3.out;subst eo34;obtain ⟨Ao35,co35,eo35⟩:=Kd.R_slice HO223.out;subst eo35)|((with_reducible refine gate_callee (f:=18) rfl ?_);refine goesL_ (some 45) rfl rfl Tryd.func18 (by kernel_rfl) rfl #[.slice Ao34 t211.length co34,.slice Ao35 t221.length co35] rfl (by (try simp only [List.map_toArray,List.map_cons,List.map_nil]);first|done|rfl|(simp only [List.length_drop,List.length_take];rfl)) ?_;(with_reducible refine (lapidaryref10_SameEdges.calls kj11 _ _ t211 _ _ t221 true _ ?side1 ?side2 ?side3 ?side4 A26.out).mono ?_);(case side1 => repeat (first|exact (Kd.R_reads' HO_3.out).2.2|(with_reducible first|refine Kd.C_alloc ?_ _|refine Kd.C_drewN ?_ _|refine Kd.C_drew ?_)));(case side2 => exact (Kd.R_reads' HO_3.out).2.1);(case side3 => repeat (first|exact (Kd.R_reads' HO223.out).2.2|(with_reducible first|refine Kd.C_alloc ?_ _|refine Kd.C_drewN ?_ _|refine Kd.C_drew ?_)));(case side4 => exact (Kd.R_reads' HO223.out).2.1);rintro e w' ⟨rfl,⟨nd,rfl⟩⟩;refine ⟨_,rfl,?_⟩;have hcz36_0 : w33.cell? ⟨gb208,0,none⟩ = some (.slice A0_0 l0_0.length c0_0):=(blk_cell BK208.out 0).trans rfl;have hcz36_1 : w33.cell? ⟨gb208,1,none⟩ = some (.slice A0_1 l0_1.length c0_1):=(blk_cell BK208.out 1).trans rfl;have hfz36_0:=blk_frozen BK208.out 0;have hfz36_1:=blk_frozen BK208.out 1)|(go_at_call 19;(with_reducible refine (lapidaryref10_Edges.calls kj11 _ _ l0_0 _ _ l0_1 true t225 _ ?side1 ?side2 ?side3 ?side4 A28.out).mono ?_);(case side1 => repeat (first|exact (Kd.C_below HR0_0.out (by repeat (first|(with_reducible first|exact HB.out|apply below_alloc|apply pw_below_drewN|apply below_drew1|refine below_set ?_ GE208.out)|exact HB.out)))|(with_reducible first|refine Kd.C_alloc ?_ _|refine Kd.C_drewN ?_ _|refine Kd.C_drew ?_)));(case side2 => exact HC0_0.out);(case side3 => repeat (first|exact (Kd.C_below HR0_1.out (by repeat (first|(with_reducible first|exact HB.out|apply below_alloc|apply pw_below_drewN|apply below_drew1|refine below_set ?_ GE208.out)|exact HB.out)))|(with_reducible first|refine Kd.C_alloc ?_ _|refine Kd.C_drewN ?_ _|refine Kd.C_drew ?_)));(case side4 => exact HC0_1.out);rintro e w37 ⟨v226,rfl,ho0,hb⟩;have n0_:=aMx20 (Kd.R_elder' (by (with_reducible repeat (first|apply Kd.R_alloc|apply Kd.R_drewN|apply Kd.R_drew));exact HO_3.out) (Kd.R_base ho0) hb);have n1_:=aMx20 (Kd.R_elder' (by (with_reducible repeat (first|apply Kd.R_alloc|apply Kd.R_drewN|apply Kd.R_drew));exact HO_5.out) (Kd.R_base ho0) hb);have n2_:=aMx20 (Kd.R_elder' (by (with_reducible repeat (first|apply Kd.R_alloc|apply Kd.R_drewN|apply Kd.R_drew));exact HO223.out) (Kd.R_base ho0) hb);have n3_:=aMx20 (Kd.R_lower (Kd.R_new' (Kd.R_new' (Kd.R_new' ho0 (Kd.R_lt (by (with_reducible repeat (first|apply Kd.R_alloc|apply Kd.R_drewN|apply Kd.R_drew));exact HO_3.out))) (Kd.R_lt (by (with_reducible repeat (first|apply Kd.R_alloc|apply Kd.R_drewN|apply Kd.R_drew));exact HO_5.out))) (Kd.R_lt (by (with_reducible repeat (first|apply Kd.R_alloc|apply Kd.R_drewN|apply Kd.R_drew));exact HO223.out))) (below_size (by repeat (first|(with_reducible first|exact HB.out|apply below_alloc|apply pw_below_drewN|apply below_drew1|refine below_set ?_ GE208.out)|exact HB.out))));have n4_:=aMx20 (blk_below (g:=gb208) (o:=.cells #[.slice A0_0 l0_0.length c0_0,.slice A0_1 l0_1.length c0_1] 25 (0,0)) (by (with_reducible repeat (first|refine blk_drewN ?_ _|refine blk_drew ?_|refine blk_alloc ?_ _));exact BK208.out) hb);have n5_:=aMx20 (below_step (by repeat (first|(with_reducible first|exact HB.out|apply below_alloc|apply pw_below_drewN|apply below_drew1|refine below_set ?_ GE208.out)|exact HB.out)) hb);clear HO_3;clear HO_5;clear HO223;clear BK208;clear HB;have HO_3:=n0_;have HO_5:=n1_;have HO223:=n2_;have HO227:=n3_;have BK208:=n4_;have HB:=n5_;clear n0_ n1_ n2_ n3_ n4_ n5_;(try clear hb);(try clear hb2);(try clear hk);(try clear hi);(try clear ho0);obtain ⟨Ao38,co38,eo38⟩:=Kd.R_slice HO_5.out;subst eo38;obtain ⟨Ao39,co39,eo39⟩:=Kd.R_slice HO227.out;subst eo39)|(go_at_call 18;(with_reducible refine (lapidaryref10_SameEdges.calls kj11 _ _ t215 _ _ t225 true _ ?side1 ?side2 ?side3 ?side4 A29.out).mono ?_);(case side1 => repeat (first|exact (Kd.R_reads' HO_5.out).2.2|(with_reducible first|refine Kd.C_alloc ?_ _|refine Kd.C_drewN ?_ _|refine Kd.C_drew ?_)));(case side2 => exact (Kd.R_reads' HO_5.out).2.1);(case side3 => repeat (first|exact (Kd.R_reads' HO227.out).2.2|(with_reducible first|refine Kd.C_alloc ?_ _|refine Kd.C_drewN ?_ _|refine Kd.C_drew ?_)));(case side4 => exact (Kd.R_reads' HO227.out).2.1);rintro e w' ⟨rfl,⟨nd,rfl⟩⟩)|(go_at_call 13;(with_reducible refine (lapidarylaw10_known.calls  t229 _ ?sideG A31.out).mono ?_);(case sideG => exact Kd.C_below HG.out (by repeat (first|(with_reducible first|exact HB.out|apply below_alloc|apply pw_below_drewN|apply below_drew1|refine below_set ?_ GE208.out)|exact HB.out)));rintro e w40 ⟨rfl,hb⟩;have n0_:=aMx20 (Kd.R_below (by (with_reducible repeat (first|apply Kd.R_alloc|apply Kd.R_drewN|apply Kd.R_drew));exact HO_3.out) hb);have n1_:=aMx20 (Kd.R_below (by (with_reducible repeat (first|apply Kd.R_alloc|apply Kd.R_drewN|apply Kd.R_drew));exact HO_5.out) hb);have n2_:=aMx20 (Kd.R_below (by (with_reducible repeat (first|apply Kd.R_alloc|apply Kd.R_drewN|apply Kd.R_drew));exact HO223.out) hb);have n3_:=aMx20 (Kd.R_below (by (with_reducible repeat (first|apply Kd.R_alloc|apply Kd.R_drewN|apply Kd.R_drew));exact HO227.out) hb);have n4_:=aMx20 (blk_below (g:=gb208) (o:=.cells #[.slice A0_0 l0_0.length c0_0,.slice A0_1 l0_1.length c0_1] 25 (0,0)) (by (with_reducible repeat (first|refine blk_drewN ?_ _|refine blk_drew ?_|refine blk_alloc ?_ _));exact BK208.out) hb);have n5_:=aMx20 (below_step (by repeat (first|(with_reducible first|exact HB.out|apply below_alloc|apply pw_below_drewN|apply below_drew1|refine below_set ?_ GE208.out)|exact HB.out)) hb);clear HO_3;clear HO_5;clear HO223;clear HO227;clear BK208;clear HB;have HO_3:=n0_;have HO_5:=n1_;have HO223:=n2_;have HO227:=n3_;have BK208:=n4_;have HB:=n5_;clear n0_ n1_ n2_ n3_ n4_ n5_;(try clear hb);(try clear hb2);(try clear hk);(try clear hi)))
        go_ret
        exact ⟨by first | rfl | (simp [errW_none,errW_some]<;>rfl) | (simp [*,errW_none,errW_some]<;>rfl),by repeat (first | (with_reducible first | exact HB.out | apply below_alloc | apply pw_below_drewN | apply below_drew1 | refine below_set ?_ GE208.out) | exact HB.out)⟩
       ·replace c30:=Bool.eq_false_iff.mpr c30
        subst c30
        have H1 : (some false) = some r:=by rw [if_neg (show ¬ (false = true) by decide)] at H;exact H
        exact absurd (Option.some.inj H1) (by rw [HRT.out];decide)
      ·replace c27:=Bool.eq_false_iff.mpr c27
       subst c27
       have H1 : (some false) = some r:=by rw [if_neg (show ¬ (false = true) by decide)] at H;exact H
       exact absurd (Option.some.inj H1) (by rw [HRT.out];decide)
     ·rw [if_neg c24] at H
      have c24b0 : (t219 == 0) = false:=beq_eq_false_iff_ne.mpr c24
      have c24b1 : (t219 != 0) = true:=bne_iff_ne.mpr c24
      by_cases c53 : (wrap64 ((t211.length : Int)+(t215.length : Int))) = 0
      ·rw [if_pos c53] at H
       have c53b0 : ((wrap64 ((t211.length : Int)+(t215.length : Int))) == 0) = true:=beq_iff_eq.mpr c53
       have c53b1 : ((wrap64 ((t211.length : Int)+(t215.length : Int))) != 0) = false:=bne_eq_false_iff_eq.mpr c53
       clear c53
       replace H:=Option.bind_eq_some_iff.mp H
       obtain ⟨t220,A540,H⟩:=H
       replace H : (some t220) = some r:=H
       have A54:=aMx20 A540
       clear A540
       obtain rfl:=Option.some.inj H
       obtain ⟨Ao55,co55,eo55⟩:=Kd.R_slice HO_3.out
       subst eo55
       obtain ⟨Ao56,co56,eo56⟩:=Kd.R_slice HO_5.out
       subst eo56
       go_wp2_with (first|(go_at_call 13;(with_reducible refine (lapidarylaw10_known.calls  t220 _ ?sideG A54.out).mono ?_);(case sideG => exact Kd.C_below HG.out (by repeat (first|(with_reducible first|exact HB.out|apply below_alloc|apply pw_below_drewN|apply below_drew1|refine below_set ?_ GE208.out)|exact HB.out)));rintro e w57 ⟨rfl,hb⟩;have n0_:=aMx20 (Kd.R_below (by (with_reducible repeat (first|apply Kd.R_alloc|apply Kd.R_drewN|apply Kd.R_drew));exact HO_3.out) hb);have n1_:=aMx20 (Kd.R_below (by (with_reducible repeat (first|apply Kd.R_alloc|apply Kd.R_drewN|apply Kd.R_drew));exact HO_5.out) hb);have n2_:=aMx20 (blk_below (g:=gb208) (o:=.cells #[.slice A0_0 l0_0.length c0_0,.slice A0_1 l0_1.length c0_1] 25 (0,0)) (by (with_reducible repeat (first|refine blk_drewN ?_ _|refine blk_drew ?_|refine blk_alloc ?_ _));exact BK208.out) hb);have n3_:=aMx20 (below_step (by repeat (first|(with_reducible first|exact HB.out|apply below_alloc|apply pw_below_drewN|apply below_drew1|refine below_set ?_ GE208.out)|exact HB.out)) hb);clear HO_3;clear HO_5;clear BK208;clear HB;have HO_3:=n0_;have HO_5:=n1_;have BK208:=n2_;have HB:=n3_;clear n0_ n1_ n2_ n3_;(try clear hb);(try clear hb2);(try clear hk);(try clear hi)))
       go_ret
       exact ⟨by first | rfl | (simp [errW_none,errW_some]<;>rfl) | (simp [*,errW_none,errW_some]<;>rfl),by repeat (first | (with_reducible first | exact HB.out | apply below_alloc | apply pw_below_drewN | apply below_drew1 | refine below_set ?_ GE208.out) | exact HB.out)⟩
      ·rw [if_neg c53] at H
       exact absurd (Option.some.inj H) (by rw [HRT.out];decide)
end Go.Proofs.YtckemiefcdpofaaDoor.PMsr
