import Derived.Test.YtomknjmgcbbjlaaDoorPWlkx0
import Derived.Test.YtomknjmgcbbjlaaDoorPWlkx5
namespace Go.Proofs.YtomknjmgcbbjlaaDoor.PWlk
open Go Go.RowKit Go.Proofs.YtomknjmgcbbjlaaDoorW.PrintWords Go.Proofs.YtomknjmgcbbjlaaDoorW.PrintLast Go.Proofs.YtomknjmgcbbjlaaDoorW.PrintMore
attribute [local go_sem] max2_int min2_int max_two min_two max_three min_three max_four min_four
set_option linter.unusedVariables false
set_option maxRecDepth 100000
set_option linter.unusedSimpArgs false
attribute [local go_sem] idx47_0_0 idx47_1_0 idx47_2_0 idx107_0_0 idx107_1_0
theorem sAx6 {α : Type _} {l : List α} {i : Nat} {a : α} : l.toArray.setIfInBounds i a = (l.set i a).toArray := List.setIfInBounds_toArray ..
theorem sBx6 {α : Type _} {x y : α} {l : List α} : (x :: l).set 0 y = y :: l := rfl
theorem sCx6 {α : Type _} {x y : α} {l : List α} {i : Nat} : (x :: l).set (i + 1) y = x :: l.set i y := rfl
theorem aMx6 {p : Prop} (h : p) : Aside0 p := ⟨h⟩
mutual
def lapidaryref10_plain.l0 : Nat → Int → List (S46) → List (S47) → Option (Bool)
  | 0, _, _, _ => none
  | k + 1, x3, x144000, x144001 => if x3 < (x144000.length : Int) then (if 0 ≤ x3 then ((lapidaryref10_coord.f ((rd_T46 x144000 x3).f0)).bind fun t145 => (if t145 = true then ((lapidaryref10_coord.f ((rd_T46 x144000 x3).f1)).bind fun t147 => (if t147 = true then ((lapidaryref10_coord.f ((rd_T46 x144000 x3).f2)).bind fun t149 => (if t149 = true then (lapidaryref10_plain.l0 k (wrap64 (x3 + 1)) x144000 x144001) else (some false))) else (some false))) else (some false))) else (none)) else (lapidaryref10_plain.l1 k 0 x144000 x144001)
def lapidaryref10_plain.l1 : Nat → Int → List (S46) → List (S47) → Option (Bool)
  | 0, _, _, _ => none
  | k + 1, x4, x144000, x144001 => if x4 < (x144001.length : Int) then (if 0 ≤ x4 then (if ((rd_T47 x144001 x4).f0) = ((rd_T47 x144001 x4).f1) then (lapidaryref10_plain.j2 k x4 true x144000 x144001 ((rd_T47 x144001 x4).f0) ((rd_T47 x144001 x4).f1) ((rd_T47 x144001 x4).f2)) else (if ((rd_T47 x144001 x4).f1) = ((rd_T47 x144001 x4).f2) then (lapidaryref10_plain.j2 k x4 true x144000 x144001 ((rd_T47 x144001 x4).f0) ((rd_T47 x144001 x4).f1) ((rd_T47 x144001 x4).f2)) else (lapidaryref10_plain.j2 k x4 (((rd_T47 x144001 x4).f2) == ((rd_T47 x144001 x4).f0)) x144000 x144001 ((rd_T47 x144001 x4).f0) ((rd_T47 x144001 x4).f1) ((rd_T47 x144001 x4).f2)))) else (none)) else (some true)
def lapidaryref10_plain.j2 : Nat → Int → Bool → List (S46) → List (S47) → Int → Int → Int → Option (Bool)
  | 0, _, _, _, _, _, _, _ => none
  | k + 1, x4, x72, x144000, x144001, x152000, x152001, x152002 => if x72 = true then (some false) else (lapidaryref10_plain.l2 k x4 0 x144000 x144001 x152000 x152001 x152002)
def lapidaryref10_plain.l2 : Nat → Int → Int → List (S46) → List (S47) → Int → Int → Int → Option (Bool)
  | 0, _, _, _, _, _, _, _ => none
  | k + 1, x4, x6, x144000, x144001, x152000, x152001, x152002 => if x6 < 3 then (if x6 = 0 then (if x152000 < 0 then (some false) else (if x152000 ≥ (x144000.length : Int) then (some false) else (lapidaryref10_plain.l2 k x4 (wrap64 (x6 + 1)) x144000 x144001 x152000 x152001 x152002))) else (if x6 = 1 then (if x152001 < 0 then (some false) else (if x152001 ≥ (x144000.length : Int) then (some false) else (lapidaryref10_plain.l2 k x4 (wrap64 (x6 + 1)) x144000 x144001 x152000 x152001 x152002))) else (if x6 = 2 then (if x152002 < 0 then (some false) else (if x152002 ≥ (x144000.length : Int) then (some false) else (lapidaryref10_plain.l2 k x4 (wrap64 (x6 + 1)) x144000 x144001 x152000 x152001 x152002))) else (none)))) else (lapidaryref10_plain.l1 k (wrap64 (x4 + 1)) x144000 x144001)
end
def lapidaryref10_plain.f (k : Nat) (l0_0 : List (S46)) (l0_1 : List (S47)) : Option (Bool) := lapidaryref10_plain.l0 k 0 l0_0 l0_1
theorem lapidaryref10_plain.mono_l : ∀ k, (∀ y0 y1 y2, LeO (lapidaryref10_plain.l0 k y0 y1 y2) (lapidaryref10_plain.l0 (k + 1) y0 y1 y2)) ∧ (∀ y0 y1 y2, LeO (lapidaryref10_plain.l1 k y0 y1 y2) (lapidaryref10_plain.l1 (k + 1) y0 y1 y2)) ∧ (∀ y0 y1 y2 y3 y4 y5 y6, LeO (lapidaryref10_plain.j2 k y0 y1 y2 y3 y4 y5 y6) (lapidaryref10_plain.j2 (k + 1) y0 y1 y2 y3 y4 y5 y6)) ∧ (∀ y0 y1 y2 y3 y4 y5 y6, LeO (lapidaryref10_plain.l2 k y0 y1 y2 y3 y4 y5 y6) (lapidaryref10_plain.l2 (k + 1) y0 y1 y2 y3 y4 y5 y6))
  | 0 => ⟨fun _ _ _ r h => by simp [lapidaryref10_plain.l0] at h, fun _ _ _ r h => by simp [lapidaryref10_plain.l1] at h, fun _ _ _ _ _ _ _ r h => by simp [lapidaryref10_plain.j2] at h, fun _ _ _ _ _ _ _ r h => by simp [lapidaryref10_plain.l2] at h⟩
  | k + 1 => by
    obtain ⟨ih0, ih1, ih2, ih3⟩ := lapidaryref10_plain.mono_l k
    refine ⟨?_, ?_, ?_, ?_⟩
    · intro y0 y1 y2
      unfold lapidaryref10_plain.l0
      repeat' first
      | (with_reducible exact ih0 _ _ _)
      | (with_reducible exact ih1 _ _ _)
      | (with_reducible exact ih2 _ _ _ _ _ _ _)
      | (with_reducible exact ih3 _ _ _ _ _ _ _)
      | (with_reducible exact LeO.refl _)
      | (with_reducible exact LeO.none _)
      | (with_reducible refine LeO.ite ?_ ?_)
      | (with_reducible refine LeO.bind ?_ (fun _ => ?_))
      | exact ih0 _ _ _
      | exact ih1 _ _ _
      | exact ih2 _ _ _ _ _ _ _
      | exact ih3 _ _ _ _ _ _ _
      | exact LeO.none _
      | refine LeO.ite ?_ ?_
      | refine LeO.bind ?_ (fun _ => ?_)
    · intro y0 y1 y2
      unfold lapidaryref10_plain.l1
      repeat' first
      | (with_reducible exact ih0 _ _ _)
      | (with_reducible exact ih1 _ _ _)
      | (with_reducible exact ih2 _ _ _ _ _ _ _)
      | (with_reducible exact ih3 _ _ _ _ _ _ _)
      | (with_reducible exact LeO.refl _)
      | (with_reducible exact LeO.none _)
      | (with_reducible refine LeO.ite ?_ ?_)
      | (with_reducible refine LeO.bind ?_ (fun _ => ?_))
      | exact ih0 _ _ _
      | exact ih1 _ _ _
      | exact ih2 _ _ _ _ _ _ _
      | exact ih3 _ _ _ _ _ _ _
      | exact LeO.none _
      | refine LeO.ite ?_ ?_
      | refine LeO.bind ?_ (fun _ => ?_)
    · intro y0 y1 y2 y3 y4 y5 y6
      unfold lapidaryref10_plain.j2
      repeat' first
      | (with_reducible exact ih0 _ _ _)
      | (with_reducible exact ih1 _ _ _)
      | (with_reducible exact ih2 _ _ _ _ _ _ _)
      | (with_reducible exact ih3 _ _ _ _ _ _ _)
      | (with_reducible exact LeO.refl _)
      | (with_reducible exact LeO.none _)
      | (with_reducible refine LeO.ite ?_ ?_)
      | (with_reducible refine LeO.bind ?_ (fun _ => ?_))
      | exact ih0 _ _ _
      | exact ih1 _ _ _
      | exact ih2 _ _ _ _ _ _ _
      | exact ih3 _ _ _ _ _ _ _
      | exact LeO.none _
      | refine LeO.ite ?_ ?_
      | refine LeO.bind ?_ (fun _ => ?_)
    · intro y0 y1 y2 y3 y4 y5 y6
      unfold lapidaryref10_plain.l2
      repeat' first
      | (with_reducible exact ih0 _ _ _)
      | (with_reducible exact ih1 _ _ _)
      | (with_reducible exact ih2 _ _ _ _ _ _ _)
      | (with_reducible exact ih3 _ _ _ _ _ _ _)
      | (with_reducible exact LeO.refl _)
      | (with_reducible exact LeO.none _)
      | (with_reducible refine LeO.ite ?_ ?_)
      | (with_reducible refine LeO.bind ?_ (fun _ => ?_))
      | exact ih0 _ _ _
      | exact ih1 _ _ _
      | exact ih2 _ _ _ _ _ _ _
      | exact ih3 _ _ _ _ _ _ _
      | exact LeO.none _
      | refine LeO.ite ?_ ?_
      | refine LeO.bind ?_ (fun _ => ?_)
theorem lapidaryref10_plain.mono : ∀ a0 a1 k, LeO (lapidaryref10_plain.f k a0 a1) (lapidaryref10_plain.f (k + 1) a0 a1) := by
  intro a0 a1 k
  obtain ⟨ih0, ih1, ih2, ih3⟩ := lapidaryref10_plain.mono_l k
  unfold lapidaryref10_plain.f
  repeat' first
      | (with_reducible exact ih0 _ _ _)
      | (with_reducible exact ih1 _ _ _)
      | (with_reducible exact ih2 _ _ _ _ _ _ _)
      | (with_reducible exact ih3 _ _ _ _ _ _ _)
      | (with_reducible exact LeO.refl _)
      | (with_reducible exact LeO.none _)
      | (with_reducible refine LeO.ite ?_ ?_)
      | (with_reducible refine LeO.bind ?_ (fun _ => ?_))
      | exact ih0 _ _ _
      | exact ih1 _ _ _
      | exact ih2 _ _ _ _ _ _ _
      | exact ih3 _ _ _ _ _ _ _
      | exact LeO.none _
      | refine LeO.ite ?_ ?_
      | refine LeO.bind ?_ (fun _ => ?_)
set_option maxHeartbeats 8000000 in
set_option maxRecDepth 100000 in
theorem lapidaryref10_plain.calls (k : Nat) (A0_0 : Option Addr) (c0_0 : Nat) (l0_0 : List (S46)) (A0_1 : Option Addr) (c0_1 : Nat) (l0_1 : List (S47)) (r : Bool) (w : World) (hr0_0 : Kd.C k46 w A0_0 l0_0.length l0_0) (hc0_0 : l0_0.length ≤ c0_0) (hr0_1 : Kd.C k47 w A0_1 l0_1.length l0_1) (hc0_1 : l0_1.length ≤ c0_1) (h : lapidaryref10_plain.f k l0_0 l0_1 = some r) :
  Calls Tryd.prog 62 #[.agg #[.slice A0_0 l0_0.length c0_0,.slice A0_1 l0_1.length c0_1]] w fun e w' => e = .returned (.bool r) ∧ Below w.heap.size w w':=by
 have hu25:=Tryd.underlying25
 have hu47:=Tryd.underlying47
 have HR0_0:=aMx6 hr0_0
 have HC0_0:=aMx6 hc0_0
 clear hr0_0 hc0_0
 have HR0_1:=aMx6 hr0_1
 have HC0_1:=aMx6 hc0_1
 clear hr0_1 hc0_1
 have HB:=aMx6 (Below.refl w.heap.size w)
 have H : (lapidaryref10_plain.l0 k 0 l0_0 l0_1) = some r:=h
 clear h
 have H':=aMx6 H
 clear H
 go_enter Tryd.func62,Tryd.ntmps62
 go_wp2_with (first|((with_reducible refine gate_dst (N:=1) rfl ?_);(try (refine gate_guard (by rfl) ?_;dsimp only));refine box_event ?hg (N:=1) ?hd (cs:=#[.slice A0_0 l0_0.length c0_0,.slice A0_1 l0_1.length c0_1]) (t:=25) ?hr ?_;(case hd => rfl);(case hg => rfl);(case hr => first|(go_simp;done)|(go_simp;rfl));intro gb143 hg w2 hbox hb;have n0_:=aMx6 (below_step (by repeat (with_reducible first|exact HB.out|apply below_alloc|apply pw_below_drewN|apply below_drew1)) hb);have n1_:=aMx6 (hbox);have n2_:=aMx6 ((by rw [hg];exact (below_size (by repeat (with_reducible first|exact HB.out|apply below_alloc|apply pw_below_drewN|apply below_drew1))) : w.heap.size ≤ gb143));have n3_:=aMx6 ((by rw [hg];exact (below_size (by repeat (with_reducible first|exact HB.out|apply below_alloc|apply pw_below_drewN|apply below_drew1))) : w.heap.size ≤ gb143));clear HB;have HB:=n0_;have BK143:=n1_;have GW143:=n2_;have GE143:=n3_;clear n0_ n1_ n2_ n3_;clear hb hbox hg))
 repeat (go_quiet (first|((with_reducible refine gate_dst (N:=1) rfl ?_);(try (refine gate_guard (by rfl) ?_;dsimp only));refine box_event ?hg (N:=1) ?hd (cs:=#[.slice A0_0 l0_0.length c0_0,.slice A0_1 l0_1.length c0_1]) (t:=25) ?hr ?_;(case hd => rfl);(case hg => rfl);(case hr => first|(go_simp;done)|(go_simp;rfl));intro gb143 hg w2 hbox hb;have n0_:=aMx6 (below_step (by repeat (with_reducible first|exact HB.out|apply below_alloc|apply pw_below_drewN|apply below_drew1)) hb);have n1_:=aMx6 (hbox);have n2_:=aMx6 ((by rw [hg];exact (below_size (by repeat (with_reducible first|exact HB.out|apply below_alloc|apply pw_below_drewN|apply below_drew1))) : w.heap.size ≤ gb143));have n3_:=aMx6 ((by rw [hg];exact (below_size (by repeat (with_reducible first|exact HB.out|apply below_alloc|apply pw_below_drewN|apply below_drew1))) : w.heap.size ≤ gb143));clear HB;have HB:=n0_;have BK143:=n1_;have GW143:=n2_;have GE143:=n3_;clear n0_ n1_ n2_ n3_;clear hb hbox hg));try go_wp2_with (first|((with_reducible refine gate_dst (N:=1) rfl ?_);(try (refine gate_guard (by rfl) ?_;dsimp only));refine box_event ?hg (N:=1) ?hd (cs:=#[.slice A0_0 l0_0.length c0_0,.slice A0_1 l0_1.length c0_1]) (t:=25) ?hr ?_;(case hd => rfl);(case hg => rfl);(case hr => first|(go_simp;done)|(go_simp;rfl));intro gb143 hg w2 hbox hb;have n0_:=aMx6 (below_step (by repeat (with_reducible first|exact HB.out|apply below_alloc|apply pw_below_drewN|apply below_drew1)) hb);have n1_:=aMx6 (hbox);have n2_:=aMx6 ((by rw [hg];exact (below_size (by repeat (with_reducible first|exact HB.out|apply below_alloc|apply pw_below_drewN|apply below_drew1))) : w.heap.size ≤ gb143));have n3_:=aMx6 ((by rw [hg];exact (below_size (by repeat (with_reducible first|exact HB.out|apply below_alloc|apply pw_below_drewN|apply below_drew1))) : w.heap.size ≤ gb143));clear HB;have HB:=n0_;have BK143:=n1_;have GW143:=n2_;have GE143:=n3_;clear n0_ n1_ n2_ n3_;clear hb hbox hg)))
 go_loopg [3] k (fun kq v3 w' => ∃ (x3_1 : Int),v3 = .int .i64 x3_1 ∧ Aside0 (lapidaryref10_plain.l0 kq x3_1 l0_0 l0_1 = some r) ∧ Aside0 (kq ≤ k) ∧ Aside0 (w'.heap[gb143]? = some (.cells #[(.slice A0_0 l0_0.length c0_0),(.slice A0_1 l0_1.length c0_1)] 25 (0,0))) ∧ Aside0 (Below w.heap.size w w'))
 case atStart => exact ⟨(0),(by first | rfl | (simp;done) | (simp [*];done) | (simp [wrap64];done)),H',⟨Nat.le_refl _⟩,⟨by (with_reducible repeat (first | refine blk_drewN ?_ _ | refine blk_drew ?_ | refine blk_alloc ?_ _));exact BK143.out⟩,⟨by repeat (first | (with_reducible first | exact HB.out | apply below_alloc | apply pw_below_drewN | apply below_drew1 | refine below_set ?_ GE143.out) | exact HB.out)⟩⟩
 case round =>
  clear H'
  try clear p2
  obtain ⟨x3_1,rfl,HA,HK1,BK143,HB⟩:=hrel
  cases gk with
  | zero => exact absurd HA.out (by simp [lapidaryref10_plain.l0])
  | succ k1 =>
   have H:=HA.out
   clear HA
   simp only [lapidaryref10_plain.l0] at H
   by_cases c3 : x3_1 < (l0_0.length : Int)
   ·rw [if_pos c3] at H
    have c3b0 : decide (x3_1 < (l0_0.length : Int)) = true:=decide_eq_true c3
    clear c3
    by_cases c4 : 0 ≤ x3_1
    ·rw [if_pos c4] at H
     have c4b0 : decide (0 ≤ x3_1) = true:=decide_eq_true c4
     clear c4
     replace H:=Option.bind_eq_some_iff.mp H
     obtain ⟨t145,A50,H⟩:=H
     replace H : (if t145 = true then ((lapidaryref10_coord.f ((rd_T46 l0_0 x3_1).f1)).bind fun t147 => (if t147 = true then ((lapidaryref10_coord.f ((rd_T46 l0_0 x3_1).f2)).bind fun t149 => (if t149 = true then (lapidaryref10_plain.l0 k1 (wrap64 (x3_1+1)) l0_0 l0_1) else (some false))) else (some false))) else (some false)) = some r:=H
     have A5:=aMx6 A50
     clear A50
     by_cases c6 : t145 = true
     ·subst c6
      have H1 : ((lapidaryref10_coord.f ((rd_T46 l0_0 x3_1).f1)).bind fun t147 => (if t147 = true then ((lapidaryref10_coord.f ((rd_T46 l0_0 x3_1).f2)).bind fun t149 => (if t149 = true then (lapidaryref10_plain.l0 k1 (wrap64 (x3_1+1)) l0_0 l0_1) else (some false))) else (some false))) = some r:=by rw [if_pos rfl] at H;exact H
      clear H
      have H:=H1
      clear H1
      replace H:=Option.bind_eq_some_iff.mp H
      obtain ⟨t147,A70,H⟩:=H
      replace H : (if t147 = true then ((lapidaryref10_coord.f ((rd_T46 l0_0 x3_1).f2)).bind fun t149 => (if t149 = true then (lapidaryref10_plain.l0 k1 (wrap64 (x3_1+1)) l0_0 l0_1) else (some false))) else (some false)) = some r:=H
      have A7:=aMx6 A70
      clear A70
      by_cases c8 : t147 = true
      ·subst c8
       have H1 : ((lapidaryref10_coord.f ((rd_T46 l0_0 x3_1).f2)).bind fun t149 => (if t149 = true then (lapidaryref10_plain.l0 k1 (wrap64 (x3_1+1)) l0_0 l0_1) else (some false))) = some r:=by rw [if_pos rfl] at H;exact H
       clear H
       have H:=H1
       clear H1
       replace H:=Option.bind_eq_some_iff.mp H
       obtain ⟨t149,A90,H⟩:=H
       replace H : (if t149 = true then (lapidaryref10_plain.l0 k1 (wrap64 (x3_1+1)) l0_0 l0_1) else (some false)) = some r:=H
       have A9:=aMx6 A90
       clear A90
       by_cases c10 : t149 = true
       ·subst c10
        have H1 : (lapidaryref10_plain.l0 k1 (wrap64 (x3_1+1)) l0_0 l0_1) = some r:=by rw [if_pos rfl] at H;exact H
        clear H
        have H:=H1
        clear H1
        have H':=aMx6 H
        clear H
        have hcz11_0 : wr.cell? ⟨gb143,0,none⟩ = some (.slice A0_0 l0_0.length c0_0):=(blk_cell BK143.out 0).trans rfl
        have hcz11_1 : wr.cell? ⟨gb143,1,none⟩ = some (.slice A0_1 l0_1.length c0_1):=(blk_cell BK143.out 1).trans rfl
        have hfz11_0:=blk_frozen BK143.out 0
        have hfz11_1:=blk_frozen BK143.out 1
        have p144 : 0 ≤ (x3_1 : Int):=of_decide_eq_true (by first | (with_reducible assumption) | assumption)
        have q144 : x3_1 < (l0_0.length : Int):=of_decide_eq_true (by first | (with_reducible assumption) | assumption)
        obtain ⟨ad144,e144,hx144_0,hx144_1,hx144_2⟩:=at_T46 HR0_0.out x3_1 p144 q144
        cases e144
        replace hx144_0:=(HB.out.cell (World.block_lt_of_cell? w _ hx144_0)).trans hx144_0
        replace hx144_1:=(HB.out.cell (World.block_lt_of_cell? w _ hx144_1)).trans hx144_1
        replace hx144_2:=(HB.out.cell (World.block_lt_of_cell? w _ hx144_2)).trans hx144_2
        replace p144:=eq_true p144
        replace q144:=eq_true q144
        go_wp2_with (first|(go_at_call 79;(with_reducible refine (lapidaryref10_coord.calls ((rd_T46 l0_0 x3_1).f0) true _ A5.out).mono ?_);rintro e w' ⟨rfl,⟨nd,rfl⟩⟩;(try first|exact ⟨rfl,_,World.drewN_drewN _ _ _⟩|exact ⟨rfl,_,Eq.trans (World.drewN_drewN _ _ _) (congrArg (World.drewN _) (Nat.add_assoc _ _ _))⟩);have p146 : 0 ≤ (x3_1 : Int):=of_decide_eq_true (by first|(with_reducible assumption)|assumption);have q146 : x3_1 < (l0_0.length : Int):=of_decide_eq_true (by first|(with_reducible assumption)|assumption);obtain ⟨ad146,e146,hx146_0,hx146_1,hx146_2⟩:=at_T46 HR0_0.out x3_1 p146 q146;obtain rfl : ad144 = ad146:=(by injection e146);replace hx146_0:=(HB.out.cell (World.block_lt_of_cell? w _ hx146_0)).trans hx146_0;replace hx146_1:=(HB.out.cell (World.block_lt_of_cell? w _ hx146_1)).trans hx146_1;replace hx146_2:=(HB.out.cell (World.block_lt_of_cell? w _ hx146_2)).trans hx146_2;replace p146:=eq_true p146;replace q146:=eq_true q146)|(go_at_call 79;(with_reducible refine (lapidaryref10_coord.calls ((rd_T46 l0_0 x3_1).f1) true _ A7.out).mono ?_);rintro e w' ⟨rfl,⟨nd,rfl⟩⟩;(try first|exact ⟨rfl,_,World.drewN_drewN _ _ _⟩|exact ⟨rfl,_,Eq.trans (World.drewN_drewN _ _ _) (congrArg (World.drewN _) (Nat.add_assoc _ _ _))⟩);have p148 : 0 ≤ (x3_1 : Int):=of_decide_eq_true (by first|(with_reducible assumption)|assumption);have q148 : x3_1 < (l0_0.length : Int):=of_decide_eq_true (by first|(with_reducible assumption)|assumption);obtain ⟨ad148,e148,hx148_0,hx148_1,hx148_2⟩:=at_T46 HR0_0.out x3_1 p148 q148;obtain rfl : ad144 = ad148:=(by injection e148);replace hx148_0:=(HB.out.cell (World.block_lt_of_cell? w _ hx148_0)).trans hx148_0;replace hx148_1:=(HB.out.cell (World.block_lt_of_cell? w _ hx148_1)).trans hx148_1;replace hx148_2:=(HB.out.cell (World.block_lt_of_cell? w _ hx148_2)).trans hx148_2;replace p148:=eq_true p148;replace q148:=eq_true q148)|(go_at_call 79;(with_reducible refine (lapidaryref10_coord.calls ((rd_T46 l0_0 x3_1).f2) true _ A9.out).mono ?_);rintro e w' ⟨rfl,⟨nd,rfl⟩⟩;(try first|exact ⟨rfl,_,World.drewN_drewN _ _ _⟩|exact ⟨rfl,_,Eq.trans (World.drewN_drewN _ _ _) (congrArg (World.drewN _) (Nat.add_assoc _ _ _))⟩)))
        repeat (go_quiet (first|(go_at_call 79;(with_reducible refine (lapidaryref10_coord.calls ((rd_T46 l0_0 x3_1).f0) true _ A5.out).mono ?_);rintro e w' ⟨rfl,⟨nd,rfl⟩⟩;(try first|exact ⟨rfl,_,World.drewN_drewN _ _ _⟩|exact ⟨rfl,_,Eq.trans (World.drewN_drewN _ _ _) (congrArg (World.drewN _) (Nat.add_assoc _ _ _))⟩);have p146 : 0 ≤ (x3_1 : Int):=of_decide_eq_true (by first|(with_reducible assumption)|assumption);have q146 : x3_1 < (l0_0.length : Int):=of_decide_eq_true (by first|(with_reducible assumption)|assumption);obtain ⟨ad146,e146,hx146_0,hx146_1,hx146_2⟩:=at_T46 HR0_0.out x3_1 p146 q146;obtain rfl : ad144 = ad146:=(by injection e146);replace hx146_0:=(HB.out.cell (World.block_lt_of_cell? w _ hx146_0)).trans hx146_0;replace hx146_1:=(HB.out.cell (World.block_lt_of_cell? w _ hx146_1)).trans hx146_1;replace hx146_2:=(HB.out.cell (World.block_lt_of_cell? w _ hx146_2)).trans hx146_2;replace p146:=eq_true p146;replace q146:=eq_true q146)|(go_at_call 79;(with_reducible refine (lapidaryref10_coord.calls ((rd_T46 l0_0 x3_1).f1) true _ A7.out).mono ?_);rintro e w' ⟨rfl,⟨nd,rfl⟩⟩;(try first|exact ⟨rfl,_,World.drewN_drewN _ _ _⟩|exact ⟨rfl,_,Eq.trans (World.drewN_drewN _ _ _) (congrArg (World.drewN _) (Nat.add_assoc _ _ _))⟩);have p148 : 0 ≤ (x3_1 : Int):=of_decide_eq_true (by first|(with_reducible assumption)|assumption);have q148 : x3_1 < (l0_0.length : Int):=of_decide_eq_true (by first|(with_reducible assumption)|assumption);obtain ⟨ad148,e148,hx148_0,hx148_1,hx148_2⟩:=at_T46 HR0_0.out x3_1 p148 q148;obtain rfl : ad144 = ad148:=(by injection e148);replace hx148_0:=(HB.out.cell (World.block_lt_of_cell? w _ hx148_0)).trans hx148_0;replace hx148_1:=(HB.out.cell (World.block_lt_of_cell? w _ hx148_1)).trans hx148_1;replace hx148_2:=(HB.out.cell (World.block_lt_of_cell? w _ hx148_2)).trans hx148_2;replace p148:=eq_true p148;replace q148:=eq_true q148)|(go_at_call 79;(with_reducible refine (lapidaryref10_coord.calls ((rd_T46 l0_0 x3_1).f2) true _ A9.out).mono ?_);rintro e w' ⟨rfl,⟨nd,rfl⟩⟩;(try first|exact ⟨rfl,_,World.drewN_drewN _ _ _⟩|exact ⟨rfl,_,Eq.trans (World.drewN_drewN _ _ _) (congrArg (World.drewN _) (Nat.add_assoc _ _ _))⟩)));try go_wp2_with (first|(go_at_call 79;(with_reducible refine (lapidaryref10_coord.calls ((rd_T46 l0_0 x3_1).f0) true _ A5.out).mono ?_);rintro e w' ⟨rfl,⟨nd,rfl⟩⟩;(try first|exact ⟨rfl,_,World.drewN_drewN _ _ _⟩|exact ⟨rfl,_,Eq.trans (World.drewN_drewN _ _ _) (congrArg (World.drewN _) (Nat.add_assoc _ _ _))⟩);have p146 : 0 ≤ (x3_1 : Int):=of_decide_eq_true (by first|(with_reducible assumption)|assumption);have q146 : x3_1 < (l0_0.length : Int):=of_decide_eq_true (by first|(with_reducible assumption)|assumption);obtain ⟨ad146,e146,hx146_0,hx146_1,hx146_2⟩:=at_T46 HR0_0.out x3_1 p146 q146;obtain rfl : ad144 = ad146:=(by injection e146);replace hx146_0:=(HB.out.cell (World.block_lt_of_cell? w _ hx146_0)).trans hx146_0;replace hx146_1:=(HB.out.cell (World.block_lt_of_cell? w _ hx146_1)).trans hx146_1;replace hx146_2:=(HB.out.cell (World.block_lt_of_cell? w _ hx146_2)).trans hx146_2;replace p146:=eq_true p146;replace q146:=eq_true q146)|(go_at_call 79;(with_reducible refine (lapidaryref10_coord.calls ((rd_T46 l0_0 x3_1).f1) true _ A7.out).mono ?_);rintro e w' ⟨rfl,⟨nd,rfl⟩⟩;(try first|exact ⟨rfl,_,World.drewN_drewN _ _ _⟩|exact ⟨rfl,_,Eq.trans (World.drewN_drewN _ _ _) (congrArg (World.drewN _) (Nat.add_assoc _ _ _))⟩);have p148 : 0 ≤ (x3_1 : Int):=of_decide_eq_true (by first|(with_reducible assumption)|assumption);have q148 : x3_1 < (l0_0.length : Int):=of_decide_eq_true (by first|(with_reducible assumption)|assumption);obtain ⟨ad148,e148,hx148_0,hx148_1,hx148_2⟩:=at_T46 HR0_0.out x3_1 p148 q148;obtain rfl : ad144 = ad148:=(by injection e148);replace hx148_0:=(HB.out.cell (World.block_lt_of_cell? w _ hx148_0)).trans hx148_0;replace hx148_1:=(HB.out.cell (World.block_lt_of_cell? w _ hx148_1)).trans hx148_1;replace hx148_2:=(HB.out.cell (World.block_lt_of_cell? w _ hx148_2)).trans hx148_2;replace p148:=eq_true p148;replace q148:=eq_true q148)|(go_at_call 79;(with_reducible refine (lapidaryref10_coord.calls ((rd_T46 l0_0 x3_1).f2) true _ A9.out).mono ?_);rintro e w' ⟨rfl,⟨nd,rfl⟩⟩;(try first|exact ⟨rfl,_,World.drewN_drewN _ _ _⟩|exact ⟨rfl,_,Eq.trans (World.drewN_drewN _ _ _) (congrArg (World.drewN _) (Nat.add_assoc _ _ _))⟩))))
        go_roundg k1
        case measure => have:=HK1.out;omega
        case rel => exact ⟨(wrap64 (x3_1+1)),(by first | rfl | (simp;done) | (simp [*];done) | (simp [wrap64];done)),H',⟨by have:=HK1.out;omega⟩,⟨by (with_reducible repeat (first | refine blk_drewN ?_ _ | refine blk_drew ?_ | refine blk_alloc ?_ _));exact BK143.out⟩,⟨by repeat (first | (with_reducible first | exact HB.out | apply below_alloc | apply pw_below_drewN | apply below_drew1 | refine below_set ?_ GE143.out) | exact HB.out)⟩⟩
       ·replace c10:=Bool.eq_false_iff.mpr c10
        subst c10
        have H1 : (some false) = some r:=by rw [if_neg (show ¬ (false = true) by decide)] at H;exact H
        clear H
        have H:=H1
        clear H1
        obtain rfl:=Option.some.inj H
        have hcz12_0 : wr.cell? ⟨gb143,0,none⟩ = some (.slice A0_0 l0_0.length c0_0):=(blk_cell BK143.out 0).trans rfl
        have hcz12_1 : wr.cell? ⟨gb143,1,none⟩ = some (.slice A0_1 l0_1.length c0_1):=(blk_cell BK143.out 1).trans rfl
        have hfz12_0:=blk_frozen BK143.out 0
        have hfz12_1:=blk_frozen BK143.out 1
        have p144 : 0 ≤ (x3_1 : Int):=of_decide_eq_true (by first | (with_reducible assumption) | assumption)
        have q144 : x3_1 < (l0_0.length : Int):=of_decide_eq_true (by first | (with_reducible assumption) | assumption)
        obtain ⟨ad144,e144,hx144_0,hx144_1,hx144_2⟩:=at_T46 HR0_0.out x3_1 p144 q144
        cases e144
        replace hx144_0:=(HB.out.cell (World.block_lt_of_cell? w _ hx144_0)).trans hx144_0
        replace hx144_1:=(HB.out.cell (World.block_lt_of_cell? w _ hx144_1)).trans hx144_1
        replace hx144_2:=(HB.out.cell (World.block_lt_of_cell? w _ hx144_2)).trans hx144_2
        replace p144:=eq_true p144
        replace q144:=eq_true q144
        go_wp2_with (first|(go_at_call 79;(with_reducible refine (lapidaryref10_coord.calls ((rd_T46 l0_0 x3_1).f0) true _ A5.out).mono ?_);rintro e w' ⟨rfl,⟨nd,rfl⟩⟩;(try first|exact ⟨rfl,_,World.drewN_drewN _ _ _⟩|exact ⟨rfl,_,Eq.trans (World.drewN_drewN _ _ _) (congrArg (World.drewN _) (Nat.add_assoc _ _ _))⟩);have p146 : 0 ≤ (x3_1 : Int):=of_decide_eq_true (by first|(with_reducible assumption)|assumption);have q146 : x3_1 < (l0_0.length : Int):=of_decide_eq_true (by first|(with_reducible assumption)|assumption);obtain ⟨ad146,e146,hx146_0,hx146_1,hx146_2⟩:=at_T46 HR0_0.out x3_1 p146 q146;obtain rfl : ad144 = ad146:=(by injection e146);replace hx146_0:=(HB.out.cell (World.block_lt_of_cell? w _ hx146_0)).trans hx146_0;replace hx146_1:=(HB.out.cell (World.block_lt_of_cell? w _ hx146_1)).trans hx146_1;replace hx146_2:=(HB.out.cell (World.block_lt_of_cell? w _ hx146_2)).trans hx146_2;replace p146:=eq_true p146;replace q146:=eq_true q146)|(go_at_call 79;(with_reducible refine (lapidaryref10_coord.calls ((rd_T46 l0_0 x3_1).f1) true _ A7.out).mono ?_);rintro e w' ⟨rfl,⟨nd,rfl⟩⟩;(try first|exact ⟨rfl,_,World.drewN_drewN _ _ _⟩|exact ⟨rfl,_,Eq.trans (World.drewN_drewN _ _ _) (congrArg (World.drewN _) (Nat.add_assoc _ _ _))⟩);have p148 : 0 ≤ (x3_1 : Int):=of_decide_eq_true (by first|(with_reducible assumption)|assumption);have q148 : x3_1 < (l0_0.length : Int):=of_decide_eq_true (by first|(with_reducible assumption)|assumption);obtain ⟨ad148,e148,hx148_0,hx148_1,hx148_2⟩:=at_T46 HR0_0.out x3_1 p148 q148;obtain rfl : ad144 = ad148:=(by injection e148);replace hx148_0:=(HB.out.cell (World.block_lt_of_cell? w _ hx148_0)).trans hx148_0;replace hx148_1:=(HB.out.cell (World.block_lt_of_cell? w _ hx148_1)).trans hx148_1;replace hx148_2:=(HB.out.cell (World.block_lt_of_cell? w _ hx148_2)).trans hx148_2;replace p148:=eq_true p148;replace q148:=eq_true q148)|(go_at_call 79;(with_reducible refine (lapidaryref10_coord.calls ((rd_T46 l0_0 x3_1).f2) false _ A9.out).mono ?_);rintro e w' ⟨rfl,⟨nd,rfl⟩⟩;(try first|exact ⟨rfl,_,World.drewN_drewN _ _ _⟩|exact ⟨rfl,_,Eq.trans (World.drewN_drewN _ _ _) (congrArg (World.drewN _) (Nat.add_assoc _ _ _))⟩)))
        repeat (go_quiet (first|(go_at_call 79;(with_reducible refine (lapidaryref10_coord.calls ((rd_T46 l0_0 x3_1).f0) true _ A5.out).mono ?_);rintro e w' ⟨rfl,⟨nd,rfl⟩⟩;(try first|exact ⟨rfl,_,World.drewN_drewN _ _ _⟩|exact ⟨rfl,_,Eq.trans (World.drewN_drewN _ _ _) (congrArg (World.drewN _) (Nat.add_assoc _ _ _))⟩);have p146 : 0 ≤ (x3_1 : Int):=of_decide_eq_true (by first|(with_reducible assumption)|assumption);have q146 : x3_1 < (l0_0.length : Int):=of_decide_eq_true (by first|(with_reducible assumption)|assumption);obtain ⟨ad146,e146,hx146_0,hx146_1,hx146_2⟩:=at_T46 HR0_0.out x3_1 p146 q146;obtain rfl : ad144 = ad146:=(by injection e146);replace hx146_0:=(HB.out.cell (World.block_lt_of_cell? w _ hx146_0)).trans hx146_0;replace hx146_1:=(HB.out.cell (World.block_lt_of_cell? w _ hx146_1)).trans hx146_1;replace hx146_2:=(HB.out.cell (World.block_lt_of_cell? w _ hx146_2)).trans hx146_2;replace p146:=eq_true p146;replace q146:=eq_true q146)|(go_at_call 79;(with_reducible refine (lapidaryref10_coord.calls ((rd_T46 l0_0 x3_1).f1) true _ A7.out).mono ?_);rintro e w' ⟨rfl,⟨nd,rfl⟩⟩;(try first|exact ⟨rfl,_,World.drewN_drewN _ _ _⟩|exact ⟨rfl,_,Eq.trans (World.drewN_drewN _ _ _) (congrArg (World.drewN _) (Nat.add_assoc _ _ _))⟩);have p148 : 0 ≤ (x3_1 : Int):=of_decide_eq_true (by first|(with_reducible assumption)|assumption);have q148 : x3_1 < (l0_0.length : Int):=of_decide_eq_true (by first|(with_reducible assumption)|assumption);obtain ⟨ad148,e148,hx148_0,hx148_1,hx148_2⟩:=at_T46 HR0_0.out x3_1 p148 q148;obtain rfl : ad144 = ad148:=(by injection e148);replace hx148_0:=(HB.out.cell (World.block_lt_of_cell? w _ hx148_0)).trans hx148_0;replace hx148_1:=(HB.out.cell (World.block_lt_of_cell? w _ hx148_1)).trans hx148_1;replace hx148_2:=(HB.out.cell (World.block_lt_of_cell? w _ hx148_2)).trans hx148_2;replace p148:=eq_true p148;replace q148:=eq_true q148)|(go_at_call 79;(with_reducible refine (lapidaryref10_coord.calls ((rd_T46 l0_0 x3_1).f2) false _ A9.out).mono ?_);rintro e w' ⟨rfl,⟨nd,rfl⟩⟩;(try first|exact ⟨rfl,_,World.drewN_drewN _ _ _⟩|exact ⟨rfl,_,Eq.trans (World.drewN_drewN _ _ _) (congrArg (World.drewN _) (Nat.add_assoc _ _ _))⟩)));try go_wp2_with (first|(go_at_call 79;(with_reducible refine (lapidaryref10_coord.calls ((rd_T46 l0_0 x3_1).f0) true _ A5.out).mono ?_);rintro e w' ⟨rfl,⟨nd,rfl⟩⟩;(try first|exact ⟨rfl,_,World.drewN_drewN _ _ _⟩|exact ⟨rfl,_,Eq.trans (World.drewN_drewN _ _ _) (congrArg (World.drewN _) (Nat.add_assoc _ _ _))⟩);have p146 : 0 ≤ (x3_1 : Int):=of_decide_eq_true (by first|(with_reducible assumption)|assumption);have q146 : x3_1 < (l0_0.length : Int):=of_decide_eq_true (by first|(with_reducible assumption)|assumption);obtain ⟨ad146,e146,hx146_0,hx146_1,hx146_2⟩:=at_T46 HR0_0.out x3_1 p146 q146;obtain rfl : ad144 = ad146:=(by injection e146);replace hx146_0:=(HB.out.cell (World.block_lt_of_cell? w _ hx146_0)).trans hx146_0;replace hx146_1:=(HB.out.cell (World.block_lt_of_cell? w _ hx146_1)).trans hx146_1;replace hx146_2:=(HB.out.cell (World.block_lt_of_cell? w _ hx146_2)).trans hx146_2;replace p146:=eq_true p146;replace q146:=eq_true q146)|(go_at_call 79;(with_reducible refine (lapidaryref10_coord.calls ((rd_T46 l0_0 x3_1).f1) true _ A7.out).mono ?_);rintro e w' ⟨rfl,⟨nd,rfl⟩⟩;(try first|exact ⟨rfl,_,World.drewN_drewN _ _ _⟩|exact ⟨rfl,_,Eq.trans (World.drewN_drewN _ _ _) (congrArg (World.drewN _) (Nat.add_assoc _ _ _))⟩);have p148 : 0 ≤ (x3_1 : Int):=of_decide_eq_true (by first|(with_reducible assumption)|assumption);have q148 : x3_1 < (l0_0.length : Int):=of_decide_eq_true (by first|(with_reducible assumption)|assumption);obtain ⟨ad148,e148,hx148_0,hx148_1,hx148_2⟩:=at_T46 HR0_0.out x3_1 p148 q148;obtain rfl : ad144 = ad148:=(by injection e148);replace hx148_0:=(HB.out.cell (World.block_lt_of_cell? w _ hx148_0)).trans hx148_0;replace hx148_1:=(HB.out.cell (World.block_lt_of_cell? w _ hx148_1)).trans hx148_1;replace hx148_2:=(HB.out.cell (World.block_lt_of_cell? w _ hx148_2)).trans hx148_2;replace p148:=eq_true p148;replace q148:=eq_true q148)|(go_at_call 79;(with_reducible refine (lapidaryref10_coord.calls ((rd_T46 l0_0 x3_1).f2) false _ A9.out).mono ?_);rintro e w' ⟨rfl,⟨nd,rfl⟩⟩;(try first|exact ⟨rfl,_,World.drewN_drewN _ _ _⟩|exact ⟨rfl,_,Eq.trans (World.drewN_drewN _ _ _) (congrArg (World.drewN _) (Nat.add_assoc _ _ _))⟩))))
        go_ret
        exact ⟨by first | rfl | (simp [errW_none,errW_some]<;>rfl) | (simp [*,errW_none,errW_some]<;>rfl),by repeat (first | (with_reducible first | exact HB.out | apply below_alloc | apply pw_below_drewN | apply below_drew1 | refine below_set ?_ GE143.out) | exact HB.out)⟩
      ·replace c8:=Bool.eq_false_iff.mpr c8
       subst c8
       have H1 : (some false) = some r:=by rw [if_neg (show ¬ (false = true) by decide)] at H;exact H
       clear H
       have H:=H1
       clear H1
       obtain rfl:=Option.some.inj H
       have hcz13_0 : wr.cell? ⟨gb143,0,none⟩ = some (.slice A0_0 l0_0.length c0_0):=(blk_cell BK143.out 0).trans rfl
       have hcz13_1 : wr.cell? ⟨gb143,1,none⟩ = some (.slice A0_1 l0_1.length c0_1):=(blk_cell BK143.out 1).trans rfl
       have hfz13_0:=blk_frozen BK143.out 0
       have hfz13_1:=blk_frozen BK143.out 1
       have p144 : 0 ≤ (x3_1 : Int):=of_decide_eq_true (by first | (with_reducible assumption) | assumption)
       have q144 : x3_1 < (l0_0.length : Int):=of_decide_eq_true (by first | (with_reducible assumption) | assumption)
       obtain ⟨ad144,e144,hx144_0,hx144_1,hx144_2⟩:=at_T46 HR0_0.out x3_1 p144 q144
       cases e144
       replace hx144_0:=(HB.out.cell (World.block_lt_of_cell? w _ hx144_0)).trans hx144_0
       replace hx144_1:=(HB.out.cell (World.block_lt_of_cell? w _ hx144_1)).trans hx144_1
       replace hx144_2:=(HB.out.cell (World.block_lt_of_cell? w _ hx144_2)).trans hx144_2
       replace p144:=eq_true p144
       replace q144:=eq_true q144
       go_wp2_with (first|(go_at_call 79;(with_reducible refine (lapidaryref10_coord.calls ((rd_T46 l0_0 x3_1).f0) true _ A5.out).mono ?_);rintro e w' ⟨rfl,⟨nd,rfl⟩⟩;(try first|exact ⟨rfl,_,World.drewN_drewN _ _ _⟩|exact ⟨rfl,_,Eq.trans (World.drewN_drewN _ _ _) (congrArg (World.drewN _) (Nat.add_assoc _ _ _))⟩);have p146 : 0 ≤ (x3_1 : Int):=of_decide_eq_true (by first|(with_reducible assumption)|assumption);have q146 : x3_1 < (l0_0.length : Int):=of_decide_eq_true (by first|(with_reducible assumption)|assumption);obtain ⟨ad146,e146,hx146_0,hx146_1,hx146_2⟩:=at_T46 HR0_0.out x3_1 p146 q146;obtain rfl : ad144 = ad146:=(by injection e146);replace hx146_0:=(HB.out.cell (World.block_lt_of_cell? w _ hx146_0)).trans hx146_0;replace hx146_1:=(HB.out.cell (World.block_lt_of_cell? w _ hx146_1)).trans hx146_1;replace hx146_2:=(HB.out.cell (World.block_lt_of_cell? w _ hx146_2)).trans hx146_2;replace p146:=eq_true p146;replace q146:=eq_true q146)|(go_at_call 79;(with_reducible refine (lapidaryref10_coord.calls ((rd_T46 l0_0 x3_1).f1) false _ A7.out).mono ?_);rintro e w' ⟨rfl,⟨nd,rfl⟩⟩;(try first|exact ⟨rfl,_,World.drewN_drewN _ _ _⟩|exact ⟨rfl,_,Eq.trans (World.drewN_drewN _ _ _) (congrArg (World.drewN _) (Nat.add_assoc _ _ _))⟩)))
       repeat (go_quiet (first|(go_at_call 79;(with_reducible refine (lapidaryref10_coord.calls ((rd_T46 l0_0 x3_1).f0) true _ A5.out).mono ?_);rintro e w' ⟨rfl,⟨nd,rfl⟩⟩;(try first|exact ⟨rfl,_,World.drewN_drewN _ _ _⟩|exact ⟨rfl,_,Eq.trans (World.drewN_drewN _ _ _) (congrArg (World.drewN _) (Nat.add_assoc _ _ _))⟩);have p146 : 0 ≤ (x3_1 : Int):=of_decide_eq_true (by first|(with_reducible assumption)|assumption);have q146 : x3_1 < (l0_0.length : Int):=of_decide_eq_true (by first|(with_reducible assumption)|assumption);obtain ⟨ad146,e146,hx146_0,hx146_1,hx146_2⟩:=at_T46 HR0_0.out x3_1 p146 q146;obtain rfl : ad144 = ad146:=(by injection e146);replace hx146_0:=(HB.out.cell (World.block_lt_of_cell? w _ hx146_0)).trans hx146_0;replace hx146_1:=(HB.out.cell (World.block_lt_of_cell? w _ hx146_1)).trans hx146_1;replace hx146_2:=(HB.out.cell (World.block_lt_of_cell? w _ hx146_2)).trans hx146_2;replace p146:=eq_true p146;replace q146:=eq_true q146)|(go_at_call 79;(with_reducible refine (lapidaryref10_coord.calls ((rd_T46 l0_0 x3_1).f1) false _ A7.out).mono ?_);rintro e w' ⟨rfl,⟨nd,rfl⟩⟩;(try first|exact ⟨rfl,_,World.drewN_drewN _ _ _⟩|exact ⟨rfl,_,Eq.trans (World.drewN_drewN _ _ _) (congrArg (World.drewN _) (Nat.add_assoc _ _ _))⟩)));try go_wp2_with (first|(go_at_call 79;(with_reducible refine (lapidaryref10_coord.calls ((rd_T46 l0_0 x3_1).f0) true _ A5.out).mono ?_);rintro e w' ⟨rfl,⟨nd,rfl⟩⟩;(try first|exact ⟨rfl,_,World.drewN_drewN _ _ _⟩|exact ⟨rfl,_,Eq.trans (World.drewN_drewN _ _ _) (congrArg (World.drewN _) (Nat.add_assoc _ _ _))⟩);have p146 : 0 ≤ (x3_1 : Int):=of_decide_eq_true (by first|(with_reducible assumption)|assumption);have q146 : x3_1 < (l0_0.length : Int):=of_decide_eq_true (by first|(with_reducible assumption)|assumption);obtain ⟨ad146,e146,hx146_0,hx146_1,hx146_2⟩:=at_T46 HR0_0.out x3_1 p146 q146;obtain rfl : ad144 = ad146:=(by injection e146);replace hx146_0:=(HB.out.cell (World.block_lt_of_cell? w _ hx146_0)).trans hx146_0;replace hx146_1:=(HB.out.cell (World.block_lt_of_cell? w _ hx146_1)).trans hx146_1;replace hx146_2:=(HB.out.cell (World.block_lt_of_cell? w _ hx146_2)).trans hx146_2;replace p146:=eq_true p146;replace q146:=eq_true q146)|(go_at_call 79;(with_reducible refine (lapidaryref10_coord.calls ((rd_T46 l0_0 x3_1).f1) false _ A7.out).mono ?_);rintro e w' ⟨rfl,⟨nd,rfl⟩⟩;(try first|exact ⟨rfl,_,World.drewN_drewN _ _ _⟩|exact ⟨rfl,_,Eq.trans (World.drewN_drewN _ _ _) (congrArg (World.drewN _) (Nat.add_assoc _ _ _))⟩))))
       go_ret
       exact ⟨by first | rfl | (simp [errW_none,errW_some]<;>rfl) | (simp [*,errW_none,errW_some]<;>rfl),by repeat (first | (with_reducible first | exact HB.out | apply below_alloc | apply pw_below_drewN | apply below_drew1 | refine below_set ?_ GE143.out) | exact HB.out)⟩
     ·replace c6:=Bool.eq_false_iff.mpr c6
      subst c6
      have H1 : (some false) = some r:=by rw [if_neg (show ¬ (false = true) by decide)] at H;exact H
      clear H
      have H:=H1
      clear H1
      obtain rfl:=Option.some.inj H
      have hcz14_0 : wr.cell? ⟨gb143,0,none⟩ = some (.slice A0_0 l0_0.length c0_0):=(blk_cell BK143.out 0).trans rfl
      have hcz14_1 : wr.cell? ⟨gb143,1,none⟩ = some (.slice A0_1 l0_1.length c0_1):=(blk_cell BK143.out 1).trans rfl
      have hfz14_0:=blk_frozen BK143.out 0
      have hfz14_1:=blk_frozen BK143.out 1
      have p144 : 0 ≤ (x3_1 : Int):=of_decide_eq_true (by first | (with_reducible assumption) | assumption)
      have q144 : x3_1 < (l0_0.length : Int):=of_decide_eq_true (by first | (with_reducible assumption) | assumption)
      obtain ⟨ad144,e144,hx144_0,hx144_1,hx144_2⟩:=at_T46 HR0_0.out x3_1 p144 q144
      cases e144
      replace hx144_0:=(HB.out.cell (World.block_lt_of_cell? w _ hx144_0)).trans hx144_0
      replace hx144_1:=(HB.out.cell (World.block_lt_of_cell? w _ hx144_1)).trans hx144_1
      replace hx144_2:=(HB.out.cell (World.block_lt_of_cell? w _ hx144_2)).trans hx144_2
      replace p144:=eq_true p144
      replace q144:=eq_true q144
      go_wp2_with (first|(go_at_call 79;(with_reducible refine (lapidaryref10_coord.calls ((rd_T46 l0_0 x3_1).f0) false _ A5.out).mono ?_);rintro e w' ⟨rfl,⟨nd,rfl⟩⟩;(try first|exact ⟨rfl,_,World.drewN_drewN _ _ _⟩|exact ⟨rfl,_,Eq.trans (World.drewN_drewN _ _ _) (congrArg (World.drewN _) (Nat.add_assoc _ _ _))⟩)))
      repeat (go_quiet (first|(go_at_call 79;(with_reducible refine (lapidaryref10_coord.calls ((rd_T46 l0_0 x3_1).f0) false _ A5.out).mono ?_);rintro e w' ⟨rfl,⟨nd,rfl⟩⟩;(try first|exact ⟨rfl,_,World.drewN_drewN _ _ _⟩|exact ⟨rfl,_,Eq.trans (World.drewN_drewN _ _ _) (congrArg (World.drewN _) (Nat.add_assoc _ _ _))⟩)));try go_wp2_with (first|(go_at_call 79;(with_reducible refine (lapidaryref10_coord.calls ((rd_T46 l0_0 x3_1).f0) false _ A5.out).mono ?_);rintro e w' ⟨rfl,⟨nd,rfl⟩⟩;(try first|exact ⟨rfl,_,World.drewN_drewN _ _ _⟩|exact ⟨rfl,_,Eq.trans (World.drewN_drewN _ _ _) (congrArg (World.drewN _) (Nat.add_assoc _ _ _))⟩))))
      go_ret
      exact ⟨by first | rfl | (simp [errW_none,errW_some]<;>rfl) | (simp [*,errW_none,errW_some]<;>rfl),by repeat (first | (with_reducible first | exact HB.out | apply below_alloc | apply pw_below_drewN | apply below_drew1 | refine below_set ?_ GE143.out) | exact HB.out)⟩
    ·rw [if_neg c4] at H
     exact absurd H (by simp)
   ·rw [if_neg c3] at H
    have c3b0 : decide (x3_1 < (l0_0.length : Int)) = false:=decide_eq_false c3
    clear c3
    have H':=aMx6 H
    clear H
    have hcz15_0 : wr.cell? ⟨gb143,0,none⟩ = some (.slice A0_0 l0_0.length c0_0):=(blk_cell BK143.out 0).trans rfl
    have hcz15_1 : wr.cell? ⟨gb143,1,none⟩ = some (.slice A0_1 l0_1.length c0_1):=(blk_cell BK143.out 1).trans rfl
    have hfz15_0:=blk_frozen BK143.out 0
    have hfz15_1:=blk_frozen BK143.out 1
    go_wp2
    repeat (go_quiet (fail);try go_wp2)
    go_loopg [4] k1 (fun kq v4 w' => ∃ (x4_2 : Int),v4 = .int .i64 x4_2 ∧ Aside0 (lapidaryref10_plain.l1 kq x4_2 l0_0 l0_1 = some r) ∧ Aside0 (kq ≤ k1) ∧ Aside0 (w'.heap[gb143]? = some (.cells #[(.slice A0_0 l0_0.length c0_0),(.slice A0_1 l0_1.length c0_1)] 25 (0,0))) ∧ Aside0 (Below w.heap.size w w'))
    case atStart => exact ⟨(0),(by first | rfl | (simp;done) | (simp [*];done) | (simp [wrap64];done)),H',⟨Nat.le_refl _⟩,⟨by (with_reducible repeat (first | refine blk_drewN ?_ _ | refine blk_drew ?_ | refine blk_alloc ?_ _));exact BK143.out⟩,⟨by repeat (first | (with_reducible first | exact HB.out | apply below_alloc | apply pw_below_drewN | apply below_drew1 | refine below_set ?_ GE143.out) | exact HB.out)⟩⟩
    case round =>
     clear H'
     (try clear c1);(try clear p1);(try clear q1);(try clear hx1);(try clear p2);(try clear c3);(try clear c3b0);(try clear c4);(try clear c4b0);(try clear c6);(try clear p6);(try clear c8);(try clear c10);(try clear p14);(try clear q14);(try clear hx14);(try clear hcz11_0);(try clear hcz11_1);(try clear hcz12_0);(try clear hcz12_1);(try clear hcz13_0);(try clear hcz13_1);(try clear hcz14_0);(try clear hcz14_1);(try clear hcz15_0);(try clear hcz15_1);(try clear hfz11_0);(try clear hfz11_1);(try clear hfz12_0);(try clear hfz12_1);(try clear hfz13_0);(try clear hfz13_1);(try clear hfz14_0);(try clear hfz14_1);(try clear hfz15_0);(try clear hfz15_1);(try clear hx144_0);(try clear hx144_1);(try clear hx144_2);(try clear hx146_0);(try clear hx146_1);(try clear hx146_2);(try clear hx148_0);(try clear hx148_1);(try clear hx148_2);(try clear p144);(try clear p146);(try clear p148);(try clear p2);(try clear q144);(try clear q146);(try clear q148)
     obtain ⟨x4_2,rfl,HA,HK2,BK143,HB⟩:=hrel
     cases gk with
     | zero => exact absurd HA.out (by simp [lapidaryref10_plain.l1])
     | succ k2 =>
      have H:=HA.out
      clear HA
      simp only [lapidaryref10_plain.l1] at H
      by_cases c16 : x4_2 < (l0_1.length : Int)
      ·rw [if_pos c16] at H
       have c16b0 : decide (x4_2 < (l0_1.length : Int)) = true:=decide_eq_true c16
       clear c16
       by_cases c17 : 0 ≤ x4_2
       ·rw [if_pos c17] at H
        have c17b0 : decide (0 ≤ x4_2) = true:=decide_eq_true c17
        clear c17
        have HC18:=aMx6 H
        clear H
        have hcz19_0 : wr.cell? ⟨gb143,0,none⟩ = some (.slice A0_0 l0_0.length c0_0):=(blk_cell BK143.out 0).trans rfl
        have hcz19_1 : wr.cell? ⟨gb143,1,none⟩ = some (.slice A0_1 l0_1.length c0_1):=(blk_cell BK143.out 1).trans rfl
        have hfz19_0:=blk_frozen BK143.out 0
        have hfz19_1:=blk_frozen BK143.out 1
        have p150 : 0 ≤ (x4_2 : Int):=of_decide_eq_true (by first | (with_reducible assumption) | assumption)
        have q150 : x4_2 < (l0_1.length : Int):=of_decide_eq_true (by first | (with_reducible assumption) | assumption)
        obtain ⟨ad150,e150,hx150_0,hx150_1,hx150_2⟩:=at_T47 HR0_1.out x4_2 p150 q150
        cases e150
        replace hx150_0:=(HB.out.cell (World.block_lt_of_cell? w _ hx150_0)).trans hx150_0
        replace hx150_1:=(HB.out.cell (World.block_lt_of_cell? w _ hx150_1)).trans hx150_1
        replace hx150_2:=(HB.out.cell (World.block_lt_of_cell? w _ hx150_2)).trans hx150_2
        replace p150:=eq_true p150
        replace q150:=eq_true q150
        go_upto_region 10 with (first | ((with_reducible refine gate_dst (N:=5) rfl ?_);(try (refine gate_guard (by rfl) ?_;dsimp only));refine box_event ?hg (N:=5) ?hd (cs:=#[.int .i64 0,.int .i64 0,.int .i64 0]) (t:=47) ?hr ?_;(case hd => rfl);(case hg => rfl);(case hr => first | (go_simp;done) | (go_simp;rfl));intro gb151 hg w20 hbox hb;have n0_:=aMx6 (blk_below (g:=gb143) (o:=.cells #[.slice A0_0 l0_0.length c0_0,.slice (some ad150) l0_1.length c0_1] 25 (0,0)) (by (with_reducible repeat (first | refine blk_drewN ?_ _ | refine blk_drew ?_ | refine blk_alloc ?_ _));exact BK143.out) hb);have n1_:=aMx6 (below_step (by repeat (first | (with_reducible first | exact HB.out | apply below_alloc | apply pw_below_drewN | apply below_drew1 | refine below_set ?_ GE143.out) | exact HB.out)) hb);have n2_:=aMx6 (hbox);have n3_:=aMx6 ((by rw [hg];exact (below_size (by repeat (first | (with_reducible first | exact HB.out | apply below_alloc | apply pw_below_drewN | apply below_drew1 | refine below_set ?_ GE143.out) | exact HB.out))) : w.heap.size ≤ gb151));have n4_:=aMx6 ((by rw [hg];exact (below_size (by repeat (first | (with_reducible first | exact HB.out | apply below_alloc | apply pw_below_drewN | apply below_drew1 | refine below_set ?_ GE143.out) | exact HB.out))) : w.heap.size ≤ gb151));have n5_:=aMx6 ((by rw [hg];exact Nat.ne_of_lt (blk_lt (g:=gb143) (o:=.cells #[.slice A0_0 l0_0.length c0_0,.slice (some ad150) l0_1.length c0_1] 25 (0,0)) (by (with_reducible repeat (first | refine blk_drewN ?_ _ | refine blk_drew ?_ | refine blk_alloc ?_ _));exact BK143.out)) : gb143 ≠ gb151));have n6_:=aMx6 ((by rw [hg];exact Nat.ne_of_gt (blk_lt (g:=gb143) (o:=.cells #[.slice A0_0 l0_0.length c0_0,.slice (some ad150) l0_1.length c0_1] 25 (0,0)) (by (with_reducible repeat (first | refine blk_drewN ?_ _ | refine blk_drew ?_ | refine blk_alloc ?_ _));exact BK143.out)) : gb151 ≠ gb143));clear BK143;clear HB;have BK143:=n0_;have HB:=n1_;have BK151:=n2_;have GW151:=n3_;have GE151:=n4_;have NB143_151:=n5_;have NB151_143:=n6_;clear n0_ n1_ n2_ n3_ n4_ n5_ n6_;clear hb hbox hg;have hnb21:=NB151_143.out;have hnc21:=NB143_151.out;have hcz22_0 : w20.cell? ⟨gb151,0,none⟩ = some (.int .i64 0):=(blk_cell BK151.out 0).trans rfl;have hcz22_1 : w20.cell? ⟨gb151,1,none⟩ = some (.int .i64 0):=(blk_cell BK151.out 1).trans rfl;have hcz22_2 : w20.cell? ⟨gb151,2,none⟩ = some (.int .i64 0):=(blk_cell BK151.out 2).trans rfl;have hfz22_0:=blk_frozen BK151.out 0;have hfz22_1:=blk_frozen BK151.out 1;have hfz22_2:=blk_frozen BK151.out 2))
        repeat (go_quiet (first | ((with_reducible refine gate_dst (N:=5) rfl ?_);(try (refine gate_guard (by rfl) ?_;dsimp only));refine box_event ?hg (N:=5) ?hd (cs:=#[.int .i64 0,.int .i64 0,.int .i64 0]) (t:=47) ?hr ?_;(case hd => rfl);(case hg => rfl);(case hr => first | (go_simp;done) | (go_simp;rfl));intro gb151 hg w20 hbox hb;have n0_:=aMx6 (blk_below (g:=gb143) (o:=.cells #[.slice A0_0 l0_0.length c0_0,.slice (some ad150) l0_1.length c0_1] 25 (0,0)) (by (with_reducible repeat (first | refine blk_drewN ?_ _ | refine blk_drew ?_ | refine blk_alloc ?_ _));exact BK143.out) hb);have n1_:=aMx6 (below_step (by repeat (first | (with_reducible first | exact HB.out | apply below_alloc | apply pw_below_drewN | apply below_drew1 | refine below_set ?_ GE143.out) | exact HB.out)) hb);have n2_:=aMx6 (hbox);have n3_:=aMx6 ((by rw [hg];exact (below_size (by repeat (first | (with_reducible first | exact HB.out | apply below_alloc | apply pw_below_drewN | apply below_drew1 | refine below_set ?_ GE143.out) | exact HB.out))) : w.heap.size ≤ gb151));have n4_:=aMx6 ((by rw [hg];exact (below_size (by repeat (first | (with_reducible first | exact HB.out | apply below_alloc | apply pw_below_drewN | apply below_drew1 | refine below_set ?_ GE143.out) | exact HB.out))) : w.heap.size ≤ gb151));have n5_:=aMx6 ((by rw [hg];exact Nat.ne_of_lt (blk_lt (g:=gb143) (o:=.cells #[.slice A0_0 l0_0.length c0_0,.slice (some ad150) l0_1.length c0_1] 25 (0,0)) (by (with_reducible repeat (first | refine blk_drewN ?_ _ | refine blk_drew ?_ | refine blk_alloc ?_ _));exact BK143.out)) : gb143 ≠ gb151));have n6_:=aMx6 ((by rw [hg];exact Nat.ne_of_gt (blk_lt (g:=gb143) (o:=.cells #[.slice A0_0 l0_0.length c0_0,.slice (some ad150) l0_1.length c0_1] 25 (0,0)) (by (with_reducible repeat (first | refine blk_drewN ?_ _ | refine blk_drew ?_ | refine blk_alloc ?_ _));exact BK143.out)) : gb151 ≠ gb143));clear BK143;clear HB;have BK143:=n0_;have HB:=n1_;have BK151:=n2_;have GW151:=n3_;have GE151:=n4_;have NB143_151:=n5_;have NB151_143:=n6_;clear n0_ n1_ n2_ n3_ n4_ n5_ n6_;clear hb hbox hg;have hnb21:=NB151_143.out;have hnc21:=NB143_151.out;have hcz22_0 : w20.cell? ⟨gb151,0,none⟩ = some (.int .i64 0):=(blk_cell BK151.out 0).trans rfl;have hcz22_1 : w20.cell? ⟨gb151,1,none⟩ = some (.int .i64 0):=(blk_cell BK151.out 1).trans rfl;have hcz22_2 : w20.cell? ⟨gb151,2,none⟩ = some (.int .i64 0):=(blk_cell BK151.out 2).trans rfl;have hfz22_0:=blk_frozen BK151.out 0;have hfz22_1:=blk_frozen BK151.out 1;have hfz22_2:=blk_frozen BK151.out 2));go_upto_region 10 with (first | ((with_reducible refine gate_dst (N:=5) rfl ?_);(try (refine gate_guard (by rfl) ?_;dsimp only));refine box_event ?hg (N:=5) ?hd (cs:=#[.int .i64 0,.int .i64 0,.int .i64 0]) (t:=47) ?hr ?_;(case hd => rfl);(case hg => rfl);(case hr => first | (go_simp;done) | (go_simp;rfl));intro gb151 hg w20 hbox hb;have n0_:=aMx6 (blk_below (g:=gb143) (o:=.cells #[.slice A0_0 l0_0.length c0_0,.slice (some ad150) l0_1.length c0_1] 25 (0,0)) (by (with_reducible repeat (first | refine blk_drewN ?_ _ | refine blk_drew ?_ | refine blk_alloc ?_ _));exact BK143.out) hb);have n1_:=aMx6 (below_step (by repeat (first | (with_reducible first | exact HB.out | apply below_alloc | apply pw_below_drewN | apply below_drew1 | refine below_set ?_ GE143.out) | exact HB.out)) hb);have n2_:=aMx6 (hbox);have n3_:=aMx6 ((by rw [hg];exact (below_size (by repeat (first | (with_reducible first | exact HB.out | apply below_alloc | apply pw_below_drewN | apply below_drew1 | refine below_set ?_ GE143.out) | exact HB.out))) : w.heap.size ≤ gb151));have n4_:=aMx6 ((by rw [hg];exact (below_size (by repeat (first | (with_reducible first | exact HB.out | apply below_alloc | apply pw_below_drewN | apply below_drew1 | refine below_set ?_ GE143.out) | exact HB.out))) : w.heap.size ≤ gb151));have n5_:=aMx6 ((by rw [hg];exact Nat.ne_of_lt (blk_lt (g:=gb143) (o:=.cells #[.slice A0_0 l0_0.length c0_0,.slice (some ad150) l0_1.length c0_1] 25 (0,0)) (by (with_reducible repeat (first | refine blk_drewN ?_ _ | refine blk_drew ?_ | refine blk_alloc ?_ _));exact BK143.out)) : gb143 ≠ gb151));have n6_:=aMx6 ((by rw [hg];exact Nat.ne_of_gt (blk_lt (g:=gb143) (o:=.cells #[.slice A0_0 l0_0.length c0_0,.slice (some ad150) l0_1.length c0_1] 25 (0,0)) (by (with_reducible repeat (first | refine blk_drewN ?_ _ | refine blk_drew ?_ | refine blk_alloc ?_ _));exact BK143.out)) : gb151 ≠ gb143));clear BK143;clear HB;have BK143:=n0_;have HB:=n1_;have BK151:=n2_;have GW151:=n3_;have GE151:=n4_;have NB143_151:=n5_;have NB151_143:=n6_;clear n0_ n1_ n2_ n3_ n4_ n5_ n6_;clear hb hbox hg;have hnb21:=NB151_143.out;have hnc21:=NB143_151.out;have hcz22_0 : w20.cell? ⟨gb151,0,none⟩ = some (.int .i64 0):=(blk_cell BK151.out 0).trans rfl;have hcz22_1 : w20.cell? ⟨gb151,1,none⟩ = some (.int .i64 0):=(blk_cell BK151.out 1).trans rfl;have hcz22_2 : w20.cell? ⟨gb151,2,none⟩ = some (.int .i64 0):=(blk_cell BK151.out 2).trans rfl;have hfz22_0:=blk_frozen BK151.out 0;have hfz22_1:=blk_frozen BK151.out 1;have hfz22_2:=blk_frozen BK151.out 2)))
        (try simp only [Act.put,sAx6,sBx6,sCx6])
        go_cut [72] (fun v72 wc => ∃ (kq : Nat) (x72_17 : Bool),v72 = .bool x72_17 ∧ Aside0 (lapidaryref10_plain.j2 kq x4_2 x72_17 l0_0 l0_1 ((rd_T47 l0_1 x4_2).f0) ((rd_T47 l0_1 x4_2).f1) ((rd_T47 l0_1 x4_2).f2) = some r) ∧ Aside0 (kq ≤ k2) ∧ Aside0 (wc.heap[gb143]? = some (.cells #[(.slice A0_0 l0_0.length c0_0),(.slice (some ad150) l0_1.length c0_1)] 25 (0,0))) ∧ Aside0 (wc.heap[gb151]? = some (.cells #[.int .i64 ((rd_T47 l0_1 x4_2).f0),.int .i64 ((rd_T47 l0_1 x4_2).f1),.int .i64 ((rd_T47 l0_1 x4_2).f2)] 47 (0,0))) ∧ Aside0 (Below w.heap.size w wc))
        case first =>
         have H:=HC18.out
         clear HC18
         by_cases c23 : ((rd_T47 l0_1 x4_2).f0) = ((rd_T47 l0_1 x4_2).f1)
         ·rw [if_pos c23] at H
          have c23b0 : (((rd_T47 l0_1 x4_2).f0) == ((rd_T47 l0_1 x4_2).f1)) = true:=beq_iff_eq.mpr c23
          have c23b1 : (((rd_T47 l0_1 x4_2).f0) != ((rd_T47 l0_1 x4_2).f1)) = false:=bne_eq_false_iff_eq.mpr c23
          clear c23
          (first | rw [c23b0] | (simp only [i64_w,i32_w];rw [c23b0]) | skip)
          have H':=aMx6 H
          clear H
          have hnb24:=NB151_143.out
          have hnc24:=NB143_151.out
          have hcz25_0 : w20.cell? ⟨gb151,0,none⟩ = some (.int .i64 0):=(blk_cell BK151.out 0).trans rfl
          have hcz25_1 : w20.cell? ⟨gb151,1,none⟩ = some (.int .i64 0):=(blk_cell BK151.out 1).trans rfl
          have hcz25_2 : w20.cell? ⟨gb151,2,none⟩ = some (.int .i64 0):=(blk_cell BK151.out 2).trans rfl
          have hfz25_0:=blk_frozen BK151.out 0
          have hfz25_1:=blk_frozen BK151.out 1
          have hfz25_2:=blk_frozen BK151.out 2
          go_wp2
          repeat (go_quiet (fail);try go_wp2)
          go_meet
          case rel => exact ⟨_,(true),(by first | rfl | (simp;done) | (simp [*];done) | (simp [wrap64];done)),H',⟨by have:=HK1.out;have:=HK2.out;first | omega | exact Nat.le_refl _⟩,⟨by (with_reducible repeat (first | refine blk_drewN ?_ _ | refine blk_drew ?_ | refine blk_alloc ?_ _));refine blk_far ?_ NB143_151.out _;(with_reducible repeat (first | refine blk_drewN ?_ _ | refine blk_drew ?_ | refine blk_alloc ?_ _));refine blk_far ?_ NB143_151.out _;(with_reducible repeat (first | refine blk_drewN ?_ _ | refine blk_drew ?_ | refine blk_alloc ?_ _));refine blk_far ?_ NB143_151.out _;(with_reducible repeat (first | refine blk_drewN ?_ _ | refine blk_drew ?_ | refine blk_alloc ?_ _));exact BK143.out⟩,⟨by (with_reducible repeat (first | refine blk_drewN ?_ _ | refine blk_drew ?_ | refine blk_alloc ?_ _));refine blk_put (cs:=#[.int .i64 ((rd_T47 l0_1 x4_2).f0),.int .i64 ((rd_T47 l0_1 x4_2).f1),.int .i64 0]) ?_ 2 _ rfl;(with_reducible repeat (first | refine blk_drewN ?_ _ | refine blk_drew ?_ | refine blk_alloc ?_ _));refine blk_put (cs:=#[.int .i64 ((rd_T47 l0_1 x4_2).f0),.int .i64 0,.int .i64 0]) ?_ 1 _ rfl;(with_reducible repeat (first | refine blk_drewN ?_ _ | refine blk_drew ?_ | refine blk_alloc ?_ _));refine blk_put (cs:=#[.int .i64 0,.int .i64 0,.int .i64 0]) ?_ 0 _ rfl;(with_reducible repeat (first | refine blk_drewN ?_ _ | refine blk_drew ?_ | refine blk_alloc ?_ _));exact BK151.out⟩,⟨by repeat (first | (with_reducible first | exact HB.out | apply below_alloc | apply pw_below_drewN | apply below_drew1 | refine below_set ?_ GE143.out | refine below_set ?_ GE151.out) | exact HB.out)⟩⟩
         ·rw [if_neg c23] at H
          have c23b0 : (((rd_T47 l0_1 x4_2).f0) == ((rd_T47 l0_1 x4_2).f1)) = false:=beq_eq_false_iff_ne.mpr c23
          have c23b1 : (((rd_T47 l0_1 x4_2).f0) != ((rd_T47 l0_1 x4_2).f1)) = true:=bne_iff_ne.mpr c23
          (first | rw [c23b0] | (simp only [i64_w,i32_w];rw [c23b0]) | skip)
          by_cases c26 : ((rd_T47 l0_1 x4_2).f1) = ((rd_T47 l0_1 x4_2).f2)
          ·rw [if_pos c26] at H
           have c26b0 : (((rd_T47 l0_1 x4_2).f1) == ((rd_T47 l0_1 x4_2).f2)) = true:=beq_iff_eq.mpr c26
           have c26b1 : (((rd_T47 l0_1 x4_2).f1) != ((rd_T47 l0_1 x4_2).f2)) = false:=bne_eq_false_iff_eq.mpr c26
           clear c26
           have H':=aMx6 H
           clear H
           have hnb27:=NB151_143.out
           have hnc27:=NB143_151.out
           have hcz28_0 : w20.cell? ⟨gb151,0,none⟩ = some (.int .i64 0):=(blk_cell BK151.out 0).trans rfl
           have hcz28_1 : w20.cell? ⟨gb151,1,none⟩ = some (.int .i64 0):=(blk_cell BK151.out 1).trans rfl
           have hcz28_2 : w20.cell? ⟨gb151,2,none⟩ = some (.int .i64 0):=(blk_cell BK151.out 2).trans rfl
           have hfz28_0:=blk_frozen BK151.out 0
           have hfz28_1:=blk_frozen BK151.out 1
           have hfz28_2:=blk_frozen BK151.out 2
           go_wp2
           repeat (go_quiet (fail);try go_wp2)
           go_meet
           case rel => exact ⟨_,(true),(by first | rfl | (simp;done) | (simp [*];done) | (simp [wrap64];done)),H',⟨by have:=HK1.out;have:=HK2.out;first | omega | exact Nat.le_refl _⟩,⟨by (with_reducible repeat (first | refine blk_drewN ?_ _ | refine blk_drew ?_ | refine blk_alloc ?_ _));refine blk_far ?_ NB143_151.out _;(with_reducible repeat (first | refine blk_drewN ?_ _ | refine blk_drew ?_ | refine blk_alloc ?_ _));refine blk_far ?_ NB143_151.out _;(with_reducible repeat (first | refine blk_drewN ?_ _ | refine blk_drew ?_ | refine blk_alloc ?_ _));refine blk_far ?_ NB143_151.out _;(with_reducible repeat (first | refine blk_drewN ?_ _ | refine blk_drew ?_ | refine blk_alloc ?_ _));exact BK143.out⟩,⟨by (with_reducible repeat (first | refine blk_drewN ?_ _ | refine blk_drew ?_ | refine blk_alloc ?_ _));refine blk_put (cs:=#[.int .i64 ((rd_T47 l0_1 x4_2).f0),.int .i64 ((rd_T47 l0_1 x4_2).f1),.int .i64 0]) ?_ 2 _ rfl;(with_reducible repeat (first | refine blk_drewN ?_ _ | refine blk_drew ?_ | refine blk_alloc ?_ _));refine blk_put (cs:=#[.int .i64 ((rd_T47 l0_1 x4_2).f0),.int .i64 0,.int .i64 0]) ?_ 1 _ rfl;(with_reducible repeat (first | refine blk_drewN ?_ _ | refine blk_drew ?_ | refine blk_alloc ?_ _));refine blk_put (cs:=#[.int .i64 0,.int .i64 0,.int .i64 0]) ?_ 0 _ rfl;(with_reducible repeat (first | refine blk_drewN ?_ _ | refine blk_drew ?_ | refine blk_alloc ?_ _));exact BK151.out⟩,⟨by repeat (first | (with_reducible first | exact HB.out | apply below_alloc | apply pw_below_drewN | apply below_drew1 | refine below_set ?_ GE143.out | refine below_set ?_ GE151.out) | exact HB.out)⟩⟩
          ·rw [if_neg c26] at H
           have c26b0 : (((rd_T47 l0_1 x4_2).f1) == ((rd_T47 l0_1 x4_2).f2)) = false:=beq_eq_false_iff_ne.mpr c26
           have c26b1 : (((rd_T47 l0_1 x4_2).f1) != ((rd_T47 l0_1 x4_2).f2)) = true:=bne_iff_ne.mpr c26
           have H':=aMx6 H
           clear H
           have hnb29:=NB151_143.out
           have hnc29:=NB143_151.out
           have hcz30_0 : w20.cell? ⟨gb151,0,none⟩ = some (.int .i64 0):=(blk_cell BK151.out 0).trans rfl
           have hcz30_1 : w20.cell? ⟨gb151,1,none⟩ = some (.int .i64 0):=(blk_cell BK151.out 1).trans rfl
           have hcz30_2 : w20.cell? ⟨gb151,2,none⟩ = some (.int .i64 0):=(blk_cell BK151.out 2).trans rfl
           have hfz30_0:=blk_frozen BK151.out 0
           have hfz30_1:=blk_frozen BK151.out 1
           have hfz30_2:=blk_frozen BK151.out 2
           go_wp2
           repeat (go_quiet (fail);try go_wp2)
           go_meet
           case rel => exact ⟨_,((((rd_T47 l0_1 x4_2).f2) == ((rd_T47 l0_1 x4_2).f0))),(by first | rfl | (simp;done) | (simp [*];done) | (simp [wrap64];done)),H',⟨by have:=HK1.out;have:=HK2.out;first | omega | exact Nat.le_refl _⟩,⟨by (with_reducible repeat (first | refine blk_drewN ?_ _ | refine blk_drew ?_ | refine blk_alloc ?_ _));refine blk_far ?_ NB143_151.out _;(with_reducible repeat (first | refine blk_drewN ?_ _ | refine blk_drew ?_ | refine blk_alloc ?_ _));refine blk_far ?_ NB143_151.out _;(with_reducible repeat (first | refine blk_drewN ?_ _ | refine blk_drew ?_ | refine blk_alloc ?_ _));refine blk_far ?_ NB143_151.out _;(with_reducible repeat (first | refine blk_drewN ?_ _ | refine blk_drew ?_ | refine blk_alloc ?_ _));exact BK143.out⟩,⟨by (with_reducible repeat (first | refine blk_drewN ?_ _ | refine blk_drew ?_ | refine blk_alloc ?_ _));refine blk_put (cs:=#[.int .i64 ((rd_T47 l0_1 x4_2).f0),.int .i64 ((rd_T47 l0_1 x4_2).f1),.int .i64 0]) ?_ 2 _ rfl;(with_reducible repeat (first | refine blk_drewN ?_ _ | refine blk_drew ?_ | refine blk_alloc ?_ _));refine blk_put (cs:=#[.int .i64 ((rd_T47 l0_1 x4_2).f0),.int .i64 0,.int .i64 0]) ?_ 1 _ rfl;(with_reducible repeat (first | refine blk_drewN ?_ _ | refine blk_drew ?_ | refine blk_alloc ?_ _));refine blk_put (cs:=#[.int .i64 0,.int .i64 0,.int .i64 0]) ?_ 0 _ rfl;(with_reducible repeat (first | refine blk_drewN ?_ _ | refine blk_drew ?_ | refine blk_alloc ?_ _));exact BK151.out⟩,⟨by repeat (first | (with_reducible first | exact HB.out | apply below_alloc | apply pw_below_drewN | apply below_drew1 | refine below_set ?_ GE143.out | refine below_set ?_ GE151.out) | exact HB.out)⟩⟩
        case rest =>
         clear HC18
         (try clear c1);(try clear p1);(try clear q1);(try clear hx1);(try clear c2);(try clear p2);(try clear c3);(try clear c3b0);(try clear c4);(try clear c4b0);(try clear c6);(try clear p6);(try clear c8);(try clear c10);(try clear p14);(try clear q14);(try clear hx14);(try clear p15);(try clear q15);(try clear hx15);(try clear c16);(try clear c16b0);(try clear c17);(try clear c17b0);(try clear c21);(try clear c23);(try clear c23b0);(try clear c23b1);(try clear c24);(try clear c26);(try clear c26b0);(try clear c26b1);(try clear c27);(try clear c29);(try clear hcz11_0);(try clear hcz11_1);(try clear hcz12_0);(try clear hcz12_1);(try clear hcz13_0);(try clear hcz13_1);(try clear hcz14_0);(try clear hcz14_1);(try clear hcz15_0);(try clear hcz15_1);(try clear hcz19_0);(try clear hcz19_1);(try clear hcz22_0);(try clear hcz22_1);(try clear hcz22_2);(try clear hcz25_0);(try clear hcz25_1);(try clear hcz25_2);(try clear hcz28_0);(try clear hcz28_1);(try clear hcz28_2);(try clear hcz30_0);(try clear hcz30_1);(try clear hcz30_2);(try clear hfz11_0);(try clear hfz11_1);(try clear hfz12_0);(try clear hfz12_1);(try clear hfz13_0);(try clear hfz13_1);(try clear hfz14_0);(try clear hfz14_1);(try clear hfz15_0);(try clear hfz15_1);(try clear hfz19_0);(try clear hfz19_1);(try clear hfz22_0);(try clear hfz22_1);(try clear hfz22_2);(try clear hfz25_0);(try clear hfz25_1);(try clear hfz25_2);(try clear hfz28_0);(try clear hfz28_1);(try clear hfz28_2);(try clear hfz30_0);(try clear hfz30_1);(try clear hfz30_2);(try clear hx144_0);(try clear hx144_1);(try clear hx144_2);(try clear hx146_0);(try clear hx146_1);(try clear hx146_2);(try clear hx148_0);(try clear hx148_1);(try clear hx148_2);(try clear hx150_0);(try clear hx150_1);(try clear hx150_2);(try clear p1);(try clear p14);(try clear p144);(try clear p146);(try clear p148);(try clear p150);(try clear p2);(try clear p6);(try clear q1);(try clear q14);(try clear q144);(try clear q146);(try clear q148);(try clear q150)
         obtain ⟨kq,x72_17,rfl,HA,HJ17,BK143,BK151,HB⟩:=hcut
         cases kq with
         | zero => exact absurd HA.out (by simp [lapidaryref10_plain.j2])
         | succ kj17 =>
          have H:=HA.out
          clear HA
          simp only [lapidaryref10_plain.j2] at H
          by_cases c31 : x72_17 = true
          ·subst c31
           have H1 : (some false) = some r:=by rw [if_pos rfl] at H;exact H
           clear H
           have H:=H1
           clear H1
           obtain rfl:=Option.some.inj H
           go_wp2
           repeat (go_quiet (fail);try go_wp2)
           go_ret
           exact ⟨by first | rfl | (simp [errW_none,errW_some]<;>rfl) | (simp [*,errW_none,errW_some]<;>rfl),by repeat (first | (with_reducible first | exact HB.out | apply below_alloc | apply pw_below_drewN | apply below_drew1 | refine below_set ?_ GE143.out | refine below_set ?_ GE151.out) | exact HB.out)⟩
          ·replace c31:=Bool.eq_false_iff.mpr c31
           subst c31
           have H1 : (lapidaryref10_plain.l2 kj17 x4_2 0 l0_0 l0_1 ((rd_T47 l0_1 x4_2).f0) ((rd_T47 l0_1 x4_2).f1) ((rd_T47 l0_1 x4_2).f2)) = some r:=by rw [if_neg (show ¬ (false = true) by decide)] at H;exact H
           clear H
           have H:=H1
           clear H1
           have H':=aMx6 H
           clear H
           go_wp2
           repeat (go_quiet (fail);try go_wp2)
           go_loopg [6] kj17 (fun kq v6 w' => ∃ (x6_4 : Int),v6 = .int .i64 x6_4 ∧ Aside0 (lapidaryref10_plain.l2 kq x4_2 x6_4 l0_0 l0_1 ((rd_T47 l0_1 x4_2).f0) ((rd_T47 l0_1 x4_2).f1) ((rd_T47 l0_1 x4_2).f2) = some r) ∧ Aside0 (kq ≤ kj17) ∧ Aside0 (w'.heap[gb143]? = some (.cells #[(.slice A0_0 l0_0.length c0_0),(.slice (some ad150) l0_1.length c0_1)] 25 (0,0))) ∧ Aside0 (w'.heap[gb151]? = some (.cells #[.int .i64 ((rd_T47 l0_1 x4_2).f0),.int .i64 ((rd_T47 l0_1 x4_2).f1),.int .i64 ((rd_T47 l0_1 x4_2).f2)] 47 (0,0))) ∧ Aside0 (Below w.heap.size w w'))
           case atStart => exact ⟨(0),(by first | rfl | (simp;done) | (simp [*];done) | (simp [wrap64];done)),H',⟨Nat.le_refl _⟩,⟨by (with_reducible repeat (first | refine blk_drewN ?_ _ | refine blk_drew ?_ | refine blk_alloc ?_ _));exact BK143.out⟩,⟨by (with_reducible repeat (first | refine blk_drewN ?_ _ | refine blk_drew ?_ | refine blk_alloc ?_ _));exact BK151.out⟩,⟨by repeat (first | (with_reducible first | exact HB.out | apply below_alloc | apply pw_below_drewN | apply below_drew1 | refine below_set ?_ GE143.out | refine below_set ?_ GE151.out) | exact HB.out)⟩⟩
           case round =>
            clear H'
            (try clear c1);(try clear p1);(try clear q1);(try clear hx1);(try clear c2);(try clear p2);(try clear c3);(try clear c3b0);(try clear c4);(try clear c4b0);(try clear c6);(try clear p6);(try clear c8);(try clear c10);(try clear p14);(try clear q14);(try clear hx14);(try clear p15);(try clear q15);(try clear hx15);(try clear c16);(try clear c16b0);(try clear c17);(try clear c17b0);(try clear c21);(try clear c23);(try clear c23b0);(try clear c23b1);(try clear c24);(try clear c26);(try clear c26b0);(try clear c26b1);(try clear c27);(try clear c29);(try clear c31);(try clear hcz11_0);(try clear hcz11_1);(try clear hcz12_0);(try clear hcz12_1);(try clear hcz13_0);(try clear hcz13_1);(try clear hcz14_0);(try clear hcz14_1);(try clear hcz15_0);(try clear hcz15_1);(try clear hcz19_0);(try clear hcz19_1);(try clear hcz22_0);(try clear hcz22_1);(try clear hcz22_2);(try clear hcz25_0);(try clear hcz25_1);(try clear hcz25_2);(try clear hcz28_0);(try clear hcz28_1);(try clear hcz28_2);(try clear hcz30_0);(try clear hcz30_1);(try clear hcz30_2);(try clear hfz11_0);(try clear hfz11_1);(try clear hfz12_0);(try clear hfz12_1);(try clear hfz13_0);(try clear hfz13_1);(try clear hfz14_0);(try clear hfz14_1);(try clear hfz15_0);(try clear hfz15_1);(try clear hfz19_0);(try clear hfz19_1);(try clear hfz22_0);(try clear hfz22_1);(try clear hfz22_2);(try clear hfz25_0);(try clear hfz25_1);(try clear hfz25_2);(try clear hfz28_0);(try clear hfz28_1);(try clear hfz28_2);(try clear hfz30_0);(try clear hfz30_1);(try clear hfz30_2);(try clear hx144_0);(try clear hx144_1);(try clear hx144_2);(try clear hx146_0);(try clear hx146_1);(try clear hx146_2);(try clear hx148_0);(try clear hx148_1);(try clear hx148_2);(try clear hx150_0);(try clear hx150_1);(try clear hx150_2);(try clear p1);(try clear p14);(try clear p144);(try clear p146);(try clear p148);(try clear p15);(try clear p150);(try clear p2);(try clear p6);(try clear q1);(try clear q14);(try clear q144);(try clear q146);(try clear q148);(try clear q15);(try clear q150)
            obtain ⟨x6_4,rfl,HA,HK4,BK143,BK151,HB⟩:=hrel
            cases gk with
            | zero => exact absurd HA.out (by simp [lapidaryref10_plain.l2])
            | succ k4 =>
             have H:=HA.out
             clear HA
             simp only [lapidaryref10_plain.l2] at H
             by_cases c32 : x6_4 < 3
             ·rw [if_pos c32] at H
              have c32b0 : decide (x6_4 < 3) = true:=decide_eq_true c32
              clear c32
              by_cases c33 : x6_4 = 0
              ·rw [if_pos c33] at H
               subst c33
               by_cases c34 : ((rd_T47 l0_1 x4_2).f0) < 0
               ·rw [if_pos c34] at H
                have c34b0 : decide (((rd_T47 l0_1 x4_2).f0) < 0) = true:=decide_eq_true c34
                clear c34
                obtain rfl:=Option.some.inj H
                have hnb35:=NB151_143.out
                have hnc35:=NB143_151.out
                have hcz36_0 : wr.cell? ⟨gb151,0,none⟩ = some (.int .i64 ((rd_T47 l0_1 x4_2).f0)):=(blk_cell BK151.out 0).trans rfl
                have hcz36_1 : wr.cell? ⟨gb151,1,none⟩ = some (.int .i64 ((rd_T47 l0_1 x4_2).f1)):=(blk_cell BK151.out 1).trans rfl
                have hcz36_2 : wr.cell? ⟨gb151,2,none⟩ = some (.int .i64 ((rd_T47 l0_1 x4_2).f2)):=(blk_cell BK151.out 2).trans rfl
                have hfz36_0:=blk_frozen BK151.out 0
                have hfz36_1:=blk_frozen BK151.out 1
                have hfz36_2:=blk_frozen BK151.out 2
                go_wp2
                repeat (go_quiet (fail);try go_wp2)
                go_ret
                exact ⟨by first | rfl | (simp [errW_none,errW_some]<;>rfl) | (simp [*,errW_none,errW_some]<;>rfl),by repeat (first | (with_reducible first | exact HB.out | apply below_alloc | apply pw_below_drewN | apply below_drew1 | refine below_set ?_ GE143.out | refine below_set ?_ GE151.out) | exact HB.out)⟩
               ·rw [if_neg c34] at H
                have c34b0 : decide (((rd_T47 l0_1 x4_2).f0) < 0) = false:=decide_eq_false c34
                clear c34
                by_cases c37 : ((rd_T47 l0_1 x4_2).f0) ≥ (l0_0.length : Int)
                ·rw [if_pos c37] at H
                 have c37b0 : decide ((l0_0.length : Int) ≤ ((rd_T47 l0_1 x4_2).f0)) = true:=decide_eq_true c37
                 clear c37
                 obtain rfl:=Option.some.inj H
                 have hnb38:=NB151_143.out
                 have hnc38:=NB143_151.out
                 have hcz39_0 : wr.cell? ⟨gb151,0,none⟩ = some (.int .i64 ((rd_T47 l0_1 x4_2).f0)):=(blk_cell BK151.out 0).trans rfl
                 have hcz39_1 : wr.cell? ⟨gb151,1,none⟩ = some (.int .i64 ((rd_T47 l0_1 x4_2).f1)):=(blk_cell BK151.out 1).trans rfl
                 have hcz39_2 : wr.cell? ⟨gb151,2,none⟩ = some (.int .i64 ((rd_T47 l0_1 x4_2).f2)):=(blk_cell BK151.out 2).trans rfl
                 have hfz39_0:=blk_frozen BK151.out 0
                 have hfz39_1:=blk_frozen BK151.out 1
                 have hfz39_2:=blk_frozen BK151.out 2
                 have hcz40_0 : wr.cell? ⟨gb143,0,none⟩ = some (.slice A0_0 l0_0.length c0_0):=(blk_cell BK143.out 0).trans rfl
                 have hcz40_1 : wr.cell? ⟨gb143,1,none⟩ = some (.slice (some ad150) l0_1.length c0_1):=(blk_cell BK143.out 1).trans rfl
                 have hfz40_0:=blk_frozen BK143.out 0
                 have hfz40_1:=blk_frozen BK143.out 1
                 go_wp2
                 repeat (go_quiet (fail);try go_wp2)
                 go_ret
                 exact ⟨by first | rfl | (simp [errW_none,errW_some]<;>rfl) | (simp [*,errW_none,errW_some]<;>rfl),by repeat (first | (with_reducible first | exact HB.out | apply below_alloc | apply pw_below_drewN | apply below_drew1 | refine below_set ?_ GE143.out | refine below_set ?_ GE151.out) | exact HB.out)⟩
                ·rw [if_neg c37] at H
                 have c37b0 : decide ((l0_0.length : Int) ≤ ((rd_T47 l0_1 x4_2).f0)) = false:=decide_eq_false c37
                 clear c37
                 have H':=aMx6 H
                 clear H
                 have hnb41:=NB151_143.out
                 have hnc41:=NB143_151.out
                 have hcz42_0 : wr.cell? ⟨gb151,0,none⟩ = some (.int .i64 ((rd_T47 l0_1 x4_2).f0)):=(blk_cell BK151.out 0).trans rfl
                 have hcz42_1 : wr.cell? ⟨gb151,1,none⟩ = some (.int .i64 ((rd_T47 l0_1 x4_2).f1)):=(blk_cell BK151.out 1).trans rfl
                 have hcz42_2 : wr.cell? ⟨gb151,2,none⟩ = some (.int .i64 ((rd_T47 l0_1 x4_2).f2)):=(blk_cell BK151.out 2).trans rfl
                 have hfz42_0:=blk_frozen BK151.out 0
                 have hfz42_1:=blk_frozen BK151.out 1
                 have hfz42_2:=blk_frozen BK151.out 2
                 have hcz43_0 : wr.cell? ⟨gb143,0,none⟩ = some (.slice A0_0 l0_0.length c0_0):=(blk_cell BK143.out 0).trans rfl
                 have hcz43_1 : wr.cell? ⟨gb143,1,none⟩ = some (.slice (some ad150) l0_1.length c0_1):=(blk_cell BK143.out 1).trans rfl
                 have hfz43_0:=blk_frozen BK143.out 0
                 have hfz43_1:=blk_frozen BK143.out 1
                 go_wp2
                 repeat (go_quiet (fail);try go_wp2)
                 go_roundg k4
                 case measure => have:=HK1.out;have:=HK2.out;have:=HJ17.out;have:=HK4.out;omega
                 case rel => exact ⟨(wrap64 (0+1)),(by first | rfl | (simp;done) | (simp [*];done) | (simp [wrap64];done)),H',⟨by have:=HK1.out;have:=HK2.out;have:=HJ17.out;have:=HK4.out;omega⟩,⟨by (with_reducible repeat (first | refine blk_drewN ?_ _ | refine blk_drew ?_ | refine blk_alloc ?_ _));exact BK143.out⟩,⟨by (with_reducible repeat (first | refine blk_drewN ?_ _ | refine blk_drew ?_ | refine blk_alloc ?_ _));exact BK151.out⟩,⟨by repeat (first | (with_reducible first | exact HB.out | apply below_alloc | apply pw_below_drewN | apply below_drew1 | refine below_set ?_ GE143.out | refine below_set ?_ GE151.out) | exact HB.out)⟩⟩
              ·rw [if_neg c33] at H
               by_cases c44 : x6_4 = 1
               ·rw [if_pos c44] at H
                subst c44
                by_cases c45 : ((rd_T47 l0_1 x4_2).f1) < 0
                ·rw [if_pos c45] at H
                 have c45b0 : decide (((rd_T47 l0_1 x4_2).f1) < 0) = true:=decide_eq_true c45
                 clear c45
                 obtain rfl:=Option.some.inj H
                 have hnb46:=NB151_143.out
                 have hnc46:=NB143_151.out
                 have hcz47_0 : wr.cell? ⟨gb151,0,none⟩ = some (.int .i64 ((rd_T47 l0_1 x4_2).f0)):=(blk_cell BK151.out 0).trans rfl
                 have hcz47_1 : wr.cell? ⟨gb151,1,none⟩ = some (.int .i64 ((rd_T47 l0_1 x4_2).f1)):=(blk_cell BK151.out 1).trans rfl
                 have hcz47_2 : wr.cell? ⟨gb151,2,none⟩ = some (.int .i64 ((rd_T47 l0_1 x4_2).f2)):=(blk_cell BK151.out 2).trans rfl
                 have hfz47_0:=blk_frozen BK151.out 0
                 have hfz47_1:=blk_frozen BK151.out 1
                 have hfz47_2:=blk_frozen BK151.out 2
                 go_wp2
                 repeat (go_quiet (fail);try go_wp2)
                 go_ret
                 exact ⟨by first | rfl | (simp [errW_none,errW_some]<;>rfl) | (simp [*,errW_none,errW_some]<;>rfl),by repeat (first | (with_reducible first | exact HB.out | apply below_alloc | apply pw_below_drewN | apply below_drew1 | refine below_set ?_ GE143.out | refine below_set ?_ GE151.out) | exact HB.out)⟩
                ·rw [if_neg c45] at H
                 have c45b0 : decide (((rd_T47 l0_1 x4_2).f1) < 0) = false:=decide_eq_false c45
                 clear c45
                 by_cases c48 : ((rd_T47 l0_1 x4_2).f1) ≥ (l0_0.length : Int)
                 ·rw [if_pos c48] at H
                  have c48b0 : decide ((l0_0.length : Int) ≤ ((rd_T47 l0_1 x4_2).f1)) = true:=decide_eq_true c48
                  clear c48
                  obtain rfl:=Option.some.inj H
                  have hnb49:=NB151_143.out
                  have hnc49:=NB143_151.out
                  have hcz50_0 : wr.cell? ⟨gb151,0,none⟩ = some (.int .i64 ((rd_T47 l0_1 x4_2).f0)):=(blk_cell BK151.out 0).trans rfl
                  have hcz50_1 : wr.cell? ⟨gb151,1,none⟩ = some (.int .i64 ((rd_T47 l0_1 x4_2).f1)):=(blk_cell BK151.out 1).trans rfl
                  have hcz50_2 : wr.cell? ⟨gb151,2,none⟩ = some (.int .i64 ((rd_T47 l0_1 x4_2).f2)):=(blk_cell BK151.out 2).trans rfl
                  have hfz50_0:=blk_frozen BK151.out 0
                  have hfz50_1:=blk_frozen BK151.out 1
                  have hfz50_2:=blk_frozen BK151.out 2
                  have hcz51_0 : wr.cell? ⟨gb143,0,none⟩ = some (.slice A0_0 l0_0.length c0_0):=(blk_cell BK143.out 0).trans rfl
                  have hcz51_1 : wr.cell? ⟨gb143,1,none⟩ = some (.slice (some ad150) l0_1.length c0_1):=(blk_cell BK143.out 1).trans rfl
                  have hfz51_0:=blk_frozen BK143.out 0
                  have hfz51_1:=blk_frozen BK143.out 1
                  go_wp2
                  repeat (go_quiet (fail);try go_wp2)
                  go_ret
                  exact ⟨by first | rfl | (simp [errW_none,errW_some]<;>rfl) | (simp [*,errW_none,errW_some]<;>rfl),by repeat (first | (with_reducible first | exact HB.out | apply below_alloc | apply pw_below_drewN | apply below_drew1 | refine below_set ?_ GE143.out | refine below_set ?_ GE151.out) | exact HB.out)⟩
                 ·rw [if_neg c48] at H
                  have c48b0 : decide ((l0_0.length : Int) ≤ ((rd_T47 l0_1 x4_2).f1)) = false:=decide_eq_false c48
                  clear c48
                  have H':=aMx6 H
                  clear H
                  have hnb52:=NB151_143.out
                  have hnc52:=NB143_151.out
                  have hcz53_0 : wr.cell? ⟨gb151,0,none⟩ = some (.int .i64 ((rd_T47 l0_1 x4_2).f0)):=(blk_cell BK151.out 0).trans rfl
                  have hcz53_1 : wr.cell? ⟨gb151,1,none⟩ = some (.int .i64 ((rd_T47 l0_1 x4_2).f1)):=(blk_cell BK151.out 1).trans rfl
                  have hcz53_2 : wr.cell? ⟨gb151,2,none⟩ = some (.int .i64 ((rd_T47 l0_1 x4_2).f2)):=(blk_cell BK151.out 2).trans rfl
                  have hfz53_0:=blk_frozen BK151.out 0
                  have hfz53_1:=blk_frozen BK151.out 1
                  have hfz53_2:=blk_frozen BK151.out 2
                  have hcz54_0 : wr.cell? ⟨gb143,0,none⟩ = some (.slice A0_0 l0_0.length c0_0):=(blk_cell BK143.out 0).trans rfl
                  have hcz54_1 : wr.cell? ⟨gb143,1,none⟩ = some (.slice (some ad150) l0_1.length c0_1):=(blk_cell BK143.out 1).trans rfl
                  have hfz54_0:=blk_frozen BK143.out 0
                  have hfz54_1:=blk_frozen BK143.out 1
                  go_wp2
                  repeat (go_quiet (fail);try go_wp2)
                  go_roundg k4
                  case measure => have:=HK1.out;have:=HK2.out;have:=HJ17.out;have:=HK4.out;omega
                  case rel => exact ⟨(wrap64 (1+1)),(by first | rfl | (simp;done) | (simp [*];done) | (simp [wrap64];done)),H',⟨by have:=HK1.out;have:=HK2.out;have:=HJ17.out;have:=HK4.out;omega⟩,⟨by (with_reducible repeat (first | refine blk_drewN ?_ _ | refine blk_drew ?_ | refine blk_alloc ?_ _));exact BK143.out⟩,⟨by (with_reducible repeat (first | refine blk_drewN ?_ _ | refine blk_drew ?_ | refine blk_alloc ?_ _));exact BK151.out⟩,⟨by repeat (first | (with_reducible first | exact HB.out | apply below_alloc | apply pw_below_drewN | apply below_drew1 | refine below_set ?_ GE143.out | refine below_set ?_ GE151.out) | exact HB.out)⟩⟩
               ·rw [if_neg c44] at H
                by_cases c55 : x6_4 = 2
                ·rw [if_pos c55] at H
                 subst c55
                 by_cases c56 : ((rd_T47 l0_1 x4_2).f2) < 0
                 ·rw [if_pos c56] at H
                  have c56b0 : decide (((rd_T47 l0_1 x4_2).f2) < 0) = true:=decide_eq_true c56
                  clear c56
                  obtain rfl:=Option.some.inj H
                  have hnb57:=NB151_143.out
                  have hnc57:=NB143_151.out
                  have hcz58_0 : wr.cell? ⟨gb151,0,none⟩ = some (.int .i64 ((rd_T47 l0_1 x4_2).f0)):=(blk_cell BK151.out 0).trans rfl
                  have hcz58_1 : wr.cell? ⟨gb151,1,none⟩ = some (.int .i64 ((rd_T47 l0_1 x4_2).f1)):=(blk_cell BK151.out 1).trans rfl
                  have hcz58_2 : wr.cell? ⟨gb151,2,none⟩ = some (.int .i64 ((rd_T47 l0_1 x4_2).f2)):=(blk_cell BK151.out 2).trans rfl
                  have hfz58_0:=blk_frozen BK151.out 0
                  have hfz58_1:=blk_frozen BK151.out 1
                  have hfz58_2:=blk_frozen BK151.out 2
                  go_wp2
                  repeat (go_quiet (fail);try go_wp2)
                  go_ret
                  exact ⟨by first | rfl | (simp [errW_none,errW_some]<;>rfl) | (simp [*,errW_none,errW_some]<;>rfl),by repeat (first | (with_reducible first | exact HB.out | apply below_alloc | apply pw_below_drewN | apply below_drew1 | refine below_set ?_ GE143.out | refine below_set ?_ GE151.out) | exact HB.out)⟩
                 ·rw [if_neg c56] at H
                  have c56b0 : decide (((rd_T47 l0_1 x4_2).f2) < 0) = false:=decide_eq_false c56
                  clear c56
                  by_cases c59 : ((rd_T47 l0_1 x4_2).f2) ≥ (l0_0.length : Int)
                  ·rw [if_pos c59] at H
                   have c59b0 : decide ((l0_0.length : Int) ≤ ((rd_T47 l0_1 x4_2).f2)) = true:=decide_eq_true c59
                   clear c59
                   obtain rfl:=Option.some.inj H
                   have hnb60:=NB151_143.out
                   have hnc60:=NB143_151.out
                   have hcz61_0 : wr.cell? ⟨gb151,0,none⟩ = some (.int .i64 ((rd_T47 l0_1 x4_2).f0)):=(blk_cell BK151.out 0).trans rfl
                   have hcz61_1 : wr.cell? ⟨gb151,1,none⟩ = some (.int .i64 ((rd_T47 l0_1 x4_2).f1)):=(blk_cell BK151.out 1).trans rfl
                   have hcz61_2 : wr.cell? ⟨gb151,2,none⟩ = some (.int .i64 ((rd_T47 l0_1 x4_2).f2)):=(blk_cell BK151.out 2).trans rfl
                   have hfz61_0:=blk_frozen BK151.out 0
                   have hfz61_1:=blk_frozen BK151.out 1
                   have hfz61_2:=blk_frozen BK151.out 2
                   have hcz62_0 : wr.cell? ⟨gb143,0,none⟩ = some (.slice A0_0 l0_0.length c0_0):=(blk_cell BK143.out 0).trans rfl
                   have hcz62_1 : wr.cell? ⟨gb143,1,none⟩ = some (.slice (some ad150) l0_1.length c0_1):=(blk_cell BK143.out 1).trans rfl
                   have hfz62_0:=blk_frozen BK143.out 0
                   have hfz62_1:=blk_frozen BK143.out 1
                   go_wp2
                   repeat (go_quiet (fail);try go_wp2)
                   go_ret
                   exact ⟨by first | rfl | (simp [errW_none,errW_some]<;>rfl) | (simp [*,errW_none,errW_some]<;>rfl),by repeat (first | (with_reducible first | exact HB.out | apply below_alloc | apply pw_below_drewN | apply below_drew1 | refine below_set ?_ GE143.out | refine below_set ?_ GE151.out) | exact HB.out)⟩
                  ·rw [if_neg c59] at H
                   have c59b0 : decide ((l0_0.length : Int) ≤ ((rd_T47 l0_1 x4_2).f2)) = false:=decide_eq_false c59
                   clear c59
                   have H':=aMx6 H
                   clear H
                   have hnb63:=NB151_143.out
                   have hnc63:=NB143_151.out
                   have hcz64_0 : wr.cell? ⟨gb151,0,none⟩ = some (.int .i64 ((rd_T47 l0_1 x4_2).f0)):=(blk_cell BK151.out 0).trans rfl
                   have hcz64_1 : wr.cell? ⟨gb151,1,none⟩ = some (.int .i64 ((rd_T47 l0_1 x4_2).f1)):=(blk_cell BK151.out 1).trans rfl
                   have hcz64_2 : wr.cell? ⟨gb151,2,none⟩ = some (.int .i64 ((rd_T47 l0_1 x4_2).f2)):=(blk_cell BK151.out 2).trans rfl
                   have hfz64_0:=blk_frozen BK151.out 0
                   have hfz64_1:=blk_frozen BK151.out 1
                   have hfz64_2:=blk_frozen BK151.out 2
                   have hcz65_0 : wr.cell? ⟨gb143,0,none⟩ = some (.slice A0_0 l0_0.length c0_0):=(blk_cell BK143.out 0).trans rfl
                   have hcz65_1 : wr.cell? ⟨gb143,1,none⟩ = some (.slice (some ad150) l0_1.length c0_1):=(blk_cell BK143.out 1).trans rfl
                   have hfz65_0:=blk_frozen BK143.out 0
                   have hfz65_1:=blk_frozen BK143.out 1
                   go_wp2
                   repeat (go_quiet (fail);try go_wp2)
                   go_roundg k4
                   case measure => have:=HK1.out;have:=HK2.out;have:=HJ17.out;have:=HK4.out;omega
                   case rel => exact ⟨(wrap64 (2+1)),(by first | rfl | (simp;done) | (simp [*];done) | (simp [wrap64];done)),H',⟨by have:=HK1.out;have:=HK2.out;have:=HJ17.out;have:=HK4.out;omega⟩,⟨by (with_reducible repeat (first | refine blk_drewN ?_ _ | refine blk_drew ?_ | refine blk_alloc ?_ _));exact BK143.out⟩,⟨by (with_reducible repeat (first | refine blk_drewN ?_ _ | refine blk_drew ?_ | refine blk_alloc ?_ _));exact BK151.out⟩,⟨by repeat (first | (with_reducible first | exact HB.out | apply below_alloc | apply pw_below_drewN | apply below_drew1 | refine below_set ?_ GE143.out | refine below_set ?_ GE151.out) | exact HB.out)⟩⟩
                ·rw [if_neg c55] at H
                 exact absurd H (by simp)
             ·rw [if_neg c32] at H
              have c32b0 : decide (x6_4 < 3) = false:=decide_eq_false c32
              clear c32
              have H':=aMx6 H
              clear H
              go_wp2
              repeat (go_quiet (fail);try go_wp2)
              go_roundg k4
              case measure => have:=HK1.out;have:=HK2.out;have:=HJ17.out;have:=HK4.out;omega
              case rel => exact ⟨(wrap64 (x4_2+1)),(by first | rfl | (simp;done) | (simp [*];done) | (simp [wrap64];done)),H',⟨by have:=HK1.out;have:=HK2.out;have:=HJ17.out;have:=HK4.out;omega⟩,⟨by (with_reducible repeat (first | refine blk_drewN ?_ _ | refine blk_drew ?_ | refine blk_alloc ?_ _));exact BK143.out⟩,⟨by repeat (first | (with_reducible first | exact HB.out | apply below_alloc | apply pw_below_drewN | apply below_drew1 | refine below_set ?_ GE143.out | refine below_set ?_ GE151.out) | exact HB.out)⟩⟩
       ·rw [if_neg c17] at H
        exact absurd H (by simp)
      ·rw [if_neg c16] at H
       have c16b0 : decide (x4_2 < (l0_1.length : Int)) = false:=decide_eq_false c16
       clear c16
       obtain rfl:=Option.some.inj H
       have hcz66_0 : wr.cell? ⟨gb143,0,none⟩ = some (.slice A0_0 l0_0.length c0_0):=(blk_cell BK143.out 0).trans rfl
       have hcz66_1 : wr.cell? ⟨gb143,1,none⟩ = some (.slice A0_1 l0_1.length c0_1):=(blk_cell BK143.out 1).trans rfl
       have hfz66_0:=blk_frozen BK143.out 0
       have hfz66_1:=blk_frozen BK143.out 1
       go_wp2
       repeat (go_quiet (fail);try go_wp2)
       go_ret
       exact ⟨by first | rfl | (simp [errW_none,errW_some]<;>rfl) | (simp [*,errW_none,errW_some]<;>rfl),by repeat (first | (with_reducible first | exact HB.out | apply below_alloc | apply pw_below_drewN | apply below_drew1 | refine below_set ?_ GE143.out) | exact HB.out)⟩
end Go.Proofs.YtomknjmgcbbjlaaDoor.PWlk
