import Derived.Test.YtomknjmgcbbjlaaDoorPWlkx0
import Derived.Test.YtomknjmgcbbjlaaDoorPWlkx3
namespace Go.Proofs.YtomknjmgcbbjlaaDoor.PWlk
open Go Go.RowKit Go.Proofs.YtomknjmgcbbjlaaDoorW.PrintWords Go.Proofs.YtomknjmgcbbjlaaDoorW.PrintLast Go.Proofs.YtomknjmgcbbjlaaDoorW.PrintMore
attribute [local go_sem] max2_int min2_int max_two min_two max_three min_three max_four min_four
set_option linter.unusedVariables false
set_option maxRecDepth 100000
set_option linter.unusedSimpArgs false
attribute [local go_sem high] eqA62
attribute [local go_sem] idx47_0_0 idx47_1_0 idx47_2_0 idx107_0_0 idx107_1_0
theorem aMx5 {p : Prop} (h : p) : Aside0 p := ⟨h⟩
def mesh_after.f (l0_0 : List (S46)) (l0_1 : List (S47)) (a1 : Int) (a2_0 : Int) (a2_1 : Int) : Option (Int) := if 0 ≤ a1 then (if a1 < (l0_1.length : Int) then (some (wrap64 ((wrap64 ((wrap64 ((wrap64 (((rd_T47 l0_1 a1).f0) + ((rd_T47 l0_1 a1).f1))) + ((rd_T47 l0_1 a1).f2))) - a2_0)) - a2_1))) else (none)) else (none)
set_option maxHeartbeats 8000000 in
set_option maxRecDepth 100000 in
theorem mesh_after.calls (A0_0 : Option Addr) (c0_0 : Nat) (l0_0 : List (S46)) (A0_1 : Option Addr) (c0_1 : Nat) (l0_1 : List (S47)) (a1 : Int) (a2_0 : Int) (a2_1 : Int) (r : Int) (w : World) (hr0_0 : Kd.C k46 w A0_0 l0_0.length l0_0) (hc0_0 : l0_0.length ≤ c0_0) (hr0_1 : Kd.C k47 w A0_1 l0_1.length l0_1) (hc0_1 : l0_1.length ≤ c0_1) (h : mesh_after.f l0_0 l0_1 a1 a2_0 a2_1 = some r) :
  Calls Tryd.prog 100 #[.agg #[.slice A0_0 l0_0.length c0_0,.slice A0_1 l0_1.length c0_1],.int .i64 a1,.agg #[.int .i64 a2_0,.int .i64 a2_1]] w fun e w' => e = .returned (.int .i64 r) ∧ Below w.heap.size w w':=by
 have hu25:=Tryd.underlying25
 have hu107:=Tryd.underlying107
 have hu47:=Tryd.underlying47
 have HR0_0:=aMx5 hr0_0
 have HC0_0:=aMx5 hc0_0
 clear hr0_0 hc0_0
 have HR0_1:=aMx5 hr0_1
 have HC0_1:=aMx5 hc0_1
 clear hr0_1 hc0_1
 have HB:=aMx5 (Below.refl w.heap.size w)
 have H : (if 0 ≤ a1 then (if a1 < (l0_1.length : Int) then (some (wrap64 ((wrap64 ((wrap64 ((wrap64 (((rd_T47 l0_1 a1).f0)+((rd_T47 l0_1 a1).f1)))+((rd_T47 l0_1 a1).f2))) - a2_0)) - a2_1))) else (none)) else (none)) = some r:=h
 clear h
 by_cases c4 : 0 ≤ a1
 ·rw [if_pos c4] at H
  have c4b0 : decide (0 ≤ a1) = true:=decide_eq_true c4
  clear c4
  by_cases c5 : a1 < (l0_1.length : Int)
  ·rw [if_pos c5] at H
   have c5b0 : decide (a1 < (l0_1.length : Int)) = true:=decide_eq_true c5
   clear c5
   obtain rfl:=Option.some.inj H
   go_enter Tryd.func100,Tryd.ntmps100
   go_wp2_with (first|((with_reducible refine gate_dst (N:=3) rfl ?_);refine box_event ?hg (N:=3) ?hd (cs:=#[.slice A0_0 l0_0.length c0_0,.slice A0_1 l0_1.length c0_1]) (t:=25) ?hr ?_;(case hd => rfl);(case hg => rfl);(case hr => first|(go_simp;done)|(go_simp;rfl));intro gb111 hg w6 hbox hb;have n0_:=aMx5 (below_step (by repeat (with_reducible first|exact HB.out|apply below_alloc|apply pw_below_drewN|apply below_drew1)) hb);have n1_:=aMx5 (hbox);have n2_:=aMx5 ((by rw [hg];exact (below_size (by repeat (with_reducible first|exact HB.out|apply below_alloc|apply pw_below_drewN|apply below_drew1))) : w.heap.size ≤ gb111));have n3_:=aMx5 ((by rw [hg];exact (below_size (by repeat (with_reducible first|exact HB.out|apply below_alloc|apply pw_below_drewN|apply below_drew1))) : w.heap.size ≤ gb111));clear HB;have HB:=n0_;have BK111:=n1_;have GW111:=n2_;have GE111:=n3_;clear n0_ n1_ n2_ n3_;clear hb hbox hg)|((with_reducible refine gate_dst (N:=5) rfl ?_);refine box_event ?hg (N:=5) ?hd (cs:=#[.int .i64 a2_0,.int .i64 a2_1]) (t:=107) ?hr ?_;(case hd => rfl);(case hg => rfl);(case hr => first|(go_simp;done)|(go_simp;rfl));intro gb112 hg w7 hbox hb;have n0_:=aMx5 (blk_below (g:=gb111) (o:=.cells #[.slice A0_0 l0_0.length c0_0,.slice A0_1 l0_1.length c0_1] 25 (0,0)) (by (with_reducible repeat (first|refine blk_drewN ?_ _|refine blk_drew ?_|refine blk_alloc ?_ _));exact BK111.out) hb);have n1_:=aMx5 (below_step (by repeat (first|(with_reducible first|exact HB.out|apply below_alloc|apply pw_below_drewN|apply below_drew1|refine below_set ?_ GE111.out)|exact HB.out)) hb);have n2_:=aMx5 (hbox);have n3_:=aMx5 ((by rw [hg];exact (below_size (by repeat (first|(with_reducible first|exact HB.out|apply below_alloc|apply pw_below_drewN|apply below_drew1|refine below_set ?_ GE111.out)|exact HB.out))) : w.heap.size ≤ gb112));have n4_:=aMx5 ((by rw [hg];exact (below_size (by repeat (first|(with_reducible first|exact HB.out|apply below_alloc|apply pw_below_drewN|apply below_drew1|refine below_set ?_ GE111.out)|exact HB.out))) : w.heap.size ≤ gb112));have n5_:=aMx5 ((by rw [hg];exact Nat.ne_of_lt (blk_lt (g:=gb111) (o:=.cells #[.slice A0_0 l0_0.length c0_0,.slice A0_1 l0_1.length c0_1] 25 (0,0)) (by (with_reducible repeat (first|refine blk_drewN ?_ _|refine blk_drew ?_|refine blk_alloc ?_ _));exact BK111.out)) : gb111 ≠ gb112));have n6_:=aMx5 ((by rw [hg];exact Nat.ne_of_gt (blk_lt (g:=gb111) (o:=.cells #[.slice A0_0 l0_0.length c0_0,.slice A0_1 l0_1.length c0_1] 25 (0,0)) (by (with_reducible repeat (first|refine blk_drewN ?_ _|refine blk_drew ?_|refine blk_alloc ?_ _));exact BK111.out)) : gb112 ≠ gb111));clear BK111;clear HB;have BK111:=n0_;have HB:=n1_;have BK112:=n2_;have GW112:=n3_;have GE112:=n4_;have NB111_112:=n5_;have NB112_111:=n6_;clear n0_ n1_ n2_ n3_ n4_ n5_ n6_;clear hb hbox hg;have hnb8:=NB111_112.out;have hnc8:=NB112_111.out;have hcz9_0 : w7.cell? ⟨gb111,0,none⟩ = some (.slice A0_0 l0_0.length c0_0):=(blk_cell BK111.out 0).trans rfl;have hcz9_1 : w7.cell? ⟨gb111,1,none⟩ = some (.slice A0_1 l0_1.length c0_1):=(blk_cell BK111.out 1).trans rfl;have hfz9_0:=blk_frozen BK111.out 0;have hfz9_1:=blk_frozen BK111.out 1;have p113 : 0 ≤ (a1 : Int):=of_decide_eq_true (by first|(with_reducible assumption)|assumption);have q113 : a1 < (l0_1.length : Int):=of_decide_eq_true (by first|(with_reducible assumption)|assumption);obtain ⟨ad113,e113,hx113_0,hx113_1,hx113_2⟩:=at_T47 HR0_1.out a1 p113 q113;cases e113;replace hx113_0:=(HB.out.cell (World.block_lt_of_cell? w _ hx113_0)).trans hx113_0;replace hx113_1:=(HB.out.cell (World.block_lt_of_cell? w _ hx113_1)).trans hx113_1;replace hx113_2:=(HB.out.cell (World.block_lt_of_cell? w _ hx113_2)).trans hx113_2;replace p113:=eq_true p113;replace q113:=eq_true q113)|((with_reducible refine gate_dst (N:=7) rfl ?_);refine box_event ?hg (N:=7) ?hd (cs:=#[.int .i64 0,.int .i64 0,.int .i64 0]) (t:=47) ?hr ?_;(case hd => rfl);(case hg => rfl);(case hr => first|(go_simp;done)|(go_simp;rfl));intro gb114 hg w10 hbox hb;have n0_:=aMx5 (blk_below (g:=gb111) (o:=.cells #[.slice A0_0 l0_0.length c0_0,.slice (some ad113) l0_1.length c0_1] 25 (0,0)) (by (with_reducible repeat (first|refine blk_drewN ?_ _|refine blk_drew ?_|refine blk_alloc ?_ _));exact BK111.out) hb);have n1_:=aMx5 (blk_below (g:=gb112) (o:=.cells #[.int .i64 a2_0,.int .i64 a2_1] 107 (0,0)) (by (with_reducible repeat (first|refine blk_drewN ?_ _|refine blk_drew ?_|refine blk_alloc ?_ _));exact BK112.out) hb);have n2_:=aMx5 (below_step (by repeat (first|(with_reducible first|exact HB.out|apply below_alloc|apply pw_below_drewN|apply below_drew1|refine below_set ?_ GE111.out|refine below_set ?_ GE112.out)|exact HB.out)) hb);have n3_:=aMx5 (hbox);have n4_:=aMx5 ((by rw [hg];exact (below_size (by repeat (first|(with_reducible first|exact HB.out|apply below_alloc|apply pw_below_drewN|apply below_drew1|refine below_set ?_ GE111.out|refine below_set ?_ GE112.out)|exact HB.out))) : w.heap.size ≤ gb114));have n5_:=aMx5 ((by rw [hg];exact (below_size (by repeat (first|(with_reducible first|exact HB.out|apply below_alloc|apply pw_below_drewN|apply below_drew1|refine below_set ?_ GE111.out|refine below_set ?_ GE112.out)|exact HB.out))) : w.heap.size ≤ gb114));have n6_:=aMx5 ((by rw [hg];exact Nat.ne_of_lt (blk_lt (g:=gb111) (o:=.cells #[.slice A0_0 l0_0.length c0_0,.slice (some ad113) l0_1.length c0_1] 25 (0,0)) (by (with_reducible repeat (first|refine blk_drewN ?_ _|refine blk_drew ?_|refine blk_alloc ?_ _));exact BK111.out)) : gb111 ≠ gb114));have n7_:=aMx5 ((by rw [hg];exact Nat.ne_of_gt (blk_lt (g:=gb111) (o:=.cells #[.slice A0_0 l0_0.length c0_0,.slice (some ad113) l0_1.length c0_1] 25 (0,0)) (by (with_reducible repeat (first|refine blk_drewN ?_ _|refine blk_drew ?_|refine blk_alloc ?_ _));exact BK111.out)) : gb114 ≠ gb111));have n8_:=aMx5 ((by rw [hg];exact Nat.ne_of_lt (blk_lt (g:=gb112) (o:=.cells #[.int .i64 a2_0,.int .i64 a2_1] 107 (0,0)) (by (with_reducible repeat (first|refine blk_drewN ?_ _|refine blk_drew ?_|refine blk_alloc ?_ _));exact BK112.out)) : gb112 ≠ gb114));have n9_:=aMx5 ((by rw [hg];exact Nat.ne_of_gt (blk_lt (g:=gb112) (o:=.cells #[.int .i64 a2_0,.int .i64 a2_1] 107 (0,0)) (by (with_reducible repeat (first|refine blk_drewN ?_ _|refine blk_drew ?_|refine blk_alloc ?_ _));exact BK112.out)) : gb114 ≠ gb112));clear BK111;clear BK112;clear HB;have BK111:=n0_;have BK112:=n1_;have HB:=n2_;have BK114:=n3_;have GW114:=n4_;have GE114:=n5_;have NB111_114:=n6_;have NB114_111:=n7_;have NB112_114:=n8_;have NB114_112:=n9_;clear n0_ n1_ n2_ n3_ n4_ n5_ n6_ n7_ n8_ n9_;clear hb hbox hg;have hnb11:=NB114_111.out;have hnc11:=NB111_114.out;have hnb12:=NB114_112.out;have hnc12:=NB112_114.out;have hcz13_0 : w10.cell? ⟨gb114,0,none⟩ = some (.int .i64 0):=(blk_cell BK114.out 0).trans rfl;have hcz13_1 : w10.cell? ⟨gb114,1,none⟩ = some (.int .i64 0):=(blk_cell BK114.out 1).trans rfl;have hcz13_2 : w10.cell? ⟨gb114,2,none⟩ = some (.int .i64 0):=(blk_cell BK114.out 2).trans rfl;have hfz13_0:=blk_frozen BK114.out 0;have hfz13_1:=blk_frozen BK114.out 1;have hfz13_2:=blk_frozen BK114.out 2;have hcz14_0 : w10.cell? ⟨gb112,0,none⟩ = some (.int .i64 a2_0):=(blk_cell BK112.out 0).trans rfl;have hcz14_1 : w10.cell? ⟨gb112,1,none⟩ = some (.int .i64 a2_1):=(blk_cell BK112.out 1).trans rfl;have hfz14_0:=blk_frozen BK112.out 0;have hfz14_1:=blk_frozen BK112.out 1))
   go_ret
   exact ⟨by first | rfl | (simp [errW_none,errW_some]<;>rfl) | (simp [*,errW_none,errW_some]<;>rfl),by repeat (first | (with_reducible first | exact HB.out | apply below_alloc | apply pw_below_drewN | apply below_drew1 | refine below_set ?_ GE111.out | refine below_set ?_ GE112.out | refine below_set ?_ GE114.out) | exact HB.out)⟩
  ·rw [if_neg c5] at H
   exact absurd H (by simp)
 ·rw [if_neg c4] at H
  exact absurd H (by simp)
def lapidaryref11_SameSteps.l0 : Nat → List (S62) → List (S62) → Int → Option (Bool)
  | 0, _, _, _ => none
  | k + 1, x0, x1, x5 => if x5 < (x0.length : Int) then (if 0 ≤ x5 then (if x5 < (x1.length : Int) then (if (!(((rd_T62 x0 x5).f0) == ((rd_T62 x1 x5).f0)) || (!(((rd_T62 x0 x5).f1) == ((rd_T62 x1 x5).f1)))) = true then (some false) else (lapidaryref11_SameSteps.l0 k x0 x1 (wrap64 (x5 + 1)))) else (none)) else (none)) else (some true)
def lapidaryref11_SameSteps.f (k : Nat) (l0 : List (S62)) (l1 : List (S62)) : Option (Bool) := if (l0.length : Int) = (l1.length : Int) then (lapidaryref11_SameSteps.l0 k l0 l1 0) else (some false)
set_option maxHeartbeats 8000000 in
set_option maxRecDepth 100000 in
theorem lapidaryref11_SameSteps.calls (k : Nat) (A0 : Option Addr) (c0 : Nat) (l0 : List (S62)) (A1 : Option Addr) (c1 : Nat) (l1 : List (S62)) (r : Bool) (w : World) (hr0 : Kd.C k62 w A0 l0.length l0) (hc0 : l0.length ≤ c0) (hr1 : Kd.C k62 w A1 l1.length l1) (hc1 : l1.length ≤ c1) (h : lapidaryref11_SameSteps.f k l0 l1 = some r) :
  Calls Tryd.prog 23 #[.slice A0 l0.length c0,.slice A1 l1.length c1] w fun e w' => e = .returned (.bool r) ∧ Drawn0 w w':=by
 have hu62:=Tryd.underlying62
 have HR0:=aMx5 hr0
 have HC0:=aMx5 hc0
 clear hr0 hc0
 have HR1:=aMx5 hr1
 have HC1:=aMx5 hc1
 clear hr1 hc1
 have H : (if (l0.length : Int) = (l1.length : Int) then (lapidaryref11_SameSteps.l0 k l0 l1 0) else (some false)) = some r:=h
 clear h
 by_cases c3 : (l0.length : Int) = (l1.length : Int)
 ·rw [if_pos c3] at H
  have c3b0 : ((l0.length : Int) == (l1.length : Int)) = true:=beq_iff_eq.mpr c3
  have c3b1 : ((l0.length : Int) != (l1.length : Int)) = false:=bne_eq_false_iff_eq.mpr c3
  have c3b2 : (l0.length == l1.length) = true:=by first | simpa using c3 | (simp at c3 ⊢;omega)
  clear c3
  have H':=aMx5 H
  clear H
  go_enter Tryd.func23,Tryd.ntmps23
  go_wp2
  repeat (go_quiet (fail);try go_wp2)
  go_loopg [5] k (fun kq v5 w' => ∃ (x5_1 : Int),v5 = .int .i64 x5_1 ∧ Aside0 (lapidaryref11_SameSteps.l0 kq l0 l1 x5_1 = some r) ∧ Aside0 (kq ≤ k) ∧ Drawn0 w w')
  case atStart => exact ⟨(0),(by first | rfl | (simp;done) | (simp [*];done) | (simp [wrap64];done)),H',⟨Nat.le_refl _⟩,by repeat (first | exact Drawn0.refl _ | apply Drawn0.step)⟩
  case round =>
   clear H'
   (try clear c1);(try clear c2);(try clear p2);(try clear c3);(try clear c3b0);(try clear c3b1);(try clear c3b2)
   obtain ⟨x5_1,rfl,HA,HK1,⟨m1,rfl⟩⟩:=hrel
   cases gk with
   | zero => exact absurd HA.out (by simp [lapidaryref11_SameSteps.l0])
   | succ k1 =>
    have H:=HA.out
    clear HA
    simp only [lapidaryref11_SameSteps.l0] at H
    by_cases c4 : x5_1 < (l0.length : Int)
    ·rw [if_pos c4] at H
     have c4b0 : decide (x5_1 < (l0.length : Int)) = true:=decide_eq_true c4
     clear c4
     by_cases c5 : 0 ≤ x5_1
     ·rw [if_pos c5] at H
      have c5b0 : decide (0 ≤ x5_1) = true:=decide_eq_true c5
      clear c5
      by_cases c6 : x5_1 < (l1.length : Int)
      ·rw [if_pos c6] at H
       have c6b0 : decide (x5_1 < (l1.length : Int)) = true:=decide_eq_true c6
       clear c6
       by_cases c7 : (!(((rd_T62 l0 x5_1).f0) == ((rd_T62 l1 x5_1).f0)) || (!(((rd_T62 l0 x5_1).f1) == ((rd_T62 l1 x5_1).f1)))) = true
       ·rw [if_pos c7] at H
        have c7b0 : (!(((rd_T62 l0 x5_1).f0) == ((rd_T62 l1 x5_1).f0)) || (!(((rd_T62 l0 x5_1).f1) == ((rd_T62 l1 x5_1).f1)))) = true:=c7
        clear c7
        obtain rfl:=Option.some.inj H
        have p115 : 0 ≤ (x5_1 : Int):=of_decide_eq_true (by first | (with_reducible assumption) | assumption)
        have q115 : x5_1 < (l0.length : Int):=of_decide_eq_true (by first | (with_reducible assumption) | assumption)
        obtain ⟨ad115,e115,hx115_0,hx115_1⟩:=at_T62 HR0.out x5_1 p115 q115
        cases e115
        replace p115:=eq_true p115
        replace q115:=eq_true q115
        have p116 : 0 ≤ (x5_1 : Int):=of_decide_eq_true (by first | (with_reducible assumption) | assumption)
        have q116 : x5_1 < (l1.length : Int):=of_decide_eq_true (by first | (with_reducible assumption) | assumption)
        obtain ⟨ad116,e116,hx116_0,hx116_1⟩:=at_T62 HR1.out x5_1 p116 q116
        cases e116
        replace p116:=eq_true p116
        replace q116:=eq_true q116
        go_wp2
        repeat (go_quiet (fail);try go_wp2)
        go_ret
        exact ⟨by first | rfl | (simp;done) | (simp [*];done) | (simp [wrap64];done),by repeat (first | exact Drawn0.refl _ | apply Drawn0.step)⟩
       ·rw [if_neg c7] at H
        have c7b0 : (!(((rd_T62 l0 x5_1).f0) == ((rd_T62 l1 x5_1).f0)) || (!(((rd_T62 l0 x5_1).f1) == ((rd_T62 l1 x5_1).f1)))) = false:=by simpa using c7
        clear c7
        have H':=aMx5 H
        clear H
        have p115 : 0 ≤ (x5_1 : Int):=of_decide_eq_true (by first | (with_reducible assumption) | assumption)
        have q115 : x5_1 < (l0.length : Int):=of_decide_eq_true (by first | (with_reducible assumption) | assumption)
        obtain ⟨ad115,e115,hx115_0,hx115_1⟩:=at_T62 HR0.out x5_1 p115 q115
        cases e115
        replace p115:=eq_true p115
        replace q115:=eq_true q115
        have p116 : 0 ≤ (x5_1 : Int):=of_decide_eq_true (by first | (with_reducible assumption) | assumption)
        have q116 : x5_1 < (l1.length : Int):=of_decide_eq_true (by first | (with_reducible assumption) | assumption)
        obtain ⟨ad116,e116,hx116_0,hx116_1⟩:=at_T62 HR1.out x5_1 p116 q116
        cases e116
        replace p116:=eq_true p116
        replace q116:=eq_true q116
        go_wp2
        repeat (go_quiet (fail);try go_wp2)
        go_roundg k1
        case measure => have:=HK1.out;omega
        case rel => exact ⟨(wrap64 (x5_1+1)),(by first | rfl | (simp;done) | (simp [*];done) | (simp [wrap64];done)),H',⟨by have:=HK1.out;omega⟩,by repeat (first | exact Drawn0.refl _ | apply Drawn0.step)⟩
      ·rw [if_neg c6] at H
       exact absurd H (by simp)
     ·rw [if_neg c5] at H
      exact absurd H (by simp)
    ·rw [if_neg c4] at H
     have c4b0 : decide (x5_1 < (l0.length : Int)) = false:=decide_eq_false c4
     clear c4
     obtain rfl:=Option.some.inj H
     go_wp2
     repeat (go_quiet (fail);try go_wp2)
     go_ret
     exact ⟨by first | rfl | (simp;done) | (simp [*];done) | (simp [wrap64];done),by repeat (first | exact Drawn0.refl _ | apply Drawn0.step)⟩
 ·rw [if_neg c3] at H
  have c3b0 : ((l0.length : Int) == (l1.length : Int)) = false:=beq_eq_false_iff_ne.mpr c3
  have c3b1 : ((l0.length : Int) != (l1.length : Int)) = true:=bne_iff_ne.mpr c3
  have c3b2 : (l0.length == l1.length) = false:=by first | simpa using c3 | (simp at c3 ⊢;omega)
  obtain rfl:=Option.some.inj H
  go_enter Tryd.func23,Tryd.ntmps23
  go_wp2
  repeat (go_quiet (fail);try go_wp2)
  go_ret
  exact ⟨by first | rfl | (simp;done) | (simp [*];done) | (simp [wrap64];done),by repeat (first | exact Drawn0.refl _ | apply Drawn0.step)⟩
mutual
def lapidaryref10_Has.l0 : Nat → List (S47) → Int → Int → Int → Option (Int)
  | 0, _, _, _, _ => none
  | k + 1, x0, x1, x2, x7 => if x7 < (x0.length : Int) then (lapidaryref10_Has.l1 k x0 x1 x2 x7 0) else (some (-1))
def lapidaryref10_Has.l1 : Nat → List (S47) → Int → Int → Int → Int → Option (Int)
  | 0, _, _, _, _, _ => none
  | k + 1, x0, x1, x2, x7, x8 => if x8 < 3 then (if 0 ≤ x7 then (if x7 < (x0.length : Int) then (if x8 = 0 then (if ((rd_T47 x0 x7).f0) = x1 then (if ((rd_T47 x0 x7).f1) = x2 then (some x7) else (lapidaryref10_Has.l1 k x0 x1 x2 x7 (wrap64 (x8 + 1)))) else (lapidaryref10_Has.l1 k x0 x1 x2 x7 (wrap64 (x8 + 1)))) else (if x8 = 1 then (if ((rd_T47 x0 x7).f1) = x1 then (if ((rd_T47 x0 x7).f2) = x2 then (some x7) else (lapidaryref10_Has.l1 k x0 x1 x2 x7 (wrap64 (x8 + 1)))) else (lapidaryref10_Has.l1 k x0 x1 x2 x7 (wrap64 (x8 + 1)))) else (if x8 = 2 then (if ((rd_T47 x0 x7).f2) = x1 then (if ((rd_T47 x0 x7).f0) = x2 then (some x7) else (lapidaryref10_Has.l1 k x0 x1 x2 x7 (wrap64 (x8 + 1)))) else (lapidaryref10_Has.l1 k x0 x1 x2 x7 (wrap64 (x8 + 1)))) else (none)))) else (none)) else (none)) else (lapidaryref10_Has.l0 k x0 x1 x2 (wrap64 (x7 + 1)))
end
def lapidaryref10_Has.f (k : Nat) (l0 : List (S47)) (a1 : Int) (a2 : Int) : Option (Int) := lapidaryref10_Has.l0 k l0 a1 a2 0
theorem lapidaryref10_Has.mono_l : ∀ k, (∀ y0 y1 y2 y3, LeO (lapidaryref10_Has.l0 k y0 y1 y2 y3) (lapidaryref10_Has.l0 (k + 1) y0 y1 y2 y3)) ∧ (∀ y0 y1 y2 y3 y4, LeO (lapidaryref10_Has.l1 k y0 y1 y2 y3 y4) (lapidaryref10_Has.l1 (k + 1) y0 y1 y2 y3 y4))
  | 0 => ⟨fun _ _ _ _ r h => by simp [lapidaryref10_Has.l0] at h, fun _ _ _ _ _ r h => by simp [lapidaryref10_Has.l1] at h⟩
  | k + 1 => by
    obtain ⟨ih0, ih1⟩ := lapidaryref10_Has.mono_l k
    refine ⟨?_, ?_⟩
    · intro y0 y1 y2 y3
      unfold lapidaryref10_Has.l0
      repeat' first
      | (with_reducible exact ih0 _ _ _ _)
      | (with_reducible exact ih1 _ _ _ _ _)
      | (with_reducible exact LeO.refl _)
      | (with_reducible exact LeO.none _)
      | (with_reducible refine LeO.ite ?_ ?_)
      | (with_reducible refine LeO.bind ?_ (fun _ => ?_))
      | exact ih0 _ _ _ _
      | exact ih1 _ _ _ _ _
      | exact LeO.none _
      | refine LeO.ite ?_ ?_
      | refine LeO.bind ?_ (fun _ => ?_)
    · intro y0 y1 y2 y3 y4
      unfold lapidaryref10_Has.l1
      repeat' first
      | (with_reducible exact ih0 _ _ _ _)
      | (with_reducible exact ih1 _ _ _ _ _)
      | (with_reducible exact LeO.refl _)
      | (with_reducible exact LeO.none _)
      | (with_reducible refine LeO.ite ?_ ?_)
      | (with_reducible refine LeO.bind ?_ (fun _ => ?_))
      | exact ih0 _ _ _ _
      | exact ih1 _ _ _ _ _
      | exact LeO.none _
      | refine LeO.ite ?_ ?_
      | refine LeO.bind ?_ (fun _ => ?_)
theorem lapidaryref10_Has.mono : ∀ a0 a1 a2 k, LeO (lapidaryref10_Has.f k a0 a1 a2) (lapidaryref10_Has.f (k + 1) a0 a1 a2) := by
  intro a0 a1 a2 k
  obtain ⟨ih0, ih1⟩ := lapidaryref10_Has.mono_l k
  unfold lapidaryref10_Has.f
  repeat' first
      | (with_reducible exact ih0 _ _ _ _)
      | (with_reducible exact ih1 _ _ _ _ _)
      | (with_reducible exact LeO.refl _)
      | (with_reducible exact LeO.none _)
      | (with_reducible refine LeO.ite ?_ ?_)
      | (with_reducible refine LeO.bind ?_ (fun _ => ?_))
      | exact ih0 _ _ _ _
      | exact ih1 _ _ _ _ _
      | exact LeO.none _
      | refine LeO.ite ?_ ?_
      | refine LeO.bind ?_ (fun _ => ?_)
set_option maxHeartbeats 8000000 in
set_option maxRecDepth 100000 in
theorem lapidaryref10_Has.calls (k : Nat) (A0 : Option Addr) (c0 : Nat) (l0 : List (S47)) (a1 : Int) (a2 : Int) (r : Int) (w : World) (hr0 : Kd.C k47 w A0 l0.length l0) (hc0 : l0.length ≤ c0) (h : lapidaryref10_Has.f k l0 a1 a2 = some r) :
  Calls Tryd.prog 31 #[.slice A0 l0.length c0,.int .i64 a1,.int .i64 a2] w fun e w' => e = .returned (.int .i64 r) ∧ Drawn0 w w':=by
 have HR0:=aMx5 hr0
 have HC0:=aMx5 hc0
 clear hr0 hc0
 have H : (lapidaryref10_Has.l0 k l0 a1 a2 0) = some r:=h
 clear h
 have H':=aMx5 H
 clear H
 go_enter Tryd.func31,Tryd.ntmps31
 go_wp2
 go_loopg [7] k (fun kq v7 w' => ∃ (x7_1 : Int),v7 = .int .i64 x7_1 ∧ Aside0 (lapidaryref10_Has.l0 kq l0 a1 a2 x7_1 = some r) ∧ Aside0 (kq ≤ k) ∧ Drawn0 w w')
 case atStart => exact ⟨(0),(by first | rfl | (simp;done) | (simp [*];done) | (simp [wrap64];done)),H',⟨Nat.le_refl _⟩,by repeat (first | exact Drawn0.refl _ | apply Drawn0.step)⟩
 case round =>
  clear H'
  (try clear p2);(try clear c3)
  obtain ⟨x7_1,rfl,HA,HK1,⟨m1,rfl⟩⟩:=hrel
  cases gk with
  | zero => exact absurd HA.out (by simp [lapidaryref10_Has.l0])
  | succ k1 =>
   have H:=HA.out
   clear HA
   simp only [lapidaryref10_Has.l0] at H
   by_cases c4 : x7_1 < (l0.length : Int)
   ·rw [if_pos c4] at H
    have c4b0 : decide (x7_1 < (l0.length : Int)) = true:=decide_eq_true c4
    clear c4
    have H':=aMx5 H
    clear H
    go_wp2
    go_loopg [8] k1 (fun kq v8 w' => ∃ (x8_2 : Int),v8 = .int .i64 x8_2 ∧ Aside0 (lapidaryref10_Has.l1 kq l0 a1 a2 x7_1 x8_2 = some r) ∧ Aside0 (kq ≤ k1) ∧ Drawn0 w w')
    case atStart => exact ⟨(0),(by first | rfl | (simp;done) | (simp [*];done) | (simp [wrap64];done)),H',⟨Nat.le_refl _⟩,by repeat (first | exact Drawn0.refl _ | apply Drawn0.step)⟩
    case round =>
     clear H'
     (try clear p2);(try clear c3);(try clear c4);(try clear c4b0);(try clear p2)
     obtain ⟨x8_2,rfl,HA,HK2,⟨m2,rfl⟩⟩:=hrel
     cases gk with
     | zero => exact absurd HA.out (by simp [lapidaryref10_Has.l1])
     | succ k2 =>
      have H:=HA.out
      clear HA
      simp only [lapidaryref10_Has.l1] at H
      by_cases c5 : x8_2 < 3
      ·rw [if_pos c5] at H
       have c5b0 : decide (x8_2 < 3) = true:=decide_eq_true c5
       clear c5
       by_cases c6 : 0 ≤ x7_1
       ·rw [if_pos c6] at H
        have c6b0 : decide (0 ≤ x7_1) = true:=decide_eq_true c6
        clear c6
        by_cases c7 : x7_1 < (l0.length : Int)
        ·rw [if_pos c7] at H
         have c7b0 : decide (x7_1 < (l0.length : Int)) = true:=decide_eq_true c7
         clear c7
         by_cases c8 : x8_2 = 0
         ·rw [if_pos c8] at H
          subst c8
          by_cases c9 : ((rd_T47 l0 x7_1).f0) = a1
          ·rw [if_pos c9] at H
           have c9b0 : (((rd_T47 l0 x7_1).f0) == a1) = true:=beq_iff_eq.mpr c9
           have c9b1 : (((rd_T47 l0 x7_1).f0) != a1) = false:=bne_eq_false_iff_eq.mpr c9
           clear c9
           by_cases c10 : ((rd_T47 l0 x7_1).f1) = a2
           ·rw [if_pos c10] at H
            have c10b0 : (((rd_T47 l0 x7_1).f1) == a2) = true:=beq_iff_eq.mpr c10
            have c10b1 : (((rd_T47 l0 x7_1).f1) != a2) = false:=bne_eq_false_iff_eq.mpr c10
            clear c10
            obtain rfl:=Option.some.inj H
            have p139 : 0 ≤ (x7_1 : Int):=of_decide_eq_true (by first | (with_reducible assumption) | assumption)
            have q139 : x7_1 < (l0.length : Int):=of_decide_eq_true (by first | (with_reducible assumption) | assumption)
            obtain ⟨ad139,e139,hx139_0,hx139_1,hx139_2⟩:=at_T47 HR0.out x7_1 p139 q139
            cases e139
            replace p139:=eq_true p139
            replace q139:=eq_true q139
            have p140 : 0 ≤ (x7_1 : Int):=of_decide_eq_true (by first | (with_reducible assumption) | assumption)
            have q140 : x7_1 < (l0.length : Int):=of_decide_eq_true (by first | (with_reducible assumption) | assumption)
            obtain ⟨ad140,e140,hx140_0,hx140_1,hx140_2⟩:=at_T47 HR0.out x7_1 p140 q140
            obtain rfl : ad139 = ad140:=(by injection e140)
            replace p140:=eq_true p140
            replace q140:=eq_true q140
            go_wp2
            go_ret
            exact ⟨by first | rfl | (simp;done) | (simp [*];done) | (simp [wrap64];done),by repeat (first | exact Drawn0.refl _ | apply Drawn0.step)⟩
           ·rw [if_neg c10] at H
            have c10b0 : (((rd_T47 l0 x7_1).f1) == a2) = false:=beq_eq_false_iff_ne.mpr c10
            have c10b1 : (((rd_T47 l0 x7_1).f1) != a2) = true:=bne_iff_ne.mpr c10
            have H':=aMx5 H
            clear H
            have p139 : 0 ≤ (x7_1 : Int):=of_decide_eq_true (by first | (with_reducible assumption) | assumption)
            have q139 : x7_1 < (l0.length : Int):=of_decide_eq_true (by first | (with_reducible assumption) | assumption)
            obtain ⟨ad139,e139,hx139_0,hx139_1,hx139_2⟩:=at_T47 HR0.out x7_1 p139 q139
            cases e139
            replace p139:=eq_true p139
            replace q139:=eq_true q139
            have p140 : 0 ≤ (x7_1 : Int):=of_decide_eq_true (by first | (with_reducible assumption) | assumption)
            have q140 : x7_1 < (l0.length : Int):=of_decide_eq_true (by first | (with_reducible assumption) | assumption)
            obtain ⟨ad140,e140,hx140_0,hx140_1,hx140_2⟩:=at_T47 HR0.out x7_1 p140 q140
            obtain rfl : ad139 = ad140:=(by injection e140)
            replace p140:=eq_true p140
            replace q140:=eq_true q140
            go_wp2
            go_roundg k2
            case measure => have:=HK1.out;have:=HK2.out;omega
            case rel => exact ⟨(wrap64 (0+1)),(by first | rfl | (simp;done) | (simp [*];done) | (simp [wrap64];done)),H',⟨by have:=HK1.out;have:=HK2.out;omega⟩,by repeat (first | exact Drawn0.refl _ | apply Drawn0.step)⟩
          ·rw [if_neg c9] at H
           have c9b0 : (((rd_T47 l0 x7_1).f0) == a1) = false:=beq_eq_false_iff_ne.mpr c9
           have c9b1 : (((rd_T47 l0 x7_1).f0) != a1) = true:=bne_iff_ne.mpr c9
           have H':=aMx5 H
           clear H
           have p139 : 0 ≤ (x7_1 : Int):=of_decide_eq_true (by first | (with_reducible assumption) | assumption)
           have q139 : x7_1 < (l0.length : Int):=of_decide_eq_true (by first | (with_reducible assumption) | assumption)
           obtain ⟨ad139,e139,hx139_0,hx139_1,hx139_2⟩:=at_T47 HR0.out x7_1 p139 q139
           cases e139
           replace p139:=eq_true p139
           replace q139:=eq_true q139
           go_wp2
           go_roundg k2
           case measure => have:=HK1.out;have:=HK2.out;omega
           case rel => exact ⟨(wrap64 (0+1)),(by first | rfl | (simp;done) | (simp [*];done) | (simp [wrap64];done)),H',⟨by have:=HK1.out;have:=HK2.out;omega⟩,by repeat (first | exact Drawn0.refl _ | apply Drawn0.step)⟩
         ·rw [if_neg c8] at H
          by_cases c11 : x8_2 = 1
          ·rw [if_pos c11] at H
           subst c11
           by_cases c12 : ((rd_T47 l0 x7_1).f1) = a1
           ·rw [if_pos c12] at H
            have c12b0 : (((rd_T47 l0 x7_1).f1) == a1) = true:=beq_iff_eq.mpr c12
            have c12b1 : (((rd_T47 l0 x7_1).f1) != a1) = false:=bne_eq_false_iff_eq.mpr c12
            clear c12
            by_cases c13 : ((rd_T47 l0 x7_1).f2) = a2
            ·rw [if_pos c13] at H
             have c13b0 : (((rd_T47 l0 x7_1).f2) == a2) = true:=beq_iff_eq.mpr c13
             have c13b1 : (((rd_T47 l0 x7_1).f2) != a2) = false:=bne_eq_false_iff_eq.mpr c13
             clear c13
             obtain rfl:=Option.some.inj H
             have p139 : 0 ≤ (x7_1 : Int):=of_decide_eq_true (by first | (with_reducible assumption) | assumption)
             have q139 : x7_1 < (l0.length : Int):=of_decide_eq_true (by first | (with_reducible assumption) | assumption)
             obtain ⟨ad139,e139,hx139_0,hx139_1,hx139_2⟩:=at_T47 HR0.out x7_1 p139 q139
             cases e139
             replace p139:=eq_true p139
             replace q139:=eq_true q139
             have p141 : 0 ≤ (x7_1 : Int):=of_decide_eq_true (by first | (with_reducible assumption) | assumption)
             have q141 : x7_1 < (l0.length : Int):=of_decide_eq_true (by first | (with_reducible assumption) | assumption)
             obtain ⟨ad141,e141,hx141_0,hx141_1,hx141_2⟩:=at_T47 HR0.out x7_1 p141 q141
             obtain rfl : ad139 = ad141:=(by injection e141)
             replace p141:=eq_true p141
             replace q141:=eq_true q141
             go_wp2
             go_ret
             exact ⟨by first | rfl | (simp;done) | (simp [*];done) | (simp [wrap64];done),by repeat (first | exact Drawn0.refl _ | apply Drawn0.step)⟩
            ·rw [if_neg c13] at H
             have c13b0 : (((rd_T47 l0 x7_1).f2) == a2) = false:=beq_eq_false_iff_ne.mpr c13
             have c13b1 : (((rd_T47 l0 x7_1).f2) != a2) = true:=bne_iff_ne.mpr c13
             have H':=aMx5 H
             clear H
             have p139 : 0 ≤ (x7_1 : Int):=of_decide_eq_true (by first | (with_reducible assumption) | assumption)
             have q139 : x7_1 < (l0.length : Int):=of_decide_eq_true (by first | (with_reducible assumption) | assumption)
             obtain ⟨ad139,e139,hx139_0,hx139_1,hx139_2⟩:=at_T47 HR0.out x7_1 p139 q139
             cases e139
             replace p139:=eq_true p139
             replace q139:=eq_true q139
             have p141 : 0 ≤ (x7_1 : Int):=of_decide_eq_true (by first | (with_reducible assumption) | assumption)
             have q141 : x7_1 < (l0.length : Int):=of_decide_eq_true (by first | (with_reducible assumption) | assumption)
             obtain ⟨ad141,e141,hx141_0,hx141_1,hx141_2⟩:=at_T47 HR0.out x7_1 p141 q141
             obtain rfl : ad139 = ad141:=(by injection e141)
             replace p141:=eq_true p141
             replace q141:=eq_true q141
             go_wp2
             go_roundg k2
             case measure => have:=HK1.out;have:=HK2.out;omega
             case rel => exact ⟨(wrap64 (1+1)),(by first | rfl | (simp;done) | (simp [*];done) | (simp [wrap64];done)),H',⟨by have:=HK1.out;have:=HK2.out;omega⟩,by repeat (first | exact Drawn0.refl _ | apply Drawn0.step)⟩
           ·rw [if_neg c12] at H
            have c12b0 : (((rd_T47 l0 x7_1).f1) == a1) = false:=beq_eq_false_iff_ne.mpr c12
            have c12b1 : (((rd_T47 l0 x7_1).f1) != a1) = true:=bne_iff_ne.mpr c12
            have H':=aMx5 H
            clear H
            have p139 : 0 ≤ (x7_1 : Int):=of_decide_eq_true (by first | (with_reducible assumption) | assumption)
            have q139 : x7_1 < (l0.length : Int):=of_decide_eq_true (by first | (with_reducible assumption) | assumption)
            obtain ⟨ad139,e139,hx139_0,hx139_1,hx139_2⟩:=at_T47 HR0.out x7_1 p139 q139
            cases e139
            replace p139:=eq_true p139
            replace q139:=eq_true q139
            go_wp2
            go_roundg k2
            case measure => have:=HK1.out;have:=HK2.out;omega
            case rel => exact ⟨(wrap64 (1+1)),(by first | rfl | (simp;done) | (simp [*];done) | (simp [wrap64];done)),H',⟨by have:=HK1.out;have:=HK2.out;omega⟩,by repeat (first | exact Drawn0.refl _ | apply Drawn0.step)⟩
          ·rw [if_neg c11] at H
           by_cases c14 : x8_2 = 2
           ·rw [if_pos c14] at H
            subst c14
            by_cases c15 : ((rd_T47 l0 x7_1).f2) = a1
            ·rw [if_pos c15] at H
             have c15b0 : (((rd_T47 l0 x7_1).f2) == a1) = true:=beq_iff_eq.mpr c15
             have c15b1 : (((rd_T47 l0 x7_1).f2) != a1) = false:=bne_eq_false_iff_eq.mpr c15
             clear c15
             by_cases c16 : ((rd_T47 l0 x7_1).f0) = a2
             ·rw [if_pos c16] at H
              have c16b0 : (((rd_T47 l0 x7_1).f0) == a2) = true:=beq_iff_eq.mpr c16
              have c16b1 : (((rd_T47 l0 x7_1).f0) != a2) = false:=bne_eq_false_iff_eq.mpr c16
              clear c16
              obtain rfl:=Option.some.inj H
              have p139 : 0 ≤ (x7_1 : Int):=of_decide_eq_true (by first | (with_reducible assumption) | assumption)
              have q139 : x7_1 < (l0.length : Int):=of_decide_eq_true (by first | (with_reducible assumption) | assumption)
              obtain ⟨ad139,e139,hx139_0,hx139_1,hx139_2⟩:=at_T47 HR0.out x7_1 p139 q139
              cases e139
              replace p139:=eq_true p139
              replace q139:=eq_true q139
              have p142 : 0 ≤ (x7_1 : Int):=of_decide_eq_true (by first | (with_reducible assumption) | assumption)
              have q142 : x7_1 < (l0.length : Int):=of_decide_eq_true (by first | (with_reducible assumption) | assumption)
              obtain ⟨ad142,e142,hx142_0,hx142_1,hx142_2⟩:=at_T47 HR0.out x7_1 p142 q142
              obtain rfl : ad139 = ad142:=(by injection e142)
              replace p142:=eq_true p142
              replace q142:=eq_true q142
              go_wp2
              go_ret
              exact ⟨by first | rfl | (simp;done) | (simp [*];done) | (simp [wrap64];done),by repeat (first | exact Drawn0.refl _ | apply Drawn0.step)⟩
             ·rw [if_neg c16] at H
              have c16b0 : (((rd_T47 l0 x7_1).f0) == a2) = false:=beq_eq_false_iff_ne.mpr c16
              have c16b1 : (((rd_T47 l0 x7_1).f0) != a2) = true:=bne_iff_ne.mpr c16
              have H':=aMx5 H
              clear H
              have p139 : 0 ≤ (x7_1 : Int):=of_decide_eq_true (by first | (with_reducible assumption) | assumption)
              have q139 : x7_1 < (l0.length : Int):=of_decide_eq_true (by first | (with_reducible assumption) | assumption)
              obtain ⟨ad139,e139,hx139_0,hx139_1,hx139_2⟩:=at_T47 HR0.out x7_1 p139 q139
              cases e139
              replace p139:=eq_true p139
              replace q139:=eq_true q139
              have p142 : 0 ≤ (x7_1 : Int):=of_decide_eq_true (by first | (with_reducible assumption) | assumption)
              have q142 : x7_1 < (l0.length : Int):=of_decide_eq_true (by first | (with_reducible assumption) | assumption)
              obtain ⟨ad142,e142,hx142_0,hx142_1,hx142_2⟩:=at_T47 HR0.out x7_1 p142 q142
              obtain rfl : ad139 = ad142:=(by injection e142)
              replace p142:=eq_true p142
              replace q142:=eq_true q142
              go_wp2
              go_roundg k2
              case measure => have:=HK1.out;have:=HK2.out;omega
              case rel => exact ⟨(wrap64 (2+1)),(by first | rfl | (simp;done) | (simp [*];done) | (simp [wrap64];done)),H',⟨by have:=HK1.out;have:=HK2.out;omega⟩,by repeat (first | exact Drawn0.refl _ | apply Drawn0.step)⟩
            ·rw [if_neg c15] at H
             have c15b0 : (((rd_T47 l0 x7_1).f2) == a1) = false:=beq_eq_false_iff_ne.mpr c15
             have c15b1 : (((rd_T47 l0 x7_1).f2) != a1) = true:=bne_iff_ne.mpr c15
             have H':=aMx5 H
             clear H
             have p139 : 0 ≤ (x7_1 : Int):=of_decide_eq_true (by first | (with_reducible assumption) | assumption)
             have q139 : x7_1 < (l0.length : Int):=of_decide_eq_true (by first | (with_reducible assumption) | assumption)
             obtain ⟨ad139,e139,hx139_0,hx139_1,hx139_2⟩:=at_T47 HR0.out x7_1 p139 q139
             cases e139
             replace p139:=eq_true p139
             replace q139:=eq_true q139
             go_wp2
             go_roundg k2
             case measure => have:=HK1.out;have:=HK2.out;omega
             case rel => exact ⟨(wrap64 (2+1)),(by first | rfl | (simp;done) | (simp [*];done) | (simp [wrap64];done)),H',⟨by have:=HK1.out;have:=HK2.out;omega⟩,by repeat (first | exact Drawn0.refl _ | apply Drawn0.step)⟩
           ·rw [if_neg c14] at H
            exact absurd H (by simp)
        ·rw [if_neg c7] at H
         exact absurd H (by simp)
       ·rw [if_neg c6] at H
        exact absurd H (by simp)
      ·rw [if_neg c5] at H
       have c5b0 : decide (x8_2 < 3) = false:=decide_eq_false c5
       clear c5
       have H':=aMx5 H
       clear H
       go_wp2
       go_roundg k2
       case measure => have:=HK1.out;have:=HK2.out;omega
       case rel => exact ⟨(wrap64 (x7_1+1)),(by first | rfl | (simp;done) | (simp [*];done) | (simp [wrap64];done)),H',⟨by have:=HK1.out;have:=HK2.out;omega⟩,by repeat (first | exact Drawn0.refl _ | apply Drawn0.step)⟩
   ·rw [if_neg c4] at H
    have c4b0 : decide (x7_1 < (l0.length : Int)) = false:=decide_eq_false c4
    clear c4
    obtain rfl:=Option.some.inj H
    go_wp2
    go_ret
    exact ⟨by first | rfl | (simp;done) | (simp [*];done) | (simp [wrap64];done),by repeat (first | exact Drawn0.refl _ | apply Drawn0.step)⟩
def lapidaryref10_coord.f (a0 : Int) : Option (Bool) := if a0 ≥ (-2147483648) then (some (decide (a0 ≤ 2147483647))) else (some false)
end Go.Proofs.YtomknjmgcbbjlaaDoor.PWlk
