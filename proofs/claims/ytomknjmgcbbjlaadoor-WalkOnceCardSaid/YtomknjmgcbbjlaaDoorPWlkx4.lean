import Derived.Test.YtomknjmgcbbjlaaDoorPWlkx0
namespace Go.Proofs.YtomknjmgcbbjlaaDoor.PWlk
open Go Go.RowKit Go.Proofs.YtomknjmgcbbjlaaDoorW.PrintWords Go.Proofs.YtomknjmgcbbjlaaDoorW.PrintLast Go.Proofs.YtomknjmgcbbjlaaDoorW.PrintMore
attribute [local go_sem] max2_int min2_int max_two min_two max_three min_three max_four min_four
set_option linter.unusedVariables false
set_option maxRecDepth 100000
set_option linter.unusedSimpArgs false
attribute [local go_sem] idx47_0_0 idx47_1_0 idx47_2_0 idx107_0_0 idx107_1_0
theorem aMx4 {p : Prop} (h : p) : Aside0 p := ⟨h⟩
def lapidarylaw11_long.f (l0_0 : List (S46)) (l0_1 : List (S47)) : Option (Bool) := if (l0_0.length : Int) > 40 then (some true) else (some (decide ((l0_1.length : Int) > 60)))
set_option maxHeartbeats 8000000 in
set_option maxRecDepth 100000 in
theorem lapidarylaw11_long.calls (A0_0 : Option Addr) (c0_0 : Nat) (l0_0 : List (S46)) (A0_1 : Option Addr) (c0_1 : Nat) (l0_1 : List (S47)) (r : Bool) (w : World) (hr0_0 : Kd.C k46 w A0_0 l0_0.length l0_0) (hc0_0 : l0_0.length ≤ c0_0) (hr0_1 : Kd.C k47 w A0_1 l0_1.length l0_1) (hc0_1 : l0_1.length ≤ c0_1) (h : lapidarylaw11_long.f l0_0 l0_1 = some r) :
  Calls Tryd.prog 18 #[.agg #[.slice A0_0 l0_0.length c0_0,.slice A0_1 l0_1.length c0_1]] w fun e w' => e = .returned (.bool r) ∧ Below w.heap.size w w':=by
 have hu25:=Tryd.underlying25
 have HR0_0:=aMx4 hr0_0
 have HC0_0:=aMx4 hc0_0
 clear hr0_0 hc0_0
 have HR0_1:=aMx4 hr0_1
 have HC0_1:=aMx4 hc0_1
 clear hr0_1 hc0_1
 have HB:=aMx4 (Below.refl w.heap.size w)
 have H : (if (l0_0.length : Int) > 40 then (some true) else (some (decide ((l0_1.length : Int) > 60)))) = some r:=h
 clear h
 by_cases c2 : (l0_0.length : Int) > 40
 ·rw [if_pos c2] at H
  have c2b0 : decide (40 < (l0_0.length : Int)) = true:=decide_eq_true c2
  have c2b1 : decide (40 < l0_0.length) = true:=decide_eq_true (by omega)
  clear c2
  obtain rfl:=Option.some.inj H
  go_enter Tryd.func18,Tryd.ntmps18
  go_wp2_with (first|((with_reducible refine gate_dst (N:=1) rfl ?_);(try (refine gate_guard (by rfl) ?_;dsimp only));refine box_event ?hg (N:=1) ?hd (cs:=#[.slice A0_0 l0_0.length c0_0,.slice A0_1 l0_1.length c0_1]) (t:=25) ?hr ?_;(case hd => rfl);(case hg => rfl);(case hr => first|(go_simp;done)|(go_simp;rfl));intro gb101 hg w3 hbox hb;have n0_:=aMx4 (below_step (by repeat (with_reducible first|exact HB.out|apply below_alloc|apply pw_below_drewN|apply below_drew1)) hb);have n1_:=aMx4 (hbox);have n2_:=aMx4 ((by rw [hg];exact (below_size (by repeat (with_reducible first|exact HB.out|apply below_alloc|apply pw_below_drewN|apply below_drew1))) : w.heap.size ≤ gb101));have n3_:=aMx4 ((by rw [hg];exact (below_size (by repeat (with_reducible first|exact HB.out|apply below_alloc|apply pw_below_drewN|apply below_drew1))) : w.heap.size ≤ gb101));clear HB;have HB:=n0_;have BK101:=n1_;have GW101:=n2_;have GE101:=n3_;clear n0_ n1_ n2_ n3_;clear hb hbox hg;have hcz4_0 : w3.cell? ⟨gb101,0,none⟩ = some (.slice A0_0 l0_0.length c0_0):=(blk_cell BK101.out 0).trans rfl;have hcz4_1 : w3.cell? ⟨gb101,1,none⟩ = some (.slice A0_1 l0_1.length c0_1):=(blk_cell BK101.out 1).trans rfl;have hfz4_0:=blk_frozen BK101.out 0;have hfz4_1:=blk_frozen BK101.out 1))
  go_ret
  exact ⟨by first | rfl | (simp [errW_none,errW_some]<;>rfl) | (simp [*,errW_none,errW_some]<;>rfl),by repeat (first | (with_reducible first | exact HB.out | apply below_alloc | apply pw_below_drewN | apply below_drew1 | refine below_set ?_ GE101.out) | exact HB.out)⟩
 ·rw [if_neg c2] at H
  have c2b0 : decide (40 < (l0_0.length : Int)) = false:=decide_eq_false c2
  have c2b1 : decide (40 < l0_0.length) = false:=decide_eq_false (by omega)
  clear c2
  obtain rfl:=Option.some.inj H
  go_enter Tryd.func18,Tryd.ntmps18
  go_wp2_with (first|((with_reducible refine gate_dst (N:=1) rfl ?_);(try (refine gate_guard (by rfl) ?_;dsimp only));refine box_event ?hg (N:=1) ?hd (cs:=#[.slice A0_0 l0_0.length c0_0,.slice A0_1 l0_1.length c0_1]) (t:=25) ?hr ?_;(case hd => rfl);(case hg => rfl);(case hr => first|(go_simp;done)|(go_simp;rfl));intro gb101 hg w5 hbox hb;have n0_:=aMx4 (below_step (by repeat (with_reducible first|exact HB.out|apply below_alloc|apply pw_below_drewN|apply below_drew1)) hb);have n1_:=aMx4 (hbox);have n2_:=aMx4 ((by rw [hg];exact (below_size (by repeat (with_reducible first|exact HB.out|apply below_alloc|apply pw_below_drewN|apply below_drew1))) : w.heap.size ≤ gb101));have n3_:=aMx4 ((by rw [hg];exact (below_size (by repeat (with_reducible first|exact HB.out|apply below_alloc|apply pw_below_drewN|apply below_drew1))) : w.heap.size ≤ gb101));clear HB;have HB:=n0_;have BK101:=n1_;have GW101:=n2_;have GE101:=n3_;clear n0_ n1_ n2_ n3_;clear hb hbox hg;have hcz6_0 : w5.cell? ⟨gb101,0,none⟩ = some (.slice A0_0 l0_0.length c0_0):=(blk_cell BK101.out 0).trans rfl;have hcz6_1 : w5.cell? ⟨gb101,1,none⟩ = some (.slice A0_1 l0_1.length c0_1):=(blk_cell BK101.out 1).trans rfl;have hfz6_0:=blk_frozen BK101.out 0;have hfz6_1:=blk_frozen BK101.out 1))
  go_ret
  exact ⟨by first | rfl | (simp [errW_none,errW_some]<;>rfl) | (simp [*,errW_none,errW_some]<;>rfl),by repeat (first | (with_reducible first | exact HB.out | apply below_alloc | apply pw_below_drewN | apply below_drew1 | refine below_set ?_ GE101.out) | exact HB.out)⟩
def mesh_coord.f (a0 : Int) : Option (Bool) := if a0 ≥ (-2147483648) then (some (decide (a0 ≤ 2147483647))) else (some false)
set_option maxHeartbeats 8000000 in
set_option maxRecDepth 100000 in
theorem mesh_coord.calls (a0 : Int) (r : Bool) (w : World) (h : mesh_coord.f a0 = some r) :
  Calls Tryd.prog 87 #[.int .i64 a0] w fun e w' => e = .returned (.bool r) ∧ Drawn0 w w':=by
 have H : (if a0 ≥ (-2147483648) then (some (decide (a0 ≤ 2147483647))) else (some false)) = some r:=h
 clear h
 by_cases c2 : a0 ≥ (-2147483648)
 ·rw [if_pos c2] at H
  have c2b0 : decide ((-2147483648) ≤ a0) = true:=decide_eq_true c2
  clear c2
  obtain rfl:=Option.some.inj H
  go_enter Tryd.func87,Tryd.ntmps87
  go_wp2
  go_ret
  exact ⟨by first | rfl | (simp;done) | (simp [*];done) | (simp [wrap64];done),by repeat (first | exact Drawn0.refl _ | apply Drawn0.step)⟩
 ·rw [if_neg c2] at H
  have c2b0 : decide ((-2147483648) ≤ a0) = false:=decide_eq_false c2
  clear c2
  obtain rfl:=Option.some.inj H
  go_enter Tryd.func87,Tryd.ntmps87
  go_wp2
  go_ret
  exact ⟨by first | rfl | (simp;done) | (simp [*];done) | (simp [wrap64];done),by repeat (first | exact Drawn0.refl _ | apply Drawn0.step)⟩
mutual
def mesh_plain.l0 : Nat → List (S46) → Int → Int → List (S46) → List (S47) → Option (Bool)
  | 0, _, _, _, _, _ => none
  | k + 1, x10, x11, x12, x103000, x103001 => if x12 < x11 then (if 0 ≤ x12 then (if x12 < (x10.length : Int) then ((mesh_coord.f ((rd_T46 x10 x12).f0)).bind fun t105 => (if t105 = true then ((mesh_coord.f ((rd_T46 x10 x12).f1)).bind fun t106 => (if t106 = true then ((mesh_coord.f ((rd_T46 x10 x12).f2)).bind fun t107 => (if t107 = true then (mesh_plain.l0 k x10 x11 (wrap64 (x12 + 1)) x103000 x103001) else (some false))) else (some false))) else (some false))) else (none)) else (none)) else (mesh_plain.l1 k x103001 (x103001.length : Int) 0 x103000 x103001)
def mesh_plain.l1 : Nat → List (S47) → Int → Int → List (S46) → List (S47) → Option (Bool)
  | 0, _, _, _, _, _ => none
  | k + 1, x34, x35, x36, x103000, x103001 => if x36 < x35 then (if 0 ≤ x36 then (if x36 < (x34.length : Int) then (mesh_plain.l2 k x34 x35 x36 0 ((rd_T47 x34 x36).f0) ((rd_T47 x34 x36).f1) ((rd_T47 x34 x36).f2) x103000 x103001 ((rd_T47 x34 x36).f0) ((rd_T47 x34 x36).f1) ((rd_T47 x34 x36).f2)) else (none)) else (none)) else (some true)
def mesh_plain.l2 : Nat → List (S47) → Int → Int → Int → Int → Int → Int → List (S46) → List (S47) → Int → Int → Int → Option (Bool)
  | 0, _, _, _, _, _, _, _, _, _, _, _, _ => none
  | k + 1, x34, x35, x36, x41, x503, x504, x505, x103000, x103001, x110000, x110001, x110002 => if x41 < 3 then (if x41 = 0 then (if x503 < 0 then (some false) else (if x503 ≥ (x103000.length : Int) then (some false) else (if x503 = x110001 then (some false) else (mesh_plain.l2 k x34 x35 x36 (wrap64 (x41 + 1)) x503 x504 x505 x103000 x103001 x110000 x110001 x110002)))) else (if x41 = 1 then (if x504 < 0 then (some false) else (if x504 ≥ (x103000.length : Int) then (some false) else (if x504 = x110002 then (some false) else (mesh_plain.l2 k x34 x35 x36 (wrap64 (x41 + 1)) x503 x504 x505 x103000 x103001 x110000 x110001 x110002)))) else (if x41 = 2 then (if x505 < 0 then (some false) else (if x505 ≥ (x103000.length : Int) then (some false) else (if x505 = x110000 then (some false) else (mesh_plain.l2 k x34 x35 x36 (wrap64 (x41 + 1)) x503 x504 x505 x103000 x103001 x110000 x110001 x110002)))) else (none)))) else (mesh_plain.l1 k x34 x35 (wrap64 (x36 + 1)) x103000 x103001)
end
def mesh_plain.f (k : Nat) (l0_0 : List (S46)) (l0_1 : List (S47)) : Option (Bool) := mesh_plain.l0 k l0_0 (l0_0.length : Int) 0 l0_0 l0_1
set_option maxHeartbeats 8000000 in
set_option maxRecDepth 100000 in
theorem mesh_plain.calls (k : Nat) (A0_0 : Option Addr) (c0_0 : Nat) (l0_0 : List (S46)) (A0_1 : Option Addr) (c0_1 : Nat) (l0_1 : List (S47)) (r : Bool) (w : World) (hr0_0 : Kd.C k46 w A0_0 l0_0.length l0_0) (hc0_0 : l0_0.length ≤ c0_0) (hr0_1 : Kd.C k47 w A0_1 l0_1.length l0_1) (hc0_1 : l0_1.length ≤ c0_1) (h : mesh_plain.f k l0_0 l0_1 = some r) :
  Calls Tryd.prog 71 #[.agg #[.slice A0_0 l0_0.length c0_0,.slice A0_1 l0_1.length c0_1]] w fun e w' => e = .returned (.bool r) ∧ Below w.heap.size w w':=by
 have hu25:=Tryd.underlying25
 have hu46:=Tryd.underlying46
 have hu47:=Tryd.underlying47
 have HR0_0:=aMx4 hr0_0
 have HC0_0:=aMx4 hc0_0
 clear hr0_0 hc0_0
 have HR0_1:=aMx4 hr0_1
 have HC0_1:=aMx4 hc0_1
 clear hr0_1 hc0_1
 have HB:=aMx4 (Below.refl w.heap.size w)
 have H : (mesh_plain.l0 k l0_0 (l0_0.length : Int) 0 l0_0 l0_1) = some r:=h
 clear h
 have H':=aMx4 H
 clear H
 go_enter Tryd.func71,Tryd.ntmps71
 go_wp2_with (first|((with_reducible refine gate_dst (N:=1) rfl ?_);(try (refine gate_guard (by rfl) ?_;dsimp only));refine box_event ?hg (N:=1) ?hd (cs:=#[.slice A0_0 l0_0.length c0_0,.slice A0_1 l0_1.length c0_1]) (t:=25) ?hr ?_;(case hd => rfl);(case hg => rfl);(case hr => first|(go_simp;done)|(go_simp;rfl));intro gb102 hg w2 hbox hb;have n0_:=aMx4 (below_step (by repeat (with_reducible first|exact HB.out|apply below_alloc|apply pw_below_drewN|apply below_drew1)) hb);have n1_:=aMx4 (hbox);have n2_:=aMx4 ((by rw [hg];exact (below_size (by repeat (with_reducible first|exact HB.out|apply below_alloc|apply pw_below_drewN|apply below_drew1))) : w.heap.size ≤ gb102));have n3_:=aMx4 ((by rw [hg];exact (below_size (by repeat (with_reducible first|exact HB.out|apply below_alloc|apply pw_below_drewN|apply below_drew1))) : w.heap.size ≤ gb102));clear HB;have HB:=n0_;have BK102:=n1_;have GW102:=n2_;have GE102:=n3_;clear n0_ n1_ n2_ n3_;clear hb hbox hg;have hcz3_0 : w2.cell? ⟨gb102,0,none⟩ = some (.slice A0_0 l0_0.length c0_0):=(blk_cell BK102.out 0).trans rfl;have hcz3_1 : w2.cell? ⟨gb102,1,none⟩ = some (.slice A0_1 l0_1.length c0_1):=(blk_cell BK102.out 1).trans rfl;have hfz3_0:=blk_frozen BK102.out 0;have hfz3_1:=blk_frozen BK102.out 1))
 go_loopg [12] k (fun kq v12 w' => ∃ (x12_1 : Int),v12 = .int .i64 x12_1 ∧ Aside0 (mesh_plain.l0 kq l0_0 (l0_0.length : Int) x12_1 l0_0 l0_1 = some r) ∧ Aside0 (kq ≤ k) ∧ Aside0 (w'.heap[gb102]? = some (.cells #[(.slice A0_0 l0_0.length c0_0),(.slice A0_1 l0_1.length c0_1)] 25 (0,0))) ∧ Aside0 (Below w.heap.size w w'))
 case atStart => exact ⟨(0),(by first | rfl | (simp;done) | (simp [*];done) | (simp [wrap64];done)),H',⟨Nat.le_refl _⟩,⟨by (with_reducible repeat (first | refine blk_drewN ?_ _ | refine blk_drew ?_ | refine blk_alloc ?_ _));exact BK102.out⟩,⟨by repeat (first | (with_reducible first | exact HB.out | apply below_alloc | apply pw_below_drewN | apply below_drew1 | refine below_set ?_ GE102.out) | exact HB.out)⟩⟩
 case round =>
  clear H'
  (try clear p2);(try clear hcz3_0);(try clear hcz3_1);(try clear hfz3_0);(try clear hfz3_1)
  obtain ⟨x12_1,rfl,HA,HK1,BK102,HB⟩:=hrel
  cases gk with
  | zero => exact absurd HA.out (by simp [mesh_plain.l0])
  | succ k1 =>
   have H:=HA.out
   clear HA
   simp only [mesh_plain.l0] at H
   by_cases c4 : x12_1 < (l0_0.length : Int)
   ·rw [if_pos c4] at H
    have c4b0 : decide (x12_1 < (l0_0.length : Int)) = true:=decide_eq_true c4
    clear c4
    by_cases c5 : 0 ≤ x12_1
    ·rw [if_pos c5] at H
     have c5b0 : decide (0 ≤ x12_1) = true:=decide_eq_true c5
     clear c5
     by_cases c6 : x12_1 < (l0_0.length : Int)
     ·rw [if_pos c6] at H
      have c6b0 : decide (x12_1 < (l0_0.length : Int)) = true:=decide_eq_true c6
      clear c6
      replace H:=Option.bind_eq_some_iff.mp H
      obtain ⟨t105,A70,H⟩:=H
      replace H : (if t105 = true then ((mesh_coord.f ((rd_T46 l0_0 x12_1).f1)).bind fun t106 => (if t106 = true then ((mesh_coord.f ((rd_T46 l0_0 x12_1).f2)).bind fun t107 => (if t107 = true then (mesh_plain.l0 k1 l0_0 (l0_0.length : Int) (wrap64 (x12_1+1)) l0_0 l0_1) else (some false))) else (some false))) else (some false)) = some r:=H
      have A7:=aMx4 A70
      clear A70
      by_cases c8 : t105 = true
      ·subst c8
       have H1 : ((mesh_coord.f ((rd_T46 l0_0 x12_1).f1)).bind fun t106 => (if t106 = true then ((mesh_coord.f ((rd_T46 l0_0 x12_1).f2)).bind fun t107 => (if t107 = true then (mesh_plain.l0 k1 l0_0 (l0_0.length : Int) (wrap64 (x12_1+1)) l0_0 l0_1) else (some false))) else (some false))) = some r:=by rw [if_pos rfl] at H;exact H
       clear H
       have H:=H1
       clear H1
       replace H:=Option.bind_eq_some_iff.mp H
       obtain ⟨t106,A90,H⟩:=H
       replace H : (if t106 = true then ((mesh_coord.f ((rd_T46 l0_0 x12_1).f2)).bind fun t107 => (if t107 = true then (mesh_plain.l0 k1 l0_0 (l0_0.length : Int) (wrap64 (x12_1+1)) l0_0 l0_1) else (some false))) else (some false)) = some r:=H
       have A9:=aMx4 A90
       clear A90
       by_cases c10 : t106 = true
       ·subst c10
        have H1 : ((mesh_coord.f ((rd_T46 l0_0 x12_1).f2)).bind fun t107 => (if t107 = true then (mesh_plain.l0 k1 l0_0 (l0_0.length : Int) (wrap64 (x12_1+1)) l0_0 l0_1) else (some false))) = some r:=by rw [if_pos rfl] at H;exact H
        clear H
        have H:=H1
        clear H1
        replace H:=Option.bind_eq_some_iff.mp H
        obtain ⟨t107,A110,H⟩:=H
        replace H : (if t107 = true then (mesh_plain.l0 k1 l0_0 (l0_0.length : Int) (wrap64 (x12_1+1)) l0_0 l0_1) else (some false)) = some r:=H
        have A11:=aMx4 A110
        clear A110
        by_cases c12 : t107 = true
        ·subst c12
         have H1 : (mesh_plain.l0 k1 l0_0 (l0_0.length : Int) (wrap64 (x12_1+1)) l0_0 l0_1) = some r:=by rw [if_pos rfl] at H;exact H
         clear H
         have H:=H1
         clear H1
         have H':=aMx4 H
         clear H
         have p103 : 0 ≤ (x12_1 : Int):=of_decide_eq_true (by first | (with_reducible assumption) | assumption)
         have q103 : x12_1 < (l0_0.length : Int):=of_decide_eq_true (by first | (with_reducible assumption) | assumption)
         obtain ⟨ad103,e103,hx103_0,hx103_1,hx103_2⟩:=at_T46 HR0_0.out x12_1 p103 q103
         cases e103
         replace hx103_0:=(HB.out.cell (World.block_lt_of_cell? w _ hx103_0)).trans hx103_0
         replace hx103_1:=(HB.out.cell (World.block_lt_of_cell? w _ hx103_1)).trans hx103_1
         replace hx103_2:=(HB.out.cell (World.block_lt_of_cell? w _ hx103_2)).trans hx103_2
         replace p103:=eq_true p103
         replace q103:=eq_true q103
         go_wp2_with (first|((with_reducible refine gate_dst (N:=4) rfl ?_);(try (refine gate_guard (by rfl) ?_;dsimp only));refine box_event ?hg (N:=4) ?hd (cs:=#[.int .i64 0,.int .i64 0,.int .i64 0]) (t:=46) ?hr ?_;(case hd => rfl);(case hg => rfl);(case hr => first|(go_simp;done)|(go_simp;rfl));intro gb104 hg w13 hbox hb;have n0_:=aMx4 (blk_below (g:=gb102) (o:=.cells #[.slice (some ad103) l0_0.length c0_0,.slice A0_1 l0_1.length c0_1] 25 (0,0)) (by (with_reducible repeat (first|refine blk_drewN ?_ _|refine blk_drew ?_|refine blk_alloc ?_ _));exact BK102.out) hb);have n1_:=aMx4 (below_step (by repeat (first|(with_reducible first|exact HB.out|apply below_alloc|apply pw_below_drewN|apply below_drew1|refine below_set ?_ GE102.out)|exact HB.out)) hb);have n2_:=aMx4 (hbox);have n3_:=aMx4 ((by rw [hg];exact (below_size (by repeat (first|(with_reducible first|exact HB.out|apply below_alloc|apply pw_below_drewN|apply below_drew1|refine below_set ?_ GE102.out)|exact HB.out))) : w.heap.size ≤ gb104));have n4_:=aMx4 ((by rw [hg];exact (below_size (by repeat (first|(with_reducible first|exact HB.out|apply below_alloc|apply pw_below_drewN|apply below_drew1|refine below_set ?_ GE102.out)|exact HB.out))) : w.heap.size ≤ gb104));have n5_:=aMx4 ((by rw [hg];exact Nat.ne_of_lt (blk_lt (g:=gb102) (o:=.cells #[.slice (some ad103) l0_0.length c0_0,.slice A0_1 l0_1.length c0_1] 25 (0,0)) (by (with_reducible repeat (first|refine blk_drewN ?_ _|refine blk_drew ?_|refine blk_alloc ?_ _));exact BK102.out)) : gb102 ≠ gb104));have n6_:=aMx4 ((by rw [hg];exact Nat.ne_of_gt (blk_lt (g:=gb102) (o:=.cells #[.slice (some ad103) l0_0.length c0_0,.slice A0_1 l0_1.length c0_1] 25 (0,0)) (by (with_reducible repeat (first|refine blk_drewN ?_ _|refine blk_drew ?_|refine blk_alloc ?_ _));exact BK102.out)) : gb104 ≠ gb102));clear BK102;clear HB;have BK102:=n0_;have HB:=n1_;have BK104:=n2_;have GW104:=n3_;have GE104:=n4_;have NB102_104:=n5_;have NB104_102:=n6_;clear n0_ n1_ n2_ n3_ n4_ n5_ n6_;clear hb hbox hg;have hnb14:=NB104_102.out;have hnc14:=NB102_104.out;have hcz15_0 : w13.cell? ⟨gb104,0,none⟩ = some (.int .i64 0):=(blk_cell BK104.out 0).trans rfl;have hcz15_1 : w13.cell? ⟨gb104,1,none⟩ = some (.int .i64 0):=(blk_cell BK104.out 1).trans rfl;have hcz15_2 : w13.cell? ⟨gb104,2,none⟩ = some (.int .i64 0):=(blk_cell BK104.out 2).trans rfl;have hfz15_0:=blk_frozen BK104.out 0;have hfz15_1:=blk_frozen BK104.out 1;have hfz15_2:=blk_frozen BK104.out 2)|((with_reducible refine gate_callee (f:=87) rfl ?_);refine goesL_ (some 18) rfl rfl Tryd.func87 (by kernel_rfl) rfl #[.int .i64 ((rd_T46 l0_0 x12_1).f0)] rfl (by (try simp only [List.map_toArray,List.map_cons,List.map_nil]);first|done|rfl|(simp only [List.length_drop,List.length_take];rfl)) ?_;(with_reducible refine (mesh_coord.calls ((rd_T46 l0_0 x12_1).f0) true _ A7.out).mono ?_);rintro e w' ⟨rfl,⟨nd,rfl⟩⟩;refine ⟨_,rfl,?_⟩)|(go_at_call 87;(with_reducible refine (mesh_coord.calls ((rd_T46 l0_0 x12_1).f1) true _ A9.out).mono ?_);rintro e w' ⟨rfl,⟨nd,rfl⟩⟩)|(go_at_call 87;(with_reducible refine (mesh_coord.calls ((rd_T46 l0_0 x12_1).f2) true _ A11.out).mono ?_);rintro e w' ⟨rfl,⟨nd,rfl⟩⟩))
         go_roundg k1
         case measure => have:=HK1.out;omega
         case rel => exact ⟨(wrap64 (x12_1+1)),(by first | rfl | (simp;done) | (simp [*];done) | (simp [wrap64];done)),H',⟨by have:=HK1.out;omega⟩,⟨by (with_reducible repeat (first | refine blk_drewN ?_ _ | refine blk_drew ?_ | refine blk_alloc ?_ _));refine blk_far ?_ NB102_104.out _;(with_reducible repeat (first | refine blk_drewN ?_ _ | refine blk_drew ?_ | refine blk_alloc ?_ _));refine blk_far ?_ NB102_104.out _;(with_reducible repeat (first | refine blk_drewN ?_ _ | refine blk_drew ?_ | refine blk_alloc ?_ _));refine blk_far ?_ NB102_104.out _;(with_reducible repeat (first | refine blk_drewN ?_ _ | refine blk_drew ?_ | refine blk_alloc ?_ _));exact BK102.out⟩,⟨by repeat (first | (with_reducible first | exact HB.out | apply below_alloc | apply pw_below_drewN | apply below_drew1 | refine below_set ?_ GE102.out | refine below_set ?_ GE104.out) | exact HB.out)⟩⟩
        ·replace c12:=Bool.eq_false_iff.mpr c12
         subst c12
         have H1 : (some false) = some r:=by rw [if_neg (show ¬ (false = true) by decide)] at H;exact H
         clear H
         have H:=H1
         clear H1
         obtain rfl:=Option.some.inj H
         have p103 : 0 ≤ (x12_1 : Int):=of_decide_eq_true (by first | (with_reducible assumption) | assumption)
         have q103 : x12_1 < (l0_0.length : Int):=of_decide_eq_true (by first | (with_reducible assumption) | assumption)
         obtain ⟨ad103,e103,hx103_0,hx103_1,hx103_2⟩:=at_T46 HR0_0.out x12_1 p103 q103
         cases e103
         replace hx103_0:=(HB.out.cell (World.block_lt_of_cell? w _ hx103_0)).trans hx103_0
         replace hx103_1:=(HB.out.cell (World.block_lt_of_cell? w _ hx103_1)).trans hx103_1
         replace hx103_2:=(HB.out.cell (World.block_lt_of_cell? w _ hx103_2)).trans hx103_2
         replace p103:=eq_true p103
         replace q103:=eq_true q103
         go_wp2_with (first|((with_reducible refine gate_dst (N:=4) rfl ?_);(try (refine gate_guard (by rfl) ?_;dsimp only));refine box_event ?hg (N:=4) ?hd (cs:=#[.int .i64 0,.int .i64 0,.int .i64 0]) (t:=46) ?hr ?_;(case hd => rfl);(case hg => rfl);(case hr => first|(go_simp;done)|(go_simp;rfl));intro gb104 hg w16 hbox hb;have n0_:=aMx4 (blk_below (g:=gb102) (o:=.cells #[.slice (some ad103) l0_0.length c0_0,.slice A0_1 l0_1.length c0_1] 25 (0,0)) (by (with_reducible repeat (first|refine blk_drewN ?_ _|refine blk_drew ?_|refine blk_alloc ?_ _));exact BK102.out) hb);have n1_:=aMx4 (below_step (by repeat (first|(with_reducible first|exact HB.out|apply below_alloc|apply pw_below_drewN|apply below_drew1|refine below_set ?_ GE102.out)|exact HB.out)) hb);have n2_:=aMx4 (hbox);have n3_:=aMx4 ((by rw [hg];exact (below_size (by repeat (first|(with_reducible first|exact HB.out|apply below_alloc|apply pw_below_drewN|apply below_drew1|refine below_set ?_ GE102.out)|exact HB.out))) : w.heap.size ≤ gb104));have n4_:=aMx4 ((by rw [hg];exact (below_size (by repeat (first|(with_reducible first|exact HB.out|apply below_alloc|apply pw_below_drewN|apply below_drew1|refine below_set ?_ GE102.out)|exact HB.out))) : w.heap.size ≤ gb104));have n5_:=aMx4 ((by rw [hg];exact Nat.ne_of_lt (blk_lt (g:=gb102) (o:=.cells #[.slice (some ad103) l0_0.length c0_0,.slice A0_1 l0_1.length c0_1] 25 (0,0)) (by (with_reducible repeat (first|refine blk_drewN ?_ _|refine blk_drew ?_|refine blk_alloc ?_ _));exact BK102.out)) : gb102 ≠ gb104));have n6_:=aMx4 ((by rw [hg];exact Nat.ne_of_gt (blk_lt (g:=gb102) (o:=.cells #[.slice (some ad103) l0_0.length c0_0,.slice A0_1 l0_1.length c0_1] 25 (0,0)) (by (with_reducible repeat (first|refine blk_drewN ?_ _|refine blk_drew ?_|refine blk_alloc ?_ _));exact BK102.out)) : gb104 ≠ gb102));clear BK102;clear HB;have BK102:=n0_;have HB:=n1_;have BK104:=n2_;have GW104:=n3_;have GE104:=n4_;have NB102_104:=n5_;have NB104_102:=n6_;clear n0_ n1_ n2_ n3_ n4_ n5_ n6_;clear hb hbox hg;have hnb17:=NB104_102.out;have hnc17:=NB102_104.out;have hcz18_0 : w16.cell? ⟨gb104,0,none⟩ = some (.int .i64 0):=(blk_cell BK104.out 0).trans rfl;have hcz18_1 : w16.cell? ⟨gb104,1,none⟩ = some (.int .i64 0):=(blk_cell BK104.out 1).trans rfl;have hcz18_2 : w16.cell? ⟨gb104,2,none⟩ = some (.int .i64 0):=(blk_cell BK104.out 2).trans rfl;have hfz18_0:=blk_frozen BK104.out 0;have hfz18_1:=blk_frozen BK104.out 1;have hfz18_2:=blk_frozen BK104.out 2)|((with_reducible refine gate_callee (f:=87) rfl ?_);refine goesL_ (some 18) rfl rfl Tryd.func87 (by kernel_rfl) rfl #[.int .i64 ((rd_T46 l0_0 x12_1).f0)] rfl (by (try simp only [List.map_toArray,List.map_cons,List.map_nil]);first|done|rfl|(simp only [List.length_drop,List.length_take];rfl)) ?_;(with_reducible refine (mesh_coord.calls ((rd_T46 l0_0 x12_1).f0) true _ A7.out).mono ?_);rintro e w' ⟨rfl,⟨nd,rfl⟩⟩;refine ⟨_,rfl,?_⟩)|(go_at_call 87;(with_reducible refine (mesh_coord.calls ((rd_T46 l0_0 x12_1).f1) true _ A9.out).mono ?_);rintro e w' ⟨rfl,⟨nd,rfl⟩⟩)|(go_at_call 87;(with_reducible refine (mesh_coord.calls ((rd_T46 l0_0 x12_1).f2) false _ A11.out).mono ?_);rintro e w' ⟨rfl,⟨nd,rfl⟩⟩))
         go_ret
         exact ⟨by first | rfl | (simp [errW_none,errW_some]<;>rfl) | (simp [*,errW_none,errW_some]<;>rfl),by repeat (first | (with_reducible first | exact HB.out | apply below_alloc | apply pw_below_drewN | apply below_drew1 | refine below_set ?_ GE102.out | refine below_set ?_ GE104.out) | exact HB.out)⟩
       ·replace c10:=Bool.eq_false_iff.mpr c10
        subst c10
        have H1 : (some false) = some r:=by rw [if_neg (show ¬ (false = true) by decide)] at H;exact H
        clear H
        have H:=H1
        clear H1
        obtain rfl:=Option.some.inj H
        have p103 : 0 ≤ (x12_1 : Int):=of_decide_eq_true (by first | (with_reducible assumption) | assumption)
        have q103 : x12_1 < (l0_0.length : Int):=of_decide_eq_true (by first | (with_reducible assumption) | assumption)
        obtain ⟨ad103,e103,hx103_0,hx103_1,hx103_2⟩:=at_T46 HR0_0.out x12_1 p103 q103
        cases e103
        replace hx103_0:=(HB.out.cell (World.block_lt_of_cell? w _ hx103_0)).trans hx103_0
        replace hx103_1:=(HB.out.cell (World.block_lt_of_cell? w _ hx103_1)).trans hx103_1
        replace hx103_2:=(HB.out.cell (World.block_lt_of_cell? w _ hx103_2)).trans hx103_2
        replace p103:=eq_true p103
        replace q103:=eq_true q103
        go_wp2_with (first|((with_reducible refine gate_dst (N:=4) rfl ?_);(try (refine gate_guard (by rfl) ?_;dsimp only));refine box_event ?hg (N:=4) ?hd (cs:=#[.int .i64 0,.int .i64 0,.int .i64 0]) (t:=46) ?hr ?_;(case hd => rfl);(case hg => rfl);(case hr => first|(go_simp;done)|(go_simp;rfl));intro gb104 hg w19 hbox hb;have n0_:=aMx4 (blk_below (g:=gb102) (o:=.cells #[.slice (some ad103) l0_0.length c0_0,.slice A0_1 l0_1.length c0_1] 25 (0,0)) (by (with_reducible repeat (first|refine blk_drewN ?_ _|refine blk_drew ?_|refine blk_alloc ?_ _));exact BK102.out) hb);have n1_:=aMx4 (below_step (by repeat (first|(with_reducible first|exact HB.out|apply below_alloc|apply pw_below_drewN|apply below_drew1|refine below_set ?_ GE102.out)|exact HB.out)) hb);have n2_:=aMx4 (hbox);have n3_:=aMx4 ((by rw [hg];exact (below_size (by repeat (first|(with_reducible first|exact HB.out|apply below_alloc|apply pw_below_drewN|apply below_drew1|refine below_set ?_ GE102.out)|exact HB.out))) : w.heap.size ≤ gb104));have n4_:=aMx4 ((by rw [hg];exact (below_size (by repeat (first|(with_reducible first|exact HB.out|apply below_alloc|apply pw_below_drewN|apply below_drew1|refine below_set ?_ GE102.out)|exact HB.out))) : w.heap.size ≤ gb104));have n5_:=aMx4 ((by rw [hg];exact Nat.ne_of_lt (blk_lt (g:=gb102) (o:=.cells #[.slice (some ad103) l0_0.length c0_0,.slice A0_1 l0_1.length c0_1] 25 (0,0)) (by (with_reducible repeat (first|refine blk_drewN ?_ _|refine blk_drew ?_|refine blk_alloc ?_ _));exact BK102.out)) : gb102 ≠ gb104));have n6_:=aMx4 ((by rw [hg];exact Nat.ne_of_gt (blk_lt (g:=gb102) (o:=.cells #[.slice (some ad103) l0_0.length c0_0,.slice A0_1 l0_1.length c0_1] 25 (0,0)) (by (with_reducible repeat (first|refine blk_drewN ?_ _|refine blk_drew ?_|refine blk_alloc ?_ _));exact BK102.out)) : gb104 ≠ gb102));clear BK102;clear HB;have BK102:=n0_;have HB:=n1_;have BK104:=n2_;have GW104:=n3_;have GE104:=n4_;have NB102_104:=n5_;have NB104_102:=n6_;clear n0_ n1_ n2_ n3_ n4_ n5_ n6_;clear hb hbox hg;have hnb20:=NB104_102.out;have hnc20:=NB102_104.out;have hcz21_0 : w19.cell? ⟨gb104,0,none⟩ = some (.int .i64 0):=(blk_cell BK104.out 0).trans rfl;have hcz21_1 : w19.cell? ⟨gb104,1,none⟩ = some (.int .i64 0):=(blk_cell BK104.out 1).trans rfl;have hcz21_2 : w19.cell? ⟨gb104,2,none⟩ = some (.int .i64 0):=(blk_cell BK104.out 2).trans rfl;have hfz21_0:=blk_frozen BK104.out 0;have hfz21_1:=blk_frozen BK104.out 1;have hfz21_2:=blk_frozen BK104.out 2)|((with_reducible refine gate_callee (f:=87) rfl ?_);refine goesL_ (some 18) rfl rfl Tryd.func87 (by kernel_rfl) rfl #[.int .i64 ((rd_T46 l0_0 x12_1).f0)] rfl (by (try simp only [List.map_toArray,List.map_cons,List.map_nil]);first|done|rfl|(simp only [List.length_drop,List.length_take];rfl)) ?_;(with_reducible refine (mesh_coord.calls ((rd_T46 l0_0 x12_1).f0) true _ A7.out).mono ?_);rintro e w' ⟨rfl,⟨nd,rfl⟩⟩;refine ⟨_,rfl,?_⟩)|(go_at_call 87;(with_reducible refine (mesh_coord.calls ((rd_T46 l0_0 x12_1).f1) false _ A9.out).mono ?_);rintro e w' ⟨rfl,⟨nd,rfl⟩⟩))
        go_ret
        exact ⟨by first | rfl | (simp [errW_none,errW_some]<;>rfl) | (simp [*,errW_none,errW_some]<;>rfl),by repeat (first | (with_reducible first | exact HB.out | apply below_alloc | apply pw_below_drewN | apply below_drew1 | refine below_set ?_ GE102.out | refine below_set ?_ GE104.out) | exact HB.out)⟩
      ·replace c8:=Bool.eq_false_iff.mpr c8
       subst c8
       have H1 : (some false) = some r:=by rw [if_neg (show ¬ (false = true) by decide)] at H;exact H
       clear H
       have H:=H1
       clear H1
       obtain rfl:=Option.some.inj H
       have p103 : 0 ≤ (x12_1 : Int):=of_decide_eq_true (by first | (with_reducible assumption) | assumption)
       have q103 : x12_1 < (l0_0.length : Int):=of_decide_eq_true (by first | (with_reducible assumption) | assumption)
       obtain ⟨ad103,e103,hx103_0,hx103_1,hx103_2⟩:=at_T46 HR0_0.out x12_1 p103 q103
       cases e103
       replace hx103_0:=(HB.out.cell (World.block_lt_of_cell? w _ hx103_0)).trans hx103_0
       replace hx103_1:=(HB.out.cell (World.block_lt_of_cell? w _ hx103_1)).trans hx103_1
       replace hx103_2:=(HB.out.cell (World.block_lt_of_cell? w _ hx103_2)).trans hx103_2
       replace p103:=eq_true p103
       replace q103:=eq_true q103
       go_wp2_with (first|((with_reducible refine gate_dst (N:=4) rfl ?_);(try (refine gate_guard (by rfl) ?_;dsimp only));refine box_event ?hg (N:=4) ?hd (cs:=#[.int .i64 0,.int .i64 0,.int .i64 0]) (t:=46) ?hr ?_;(case hd => rfl);(case hg => rfl);(case hr => first|(go_simp;done)|(go_simp;rfl));intro gb104 hg w22 hbox hb;have n0_:=aMx4 (blk_below (g:=gb102) (o:=.cells #[.slice (some ad103) l0_0.length c0_0,.slice A0_1 l0_1.length c0_1] 25 (0,0)) (by (with_reducible repeat (first|refine blk_drewN ?_ _|refine blk_drew ?_|refine blk_alloc ?_ _));exact BK102.out) hb);have n1_:=aMx4 (below_step (by repeat (first|(with_reducible first|exact HB.out|apply below_alloc|apply pw_below_drewN|apply below_drew1|refine below_set ?_ GE102.out)|exact HB.out)) hb);have n2_:=aMx4 (hbox);have n3_:=aMx4 ((by rw [hg];exact (below_size (by repeat (first|(with_reducible first|exact HB.out|apply below_alloc|apply pw_below_drewN|apply below_drew1|refine below_set ?_ GE102.out)|exact HB.out))) : w.heap.size ≤ gb104));have n4_:=aMx4 ((by rw [hg];exact (below_size (by repeat (first|(with_reducible first|exact HB.out|apply below_alloc|apply pw_below_drewN|apply below_drew1|refine below_set ?_ GE102.out)|exact HB.out))) : w.heap.size ≤ gb104));have n5_:=aMx4 ((by rw [hg];exact Nat.ne_of_lt (blk_lt (g:=gb102) (o:=.cells #[.slice (some ad103) l0_0.length c0_0,.slice A0_1 l0_1.length c0_1] 25 (0,0)) (by (with_reducible repeat (first|refine blk_drewN ?_ _|refine blk_drew ?_|refine blk_alloc ?_ _));exact BK102.out)) : gb102 ≠ gb104));have n6_:=aMx4 ((by rw [hg];exact Nat.ne_of_gt (blk_lt (g:=gb102) (o:=.cells #[.slice (some ad103) l0_0.length c0_0,.slice A0_1 l0_1.length c0_1] 25 (0,0)) (by (with_reducible repeat (first|refine blk_drewN ?_ _|refine blk_drew ?_|refine blk_alloc ?_ _));exact BK102.out)) : gb104 ≠ gb102));clear BK102;clear HB;have BK102:=n0_;have HB:=n1_;have BK104:=n2_;have GW104:=n3_;have GE104:=n4_;have NB102_104:=n5_;have NB104_102:=n6_;clear n0_ n1_ n2_ n3_ n4_ n5_ n6_;clear hb hbox hg;have hnb23:=NB104_102.out;have hnc23:=NB102_104.out;have hcz24_0 : w22.cell? ⟨gb104,0,none⟩ = some (.int .i64 0):=(blk_cell BK104.out 0).trans rfl;have hcz24_1 : w22.cell? ⟨gb104,1,none⟩ = some (.int .i64 0):=(blk_cell BK104.out 1).trans rfl;have hcz24_2 : w22.cell? ⟨gb104,2,none⟩ = some (.int .i64 0):=(blk_cell BK104.out 2).trans rfl;have hfz24_0:=blk_frozen BK104.out 0;have hfz24_1:=blk_frozen BK104.out 1;have hfz24_2:=blk_frozen BK104.out 2)|((with_reducible refine gate_callee (f:=87) rfl ?_);refine goesL_ (some 18) rfl rfl Tryd.func87 (by kernel_rfl) rfl #[.int .i64 ((rd_T46 l0_0 x12_1).f0)] rfl (by (try simp only [List.map_toArray,List.map_cons,List.map_nil]);first|done|rfl|(simp only [List.length_drop,List.length_take];rfl)) ?_;(with_reducible refine (mesh_coord.calls ((rd_T46 l0_0 x12_1).f0) false _ A7.out).mono ?_);rintro e w' ⟨rfl,⟨nd,rfl⟩⟩;refine ⟨_,rfl,?_⟩))
       go_ret
       exact ⟨by first | rfl | (simp [errW_none,errW_some]<;>rfl) | (simp [*,errW_none,errW_some]<;>rfl),by repeat (first | (with_reducible first | exact HB.out | apply below_alloc | apply pw_below_drewN | apply below_drew1 | refine below_set ?_ GE102.out | refine below_set ?_ GE104.out) | exact HB.out)⟩
     ·rw [if_neg c6] at H
      exact absurd H (by simp)
    ·rw [if_neg c5] at H
     exact absurd H (by simp)
   ·rw [if_neg c4] at H
    have c4b0 : decide (x12_1 < (l0_0.length : Int)) = false:=decide_eq_false c4
    clear c4
    have H':=aMx4 H
    clear H
    have hcz25_0 : wr.cell? ⟨gb102,0,none⟩ = some (.slice A0_0 l0_0.length c0_0):=(blk_cell BK102.out 0).trans rfl
    have hcz25_1 : wr.cell? ⟨gb102,1,none⟩ = some (.slice A0_1 l0_1.length c0_1):=(blk_cell BK102.out 1).trans rfl
    have hfz25_0:=blk_frozen BK102.out 0
    have hfz25_1:=blk_frozen BK102.out 1
    go_wp2
    go_loopg [36] k1 (fun kq v36 w' => ∃ (x36_2 : Int),v36 = .int .i64 x36_2 ∧ Aside0 (mesh_plain.l1 kq l0_1 (l0_1.length : Int) x36_2 l0_0 l0_1 = some r) ∧ Aside0 (kq ≤ k1) ∧ Aside0 (w'.heap[gb102]? = some (.cells #[(.slice A0_0 l0_0.length c0_0),(.slice A0_1 l0_1.length c0_1)] 25 (0,0))) ∧ Aside0 (Below w.heap.size w w'))
    case atStart => exact ⟨(0),(by first | rfl | (simp;done) | (simp [*];done) | (simp [wrap64];done)),H',⟨Nat.le_refl _⟩,⟨by (with_reducible repeat (first | refine blk_drewN ?_ _ | refine blk_drew ?_ | refine blk_alloc ?_ _));exact BK102.out⟩,⟨by repeat (first | (with_reducible first | exact HB.out | apply below_alloc | apply pw_below_drewN | apply below_drew1 | refine below_set ?_ GE102.out) | exact HB.out)⟩⟩
    case round =>
     clear H'
     (try clear c1);(try clear p1);(try clear q1);(try clear hx1);(try clear c2);(try clear p2);(try clear c4);(try clear c4b0);(try clear c5);(try clear c5b0);(try clear c6);(try clear c6b0);(try clear p6);(try clear c7);(try clear c8);(try clear c10);(try clear p10);(try clear q10);(try clear hx10);(try clear c12);(try clear c14);(try clear c17);(try clear c20);(try clear c23);(try clear hcz15_0);(try clear hcz15_1);(try clear hcz15_2);(try clear hcz18_0);(try clear hcz18_1);(try clear hcz18_2);(try clear hcz21_0);(try clear hcz21_1);(try clear hcz21_2);(try clear hcz24_0);(try clear hcz24_1);(try clear hcz24_2);(try clear hcz25_0);(try clear hcz25_1);(try clear hcz3_0);(try clear hcz3_1);(try clear hfz15_0);(try clear hfz15_1);(try clear hfz15_2);(try clear hfz18_0);(try clear hfz18_1);(try clear hfz18_2);(try clear hfz21_0);(try clear hfz21_1);(try clear hfz21_2);(try clear hfz24_0);(try clear hfz24_1);(try clear hfz24_2);(try clear hfz25_0);(try clear hfz25_1);(try clear hfz3_0);(try clear hfz3_1);(try clear hx103_0);(try clear hx103_1);(try clear hx103_2);(try clear p103);(try clear p2);(try clear q103)
     obtain ⟨x36_2,rfl,HA,HK2,BK102,HB⟩:=hrel
     cases gk with
     | zero => exact absurd HA.out (by simp [mesh_plain.l1])
     | succ k2 =>
      have H:=HA.out
      clear HA
      simp only [mesh_plain.l1] at H
      by_cases c26 : x36_2 < (l0_1.length : Int)
      ·rw [if_pos c26] at H
       have c26b0 : decide (x36_2 < (l0_1.length : Int)) = true:=decide_eq_true c26
       clear c26
       by_cases c27 : 0 ≤ x36_2
       ·rw [if_pos c27] at H
        have c27b0 : decide (0 ≤ x36_2) = true:=decide_eq_true c27
        clear c27
        by_cases c28 : x36_2 < (l0_1.length : Int)
        ·rw [if_pos c28] at H
         have c28b0 : decide (x36_2 < (l0_1.length : Int)) = true:=decide_eq_true c28
         clear c28
         have H':=aMx4 H
         clear H
         have p108 : 0 ≤ (x36_2 : Int):=of_decide_eq_true (by first | (with_reducible assumption) | assumption)
         have q108 : x36_2 < (l0_1.length : Int):=of_decide_eq_true (by first | (with_reducible assumption) | assumption)
         obtain ⟨ad108,e108,hx108_0,hx108_1,hx108_2⟩:=at_T47 HR0_1.out x36_2 p108 q108
         cases e108
         replace hx108_0:=(HB.out.cell (World.block_lt_of_cell? w _ hx108_0)).trans hx108_0
         replace hx108_1:=(HB.out.cell (World.block_lt_of_cell? w _ hx108_1)).trans hx108_1
         replace hx108_2:=(HB.out.cell (World.block_lt_of_cell? w _ hx108_2)).trans hx108_2
         replace p108:=eq_true p108
         replace q108:=eq_true q108
         go_wp2_with (first|((with_reducible refine gate_dst (N:=6) rfl ?_);(try (refine gate_guard (by rfl) ?_;dsimp only));refine box_event ?hg (N:=6) ?hd (cs:=#[.int .i64 0,.int .i64 0,.int .i64 0]) (t:=47) ?hr ?_;(case hd => rfl);(case hg => rfl);(case hr => first|(go_simp;done)|(go_simp;rfl));intro gb109 hg w29 hbox hb;have n0_:=aMx4 (blk_below (g:=gb102) (o:=.cells #[.slice A0_0 l0_0.length c0_0,.slice (some ad108) l0_1.length c0_1] 25 (0,0)) (by (with_reducible repeat (first|refine blk_drewN ?_ _|refine blk_drew ?_|refine blk_alloc ?_ _));exact BK102.out) hb);have n1_:=aMx4 (below_step (by repeat (first|(with_reducible first|exact HB.out|apply below_alloc|apply pw_below_drewN|apply below_drew1|refine below_set ?_ GE102.out)|exact HB.out)) hb);have n2_:=aMx4 (hbox);have n3_:=aMx4 ((by rw [hg];exact (below_size (by repeat (first|(with_reducible first|exact HB.out|apply below_alloc|apply pw_below_drewN|apply below_drew1|refine below_set ?_ GE102.out)|exact HB.out))) : w.heap.size ≤ gb109));have n4_:=aMx4 ((by rw [hg];exact (below_size (by repeat (first|(with_reducible first|exact HB.out|apply below_alloc|apply pw_below_drewN|apply below_drew1|refine below_set ?_ GE102.out)|exact HB.out))) : w.heap.size ≤ gb109));have n5_:=aMx4 ((by rw [hg];exact Nat.ne_of_lt (blk_lt (g:=gb102) (o:=.cells #[.slice A0_0 l0_0.length c0_0,.slice (some ad108) l0_1.length c0_1] 25 (0,0)) (by (with_reducible repeat (first|refine blk_drewN ?_ _|refine blk_drew ?_|refine blk_alloc ?_ _));exact BK102.out)) : gb102 ≠ gb109));have n6_:=aMx4 ((by rw [hg];exact Nat.ne_of_gt (blk_lt (g:=gb102) (o:=.cells #[.slice A0_0 l0_0.length c0_0,.slice (some ad108) l0_1.length c0_1] 25 (0,0)) (by (with_reducible repeat (first|refine blk_drewN ?_ _|refine blk_drew ?_|refine blk_alloc ?_ _));exact BK102.out)) : gb109 ≠ gb102));clear BK102;clear HB;have BK102:=n0_;have HB:=n1_;have BK109:=n2_;have GW109:=n3_;have GE109:=n4_;have NB102_109:=n5_;have NB109_102:=n6_;clear n0_ n1_ n2_ n3_ n4_ n5_ n6_;clear hb hbox hg;have hnb30:=NB109_102.out;have hnc30:=NB102_109.out;have hcz31_0 : w29.cell? ⟨gb109,0,none⟩ = some (.int .i64 0):=(blk_cell BK109.out 0).trans rfl;have hcz31_1 : w29.cell? ⟨gb109,1,none⟩ = some (.int .i64 0):=(blk_cell BK109.out 1).trans rfl;have hcz31_2 : w29.cell? ⟨gb109,2,none⟩ = some (.int .i64 0):=(blk_cell BK109.out 2).trans rfl;have hfz31_0:=blk_frozen BK109.out 0;have hfz31_1:=blk_frozen BK109.out 1;have hfz31_2:=blk_frozen BK109.out 2))
         go_loopg [41] k2 (fun kq v41 w' => ∃ (x41_3 : Int),v41 = .int .i64 x41_3 ∧ Aside0 (mesh_plain.l2 kq l0_1 (l0_1.length : Int) x36_2 x41_3 ((rd_T47 l0_1 x36_2).f0) ((rd_T47 l0_1 x36_2).f1) ((rd_T47 l0_1 x36_2).f2) l0_0 l0_1 ((rd_T47 l0_1 x36_2).f0) ((rd_T47 l0_1 x36_2).f1) ((rd_T47 l0_1 x36_2).f2) = some r) ∧ Aside0 (kq ≤ k2) ∧ Aside0 (w'.heap[gb102]? = some (.cells #[(.slice A0_0 l0_0.length c0_0),(.slice (some ad108) l0_1.length c0_1)] 25 (0,0))) ∧ Aside0 (w'.heap[gb109]? = some (.cells #[.int .i64 ((rd_T47 l0_1 x36_2).f0),.int .i64 ((rd_T47 l0_1 x36_2).f1),.int .i64 ((rd_T47 l0_1 x36_2).f2)] 47 (0,0))) ∧ Aside0 (Below w.heap.size w w'))
         case atStart => exact ⟨(0),(by first | rfl | (simp;done) | (simp [*];done) | (simp [wrap64];done)),H',⟨Nat.le_refl _⟩,⟨by (with_reducible repeat (first | refine blk_drewN ?_ _ | refine blk_drew ?_ | refine blk_alloc ?_ _));refine blk_far ?_ NB102_109.out _;(with_reducible repeat (first | refine blk_drewN ?_ _ | refine blk_drew ?_ | refine blk_alloc ?_ _));refine blk_far ?_ NB102_109.out _;(with_reducible repeat (first | refine blk_drewN ?_ _ | refine blk_drew ?_ | refine blk_alloc ?_ _));refine blk_far ?_ NB102_109.out _;(with_reducible repeat (first | refine blk_drewN ?_ _ | refine blk_drew ?_ | refine blk_alloc ?_ _));exact BK102.out⟩,⟨by (with_reducible repeat (first | refine blk_drewN ?_ _ | refine blk_drew ?_ | refine blk_alloc ?_ _));refine blk_put (cs:=#[.int .i64 ((rd_T47 l0_1 x36_2).f0),.int .i64 ((rd_T47 l0_1 x36_2).f1),.int .i64 0]) ?_ 2 _ rfl;(with_reducible repeat (first | refine blk_drewN ?_ _ | refine blk_drew ?_ | refine blk_alloc ?_ _));refine blk_put (cs:=#[.int .i64 ((rd_T47 l0_1 x36_2).f0),.int .i64 0,.int .i64 0]) ?_ 1 _ rfl;(with_reducible repeat (first | refine blk_drewN ?_ _ | refine blk_drew ?_ | refine blk_alloc ?_ _));refine blk_put (cs:=#[.int .i64 0,.int .i64 0,.int .i64 0]) ?_ 0 _ rfl;(with_reducible repeat (first | refine blk_drewN ?_ _ | refine blk_drew ?_ | refine blk_alloc ?_ _));exact BK109.out⟩,⟨by repeat (first | (with_reducible first | exact HB.out | apply below_alloc | apply pw_below_drewN | apply below_drew1 | refine below_set ?_ GE102.out | refine below_set ?_ GE109.out) | exact HB.out)⟩⟩
         case round =>
          clear H'
          (try clear c1);(try clear p1);(try clear q1);(try clear hx1);(try clear c2);(try clear p2);(try clear c3);(try clear c4);(try clear c4b0);(try clear c5);(try clear c5b0);(try clear c6);(try clear c6b0);(try clear p6);(try clear c7);(try clear c8);(try clear c10);(try clear p10);(try clear q10);(try clear hx10);(try clear c12);(try clear c14);(try clear c17);(try clear c20);(try clear c23);(try clear c26);(try clear c26b0);(try clear c27);(try clear c27b0);(try clear c28);(try clear c28b0);(try clear c30);(try clear hcz15_0);(try clear hcz15_1);(try clear hcz15_2);(try clear hcz18_0);(try clear hcz18_1);(try clear hcz18_2);(try clear hcz21_0);(try clear hcz21_1);(try clear hcz21_2);(try clear hcz24_0);(try clear hcz24_1);(try clear hcz24_2);(try clear hcz25_0);(try clear hcz25_1);(try clear hcz31_0);(try clear hcz31_1);(try clear hcz31_2);(try clear hcz3_0);(try clear hcz3_1);(try clear hfz15_0);(try clear hfz15_1);(try clear hfz15_2);(try clear hfz18_0);(try clear hfz18_1);(try clear hfz18_2);(try clear hfz21_0);(try clear hfz21_1);(try clear hfz21_2);(try clear hfz24_0);(try clear hfz24_1);(try clear hfz24_2);(try clear hfz25_0);(try clear hfz25_1);(try clear hfz31_0);(try clear hfz31_1);(try clear hfz31_2);(try clear hfz3_0);(try clear hfz3_1);(try clear hx103_0);(try clear hx103_1);(try clear hx103_2);(try clear hx108_0);(try clear hx108_1);(try clear hx108_2);(try clear p1);(try clear p10);(try clear p103);(try clear p108);(try clear p2);(try clear p6);(try clear q1);(try clear q10);(try clear q103);(try clear q108)
          obtain ⟨x41_3,rfl,HA,HK3,BK102,BK109,HB⟩:=hrel
          cases gk with
          | zero => exact absurd HA.out (by simp [mesh_plain.l2])
          | succ k3 =>
           have H:=HA.out
           clear HA
           simp only [mesh_plain.l2] at H
           by_cases c32 : x41_3 < 3
           ·rw [if_pos c32] at H
            have c32b0 : decide (x41_3 < 3) = true:=decide_eq_true c32
            clear c32
            by_cases c33 : x41_3 = 0
            ·rw [if_pos c33] at H
             subst c33
             by_cases c34 : ((rd_T47 l0_1 x36_2).f0) < 0
             ·rw [if_pos c34] at H
              have c34b0 : decide (((rd_T47 l0_1 x36_2).f0) < 0) = true:=decide_eq_true c34
              clear c34
              obtain rfl:=Option.some.inj H
              go_wp2
              go_ret
              exact ⟨by first | rfl | (simp [errW_none,errW_some]<;>rfl) | (simp [*,errW_none,errW_some]<;>rfl),by repeat (first | (with_reducible first | exact HB.out | apply below_alloc | apply pw_below_drewN | apply below_drew1 | refine below_set ?_ GE102.out | refine below_set ?_ GE109.out) | exact HB.out)⟩
             ·rw [if_neg c34] at H
              have c34b0 : decide (((rd_T47 l0_1 x36_2).f0) < 0) = false:=decide_eq_false c34
              clear c34
              by_cases c35 : ((rd_T47 l0_1 x36_2).f0) ≥ (l0_0.length : Int)
              ·rw [if_pos c35] at H
               have c35b0 : decide ((l0_0.length : Int) ≤ ((rd_T47 l0_1 x36_2).f0)) = true:=decide_eq_true c35
               clear c35
               obtain rfl:=Option.some.inj H
               have hnb36:=NB102_109.out
               have hnc36:=NB109_102.out
               have hcz37_0 : wr.cell? ⟨gb102,0,none⟩ = some (.slice A0_0 l0_0.length c0_0):=(blk_cell BK102.out 0).trans rfl
               have hcz37_1 : wr.cell? ⟨gb102,1,none⟩ = some (.slice (some ad108) l0_1.length c0_1):=(blk_cell BK102.out 1).trans rfl
               have hfz37_0:=blk_frozen BK102.out 0
               have hfz37_1:=blk_frozen BK102.out 1
               go_wp2
               go_ret
               exact ⟨by first | rfl | (simp [errW_none,errW_some]<;>rfl) | (simp [*,errW_none,errW_some]<;>rfl),by repeat (first | (with_reducible first | exact HB.out | apply below_alloc | apply pw_below_drewN | apply below_drew1 | refine below_set ?_ GE102.out | refine below_set ?_ GE109.out) | exact HB.out)⟩
              ·rw [if_neg c35] at H
               have c35b0 : decide ((l0_0.length : Int) ≤ ((rd_T47 l0_1 x36_2).f0)) = false:=decide_eq_false c35
               clear c35
               by_cases c38 : ((rd_T47 l0_1 x36_2).f0) = ((rd_T47 l0_1 x36_2).f1)
               ·rw [if_pos c38] at H
                have c38b0 : (((rd_T47 l0_1 x36_2).f0) == ((rd_T47 l0_1 x36_2).f1)) = true:=beq_iff_eq.mpr c38
                have c38b1 : (((rd_T47 l0_1 x36_2).f0) != ((rd_T47 l0_1 x36_2).f1)) = false:=bne_eq_false_iff_eq.mpr c38
                clear c38
                obtain rfl:=Option.some.inj H
                have hnb39:=NB102_109.out
                have hnc39:=NB109_102.out
                have hcz40_0 : wr.cell? ⟨gb102,0,none⟩ = some (.slice A0_0 l0_0.length c0_0):=(blk_cell BK102.out 0).trans rfl
                have hcz40_1 : wr.cell? ⟨gb102,1,none⟩ = some (.slice (some ad108) l0_1.length c0_1):=(blk_cell BK102.out 1).trans rfl
                have hfz40_0:=blk_frozen BK102.out 0
                have hfz40_1:=blk_frozen BK102.out 1
                have hcz41_0 : wr.cell? ⟨gb109,0,none⟩ = some (.int .i64 ((rd_T47 l0_1 x36_2).f0)):=(blk_cell BK109.out 0).trans rfl
                have hcz41_1 : wr.cell? ⟨gb109,1,none⟩ = some (.int .i64 ((rd_T47 l0_1 x36_2).f1)):=(blk_cell BK109.out 1).trans rfl
                have hcz41_2 : wr.cell? ⟨gb109,2,none⟩ = some (.int .i64 ((rd_T47 l0_1 x36_2).f2)):=(blk_cell BK109.out 2).trans rfl
                have hfz41_0:=blk_frozen BK109.out 0
                have hfz41_1:=blk_frozen BK109.out 1
                have hfz41_2:=blk_frozen BK109.out 2
                go_wp2
                go_ret
                exact ⟨by first | rfl | (simp [errW_none,errW_some]<;>rfl) | (simp [*,errW_none,errW_some]<;>rfl),by repeat (first | (with_reducible first | exact HB.out | apply below_alloc | apply pw_below_drewN | apply below_drew1 | refine below_set ?_ GE102.out | refine below_set ?_ GE109.out) | exact HB.out)⟩
               ·rw [if_neg c38] at H
                have c38b0 : (((rd_T47 l0_1 x36_2).f0) == ((rd_T47 l0_1 x36_2).f1)) = false:=beq_eq_false_iff_ne.mpr c38
                have c38b1 : (((rd_T47 l0_1 x36_2).f0) != ((rd_T47 l0_1 x36_2).f1)) = true:=bne_iff_ne.mpr c38
                have H':=aMx4 H
                clear H
                have hnb42:=NB102_109.out
                have hnc42:=NB109_102.out
                have hcz43_0 : wr.cell? ⟨gb102,0,none⟩ = some (.slice A0_0 l0_0.length c0_0):=(blk_cell BK102.out 0).trans rfl
                have hcz43_1 : wr.cell? ⟨gb102,1,none⟩ = some (.slice (some ad108) l0_1.length c0_1):=(blk_cell BK102.out 1).trans rfl
                have hfz43_0:=blk_frozen BK102.out 0
                have hfz43_1:=blk_frozen BK102.out 1
                have hcz44_0 : wr.cell? ⟨gb109,0,none⟩ = some (.int .i64 ((rd_T47 l0_1 x36_2).f0)):=(blk_cell BK109.out 0).trans rfl
                have hcz44_1 : wr.cell? ⟨gb109,1,none⟩ = some (.int .i64 ((rd_T47 l0_1 x36_2).f1)):=(blk_cell BK109.out 1).trans rfl
                have hcz44_2 : wr.cell? ⟨gb109,2,none⟩ = some (.int .i64 ((rd_T47 l0_1 x36_2).f2)):=(blk_cell BK109.out 2).trans rfl
                have hfz44_0:=blk_frozen BK109.out 0
                have hfz44_1:=blk_frozen BK109.out 1
                have hfz44_2:=blk_frozen BK109.out 2
                go_wp2
                go_roundg k3
                case measure => have:=HK1.out;have:=HK2.out;have:=HK3.out;omega
                case rel => exact ⟨(wrap64 (0+1)),(by first | rfl | (simp;done) | (simp [*];done) | (simp [wrap64];done)),H',⟨by have:=HK1.out;have:=HK2.out;have:=HK3.out;omega⟩,⟨by (with_reducible repeat (first | refine blk_drewN ?_ _ | refine blk_drew ?_ | refine blk_alloc ?_ _));exact BK102.out⟩,⟨by (with_reducible repeat (first | refine blk_drewN ?_ _ | refine blk_drew ?_ | refine blk_alloc ?_ _));exact BK109.out⟩,⟨by repeat (first | (with_reducible first | exact HB.out | apply below_alloc | apply pw_below_drewN | apply below_drew1 | refine below_set ?_ GE102.out | refine below_set ?_ GE109.out) | exact HB.out)⟩⟩
            ·rw [if_neg c33] at H
             by_cases c45 : x41_3 = 1
             ·rw [if_pos c45] at H
              subst c45
              by_cases c46 : ((rd_T47 l0_1 x36_2).f1) < 0
              ·rw [if_pos c46] at H
               have c46b0 : decide (((rd_T47 l0_1 x36_2).f1) < 0) = true:=decide_eq_true c46
               clear c46
               obtain rfl:=Option.some.inj H
               go_wp2
               go_ret
               exact ⟨by first | rfl | (simp [errW_none,errW_some]<;>rfl) | (simp [*,errW_none,errW_some]<;>rfl),by repeat (first | (with_reducible first | exact HB.out | apply below_alloc | apply pw_below_drewN | apply below_drew1 | refine below_set ?_ GE102.out | refine below_set ?_ GE109.out) | exact HB.out)⟩
              ·rw [if_neg c46] at H
               have c46b0 : decide (((rd_T47 l0_1 x36_2).f1) < 0) = false:=decide_eq_false c46
               clear c46
               by_cases c47 : ((rd_T47 l0_1 x36_2).f1) ≥ (l0_0.length : Int)
               ·rw [if_pos c47] at H
                have c47b0 : decide ((l0_0.length : Int) ≤ ((rd_T47 l0_1 x36_2).f1)) = true:=decide_eq_true c47
                clear c47
                obtain rfl:=Option.some.inj H
                have hnb48:=NB102_109.out
                have hnc48:=NB109_102.out
                have hcz49_0 : wr.cell? ⟨gb102,0,none⟩ = some (.slice A0_0 l0_0.length c0_0):=(blk_cell BK102.out 0).trans rfl
                have hcz49_1 : wr.cell? ⟨gb102,1,none⟩ = some (.slice (some ad108) l0_1.length c0_1):=(blk_cell BK102.out 1).trans rfl
                have hfz49_0:=blk_frozen BK102.out 0
                have hfz49_1:=blk_frozen BK102.out 1
                go_wp2
                go_ret
                exact ⟨by first | rfl | (simp [errW_none,errW_some]<;>rfl) | (simp [*,errW_none,errW_some]<;>rfl),by repeat (first | (with_reducible first | exact HB.out | apply below_alloc | apply pw_below_drewN | apply below_drew1 | refine below_set ?_ GE102.out | refine below_set ?_ GE109.out) | exact HB.out)⟩
               ·rw [if_neg c47] at H
                have c47b0 : decide ((l0_0.length : Int) ≤ ((rd_T47 l0_1 x36_2).f1)) = false:=decide_eq_false c47
                clear c47
                by_cases c50 : ((rd_T47 l0_1 x36_2).f1) = ((rd_T47 l0_1 x36_2).f2)
                ·rw [if_pos c50] at H
                 have c50b0 : (((rd_T47 l0_1 x36_2).f1) == ((rd_T47 l0_1 x36_2).f2)) = true:=beq_iff_eq.mpr c50
                 have c50b1 : (((rd_T47 l0_1 x36_2).f1) != ((rd_T47 l0_1 x36_2).f2)) = false:=bne_eq_false_iff_eq.mpr c50
                 clear c50
                 obtain rfl:=Option.some.inj H
                 have hnb51:=NB102_109.out
                 have hnc51:=NB109_102.out
                 have hcz52_0 : wr.cell? ⟨gb102,0,none⟩ = some (.slice A0_0 l0_0.length c0_0):=(blk_cell BK102.out 0).trans rfl
                 have hcz52_1 : wr.cell? ⟨gb102,1,none⟩ = some (.slice (some ad108) l0_1.length c0_1):=(blk_cell BK102.out 1).trans rfl
                 have hfz52_0:=blk_frozen BK102.out 0
                 have hfz52_1:=blk_frozen BK102.out 1
                 have hcz53_0 : wr.cell? ⟨gb109,0,none⟩ = some (.int .i64 ((rd_T47 l0_1 x36_2).f0)):=(blk_cell BK109.out 0).trans rfl
                 have hcz53_1 : wr.cell? ⟨gb109,1,none⟩ = some (.int .i64 ((rd_T47 l0_1 x36_2).f1)):=(blk_cell BK109.out 1).trans rfl
                 have hcz53_2 : wr.cell? ⟨gb109,2,none⟩ = some (.int .i64 ((rd_T47 l0_1 x36_2).f2)):=(blk_cell BK109.out 2).trans rfl
                 have hfz53_0:=blk_frozen BK109.out 0
                 have hfz53_1:=blk_frozen BK109.out 1
                 have hfz53_2:=blk_frozen BK109.out 2
                 go_wp2
                 go_ret
                 exact ⟨by first | rfl | (simp [errW_none,errW_some]<;>rfl) | (simp [*,errW_none,errW_some]<;>rfl),by repeat (first | (with_reducible first | exact HB.out | apply below_alloc | apply pw_below_drewN | apply below_drew1 | refine below_set ?_ GE102.out | refine below_set ?_ GE109.out) | exact HB.out)⟩
                ·rw [if_neg c50] at H
                 have c50b0 : (((rd_T47 l0_1 x36_2).f1) == ((rd_T47 l0_1 x36_2).f2)) = false:=beq_eq_false_iff_ne.mpr c50
                 have c50b1 : (((rd_T47 l0_1 x36_2).f1) != ((rd_T47 l0_1 x36_2).f2)) = true:=bne_iff_ne.mpr c50
                 have H':=aMx4 H
                 clear H
                 have hnb54:=NB102_109.out
                 have hnc54:=NB109_102.out
                 have hcz55_0 : wr.cell? ⟨gb102,0,none⟩ = some (.slice A0_0 l0_0.length c0_0):=(blk_cell BK102.out 0).trans rfl
                 have hcz55_1 : wr.cell? ⟨gb102,1,none⟩ = some (.slice (some ad108) l0_1.length c0_1):=(blk_cell BK102.out 1).trans rfl
                 have hfz55_0:=blk_frozen BK102.out 0
                 have hfz55_1:=blk_frozen BK102.out 1
                 have hcz56_0 : wr.cell? ⟨gb109,0,none⟩ = some (.int .i64 ((rd_T47 l0_1 x36_2).f0)):=(blk_cell BK109.out 0).trans rfl
                 have hcz56_1 : wr.cell? ⟨gb109,1,none⟩ = some (.int .i64 ((rd_T47 l0_1 x36_2).f1)):=(blk_cell BK109.out 1).trans rfl
                 have hcz56_2 : wr.cell? ⟨gb109,2,none⟩ = some (.int .i64 ((rd_T47 l0_1 x36_2).f2)):=(blk_cell BK109.out 2).trans rfl
                 have hfz56_0:=blk_frozen BK109.out 0
                 have hfz56_1:=blk_frozen BK109.out 1
                 have hfz56_2:=blk_frozen BK109.out 2
                 go_wp2
                 go_roundg k3
                 case measure => have:=HK1.out;have:=HK2.out;have:=HK3.out;omega
                 case rel => exact ⟨(wrap64 (1+1)),(by first | rfl | (simp;done) | (simp [*];done) | (simp [wrap64];done)),H',⟨by have:=HK1.out;have:=HK2.out;have:=HK3.out;omega⟩,⟨by (with_reducible repeat (first | refine blk_drewN ?_ _ | refine blk_drew ?_ | refine blk_alloc ?_ _));exact BK102.out⟩,⟨by (with_reducible repeat (first | refine blk_drewN ?_ _ | refine blk_drew ?_ | refine blk_alloc ?_ _));exact BK109.out⟩,⟨by repeat (first | (with_reducible first | exact HB.out | apply below_alloc | apply pw_below_drewN | apply below_drew1 | refine below_set ?_ GE102.out | refine below_set ?_ GE109.out) | exact HB.out)⟩⟩
             ·rw [if_neg c45] at H
              by_cases c57 : x41_3 = 2
              ·rw [if_pos c57] at H
               subst c57
               by_cases c58 : ((rd_T47 l0_1 x36_2).f2) < 0
               ·rw [if_pos c58] at H
                have c58b0 : decide (((rd_T47 l0_1 x36_2).f2) < 0) = true:=decide_eq_true c58
                clear c58
                obtain rfl:=Option.some.inj H
                go_wp2
                go_ret
                exact ⟨by first | rfl | (simp [errW_none,errW_some]<;>rfl) | (simp [*,errW_none,errW_some]<;>rfl),by repeat (first | (with_reducible first | exact HB.out | apply below_alloc | apply pw_below_drewN | apply below_drew1 | refine below_set ?_ GE102.out | refine below_set ?_ GE109.out) | exact HB.out)⟩
               ·rw [if_neg c58] at H
                have c58b0 : decide (((rd_T47 l0_1 x36_2).f2) < 0) = false:=decide_eq_false c58
                clear c58
                by_cases c59 : ((rd_T47 l0_1 x36_2).f2) ≥ (l0_0.length : Int)
                ·rw [if_pos c59] at H
                 have c59b0 : decide ((l0_0.length : Int) ≤ ((rd_T47 l0_1 x36_2).f2)) = true:=decide_eq_true c59
                 clear c59
                 obtain rfl:=Option.some.inj H
                 have hnb60:=NB102_109.out
                 have hnc60:=NB109_102.out
                 have hcz61_0 : wr.cell? ⟨gb102,0,none⟩ = some (.slice A0_0 l0_0.length c0_0):=(blk_cell BK102.out 0).trans rfl
                 have hcz61_1 : wr.cell? ⟨gb102,1,none⟩ = some (.slice (some ad108) l0_1.length c0_1):=(blk_cell BK102.out 1).trans rfl
                 have hfz61_0:=blk_frozen BK102.out 0
                 have hfz61_1:=blk_frozen BK102.out 1
                 go_wp2
                 go_ret
                 exact ⟨by first | rfl | (simp [errW_none,errW_some]<;>rfl) | (simp [*,errW_none,errW_some]<;>rfl),by repeat (first | (with_reducible first | exact HB.out | apply below_alloc | apply pw_below_drewN | apply below_drew1 | refine below_set ?_ GE102.out | refine below_set ?_ GE109.out) | exact HB.out)⟩
                ·rw [if_neg c59] at H
                 have c59b0 : decide ((l0_0.length : Int) ≤ ((rd_T47 l0_1 x36_2).f2)) = false:=decide_eq_false c59
                 clear c59
                 by_cases c62 : ((rd_T47 l0_1 x36_2).f2) = ((rd_T47 l0_1 x36_2).f0)
                 ·rw [if_pos c62] at H
                  have c62b0 : (((rd_T47 l0_1 x36_2).f2) == ((rd_T47 l0_1 x36_2).f0)) = true:=beq_iff_eq.mpr c62
                  have c62b1 : (((rd_T47 l0_1 x36_2).f2) != ((rd_T47 l0_1 x36_2).f0)) = false:=bne_eq_false_iff_eq.mpr c62
                  clear c62
                  obtain rfl:=Option.some.inj H
                  have hnb63:=NB102_109.out
                  have hnc63:=NB109_102.out
                  have hcz64_0 : wr.cell? ⟨gb102,0,none⟩ = some (.slice A0_0 l0_0.length c0_0):=(blk_cell BK102.out 0).trans rfl
                  have hcz64_1 : wr.cell? ⟨gb102,1,none⟩ = some (.slice (some ad108) l0_1.length c0_1):=(blk_cell BK102.out 1).trans rfl
                  have hfz64_0:=blk_frozen BK102.out 0
                  have hfz64_1:=blk_frozen BK102.out 1
                  have hcz65_0 : wr.cell? ⟨gb109,0,none⟩ = some (.int .i64 ((rd_T47 l0_1 x36_2).f0)):=(blk_cell BK109.out 0).trans rfl
                  have hcz65_1 : wr.cell? ⟨gb109,1,none⟩ = some (.int .i64 ((rd_T47 l0_1 x36_2).f1)):=(blk_cell BK109.out 1).trans rfl
                  have hcz65_2 : wr.cell? ⟨gb109,2,none⟩ = some (.int .i64 ((rd_T47 l0_1 x36_2).f2)):=(blk_cell BK109.out 2).trans rfl
                  have hfz65_0:=blk_frozen BK109.out 0
                  have hfz65_1:=blk_frozen BK109.out 1
                  have hfz65_2:=blk_frozen BK109.out 2
                  go_wp2
                  go_ret
                  exact ⟨by first | rfl | (simp [errW_none,errW_some]<;>rfl) | (simp [*,errW_none,errW_some]<;>rfl),by repeat (first | (with_reducible first | exact HB.out | apply below_alloc | apply pw_below_drewN | apply below_drew1 | refine below_set ?_ GE102.out | refine below_set ?_ GE109.out) | exact HB.out)⟩
                 ·rw [if_neg c62] at H
                  have c62b0 : (((rd_T47 l0_1 x36_2).f2) == ((rd_T47 l0_1 x36_2).f0)) = false:=beq_eq_false_iff_ne.mpr c62
                  have c62b1 : (((rd_T47 l0_1 x36_2).f2) != ((rd_T47 l0_1 x36_2).f0)) = true:=bne_iff_ne.mpr c62
                  have H':=aMx4 H
                  clear H
                  have hnb66:=NB102_109.out
                  have hnc66:=NB109_102.out
                  have hcz67_0 : wr.cell? ⟨gb102,0,none⟩ = some (.slice A0_0 l0_0.length c0_0):=(blk_cell BK102.out 0).trans rfl
                  have hcz67_1 : wr.cell? ⟨gb102,1,none⟩ = some (.slice (some ad108) l0_1.length c0_1):=(blk_cell BK102.out 1).trans rfl
                  have hfz67_0:=blk_frozen BK102.out 0
                  have hfz67_1:=blk_frozen BK102.out 1
                  have hcz68_0 : wr.cell? ⟨gb109,0,none⟩ = some (.int .i64 ((rd_T47 l0_1 x36_2).f0)):=(blk_cell BK109.out 0).trans rfl
                  have hcz68_1 : wr.cell? ⟨gb109,1,none⟩ = some (.int .i64 ((rd_T47 l0_1 x36_2).f1)):=(blk_cell BK109.out 1).trans rfl
                  have hcz68_2 : wr.cell? ⟨gb109,2,none⟩ = some (.int .i64 ((rd_T47 l0_1 x36_2).f2)):=(blk_cell BK109.out 2).trans rfl
                  have hfz68_0:=blk_frozen BK109.out 0
                  have hfz68_1:=blk_frozen BK109.out 1
                  have hfz68_2:=blk_frozen BK109.out 2
                  go_wp2
                  go_roundg k3
                  case measure => have:=HK1.out;have:=HK2.out;have:=HK3.out;omega
                  case rel => exact ⟨(wrap64 (2+1)),(by first | rfl | (simp;done) | (simp [*];done) | (simp [wrap64];done)),H',⟨by have:=HK1.out;have:=HK2.out;have:=HK3.out;omega⟩,⟨by (with_reducible repeat (first | refine blk_drewN ?_ _ | refine blk_drew ?_ | refine blk_alloc ?_ _));exact BK102.out⟩,⟨by (with_reducible repeat (first | refine blk_drewN ?_ _ | refine blk_drew ?_ | refine blk_alloc ?_ _));exact BK109.out⟩,⟨by repeat (first | (with_reducible first | exact HB.out | apply below_alloc | apply pw_below_drewN | apply below_drew1 | refine below_set ?_ GE102.out | refine below_set ?_ GE109.out) | exact HB.out)⟩⟩
              ·rw [if_neg c57] at H
               exact absurd H (by simp)
           ·rw [if_neg c32] at H
            have c32b0 : decide (x41_3 < 3) = false:=decide_eq_false c32
            clear c32
            have H':=aMx4 H
            clear H
            go_wp2
            go_roundg k3
            case measure => have:=HK1.out;have:=HK2.out;have:=HK3.out;omega
            case rel => exact ⟨(wrap64 (x36_2+1)),(by first | rfl | (simp;done) | (simp [*];done) | (simp [wrap64];done)),H',⟨by have:=HK1.out;have:=HK2.out;have:=HK3.out;omega⟩,⟨by (with_reducible repeat (first | refine blk_drewN ?_ _ | refine blk_drew ?_ | refine blk_alloc ?_ _));exact BK102.out⟩,⟨by repeat (first | (with_reducible first | exact HB.out | apply below_alloc | apply pw_below_drewN | apply below_drew1 | refine below_set ?_ GE102.out | refine below_set ?_ GE109.out) | exact HB.out)⟩⟩
        ·rw [if_neg c28] at H
         exact absurd H (by simp)
       ·rw [if_neg c27] at H
        exact absurd H (by simp)
      ·rw [if_neg c26] at H
       have c26b0 : decide (x36_2 < (l0_1.length : Int)) = false:=decide_eq_false c26
       clear c26
       obtain rfl:=Option.some.inj H
       go_wp2
       go_ret
       exact ⟨by first | rfl | (simp [errW_none,errW_some]<;>rfl) | (simp [*,errW_none,errW_some]<;>rfl),by repeat (first | (with_reducible first | exact HB.out | apply below_alloc | apply pw_below_drewN | apply below_drew1 | refine below_set ?_ GE102.out) | exact HB.out)⟩
def slices_Index_int_int.l0 : Nat → List Int → Int → Int → Int → Option (Int)
  | 0, _, _, _, _ => none
  | k + 1, x0, x1, x7, x8 => if x8 < x7 then (if 0 ≤ x8 then (if x8 < (x0.length : Int) then (if x1 = (rd x0 x8) then (some x8) else (slices_Index_int_int.l0 k x0 x1 x7 (wrap64 (x8 + 1)))) else (none)) else (none)) else (some (-1))
def slices_Index_int_int.f (k : Nat) (l0 : List Int) (a1 : Int) : Option (Int) := slices_Index_int_int.l0 k l0 a1 (l0.length : Int) 0
set_option maxHeartbeats 8000000 in
set_option maxRecDepth 100000 in
theorem slices_Index_int_int.calls (k : Nat) (A0 : Option Addr) (c0 : Nat) (l0 : List Int) (a1 : Int) (r : Int) (w : World) (hr0 : Kd.C (Kd.int .i64) w A0 l0.length l0) (hc0 : l0.length ≤ c0) (h : slices_Index_int_int.f k l0 a1 = some r) :
  Calls Tryd.prog 99 #[.slice A0 l0.length c0,.int .i64 a1] w fun e w' => e = .returned (.int .i64 r) ∧ Drawn0 w w':=by
 have HR0:=aMx4 hr0
 have HC0:=aMx4 hc0
 clear hr0 hc0
 have H : (slices_Index_int_int.l0 k l0 a1 (l0.length : Int) 0) = some r:=h
 clear h
 have H':=aMx4 H
 clear H
 go_enter Tryd.func99,Tryd.ntmps99
 go_wp2
 go_loopg [8] k (fun kq v8 w' => ∃ (x8_1 : Int),v8 = .int .i64 x8_1 ∧ Aside0 (slices_Index_int_int.l0 kq l0 a1 (l0.length : Int) x8_1 = some r) ∧ Aside0 (kq ≤ k) ∧ Drawn0 w w')
 case atStart => exact ⟨(0),(by first | rfl | (simp;done) | (simp [*];done) | (simp [wrap64];done)),H',⟨Nat.le_refl _⟩,by repeat (first | exact Drawn0.refl _ | apply Drawn0.step)⟩
 case round =>
  clear H'
  try clear p2
  obtain ⟨x8_1,rfl,HA,HK1,⟨m1,rfl⟩⟩:=hrel
  cases gk with
  | zero => exact absurd HA.out (by simp [slices_Index_int_int.l0])
  | succ k1 =>
   have H:=HA.out
   clear HA
   simp only [slices_Index_int_int.l0] at H
   by_cases c3 : x8_1 < (l0.length : Int)
   ·rw [if_pos c3] at H
    have c3b0 : decide (x8_1 < (l0.length : Int)) = true:=decide_eq_true c3
    clear c3
    by_cases c4 : 0 ≤ x8_1
    ·rw [if_pos c4] at H
     have c4b0 : decide (0 ≤ x8_1) = true:=decide_eq_true c4
     clear c4
     by_cases c5 : x8_1 < (l0.length : Int)
     ·rw [if_pos c5] at H
      have c5b0 : decide (x8_1 < (l0.length : Int)) = true:=decide_eq_true c5
      clear c5
      by_cases c6 : a1 = (rd l0 x8_1)
      ·rw [if_pos c6] at H
       have c6b0 : (a1 == (rd l0 x8_1)) = true:=beq_iff_eq.mpr c6
       have c6b1 : (a1 != (rd l0 x8_1)) = false:=bne_eq_false_iff_eq.mpr c6
       clear c6
       obtain rfl:=Option.some.inj H
       have p110 : 0 ≤ (x8_1 : Int):=of_decide_eq_true (by first | (with_reducible assumption) | assumption)
       have q110 : x8_1 < (l0.length : Int):=of_decide_eq_true (by first | (with_reducible assumption) | assumption)
       obtain ⟨ad110,e110,hx110_0⟩:=Kd.at_int HR0.out x8_1 p110 q110
       cases e110
       replace p110:=eq_true p110
       replace q110:=eq_true q110
       go_wp2
       go_ret
       exact ⟨by first | rfl | (simp;done) | (simp [*];done) | (simp [wrap64];done),by repeat (first | exact Drawn0.refl _ | apply Drawn0.step)⟩
      ·rw [if_neg c6] at H
       have c6b0 : (a1 == (rd l0 x8_1)) = false:=beq_eq_false_iff_ne.mpr c6
       have c6b1 : (a1 != (rd l0 x8_1)) = true:=bne_iff_ne.mpr c6
       have H':=aMx4 H
       clear H
       have p110 : 0 ≤ (x8_1 : Int):=of_decide_eq_true (by first | (with_reducible assumption) | assumption)
       have q110 : x8_1 < (l0.length : Int):=of_decide_eq_true (by first | (with_reducible assumption) | assumption)
       obtain ⟨ad110,e110,hx110_0⟩:=Kd.at_int HR0.out x8_1 p110 q110
       cases e110
       replace p110:=eq_true p110
       replace q110:=eq_true q110
       go_wp2
       go_roundg k1
       case measure => have:=HK1.out;omega
       case rel => exact ⟨(wrap64 (x8_1+1)),(by first | rfl | (simp;done) | (simp [*];done) | (simp [wrap64];done)),H',⟨by have:=HK1.out;omega⟩,by repeat (first | exact Drawn0.refl _ | apply Drawn0.step)⟩
     ·rw [if_neg c5] at H
      exact absurd H (by simp)
    ·rw [if_neg c4] at H
     exact absurd H (by simp)
   ·rw [if_neg c3] at H
    have c3b0 : decide (x8_1 < (l0.length : Int)) = false:=decide_eq_false c3
    clear c3
    obtain rfl:=Option.some.inj H
    go_wp2
    go_ret
    exact ⟨by first | rfl | (simp;done) | (simp [*];done) | (simp [wrap64];done),by repeat (first | exact Drawn0.refl _ | apply Drawn0.step)⟩
end Go.Proofs.YtomknjmgcbbjlaaDoor.PWlk
