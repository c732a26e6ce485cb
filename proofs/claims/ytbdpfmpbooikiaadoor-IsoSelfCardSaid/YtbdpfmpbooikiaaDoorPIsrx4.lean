import Derived.Test.YtbdpfmpbooikiaaDoorPIsrx0
import Derived.Test.YtbdpfmpbooikiaaDoorPIsrx3
namespace Go.Proofs.YtbdpfmpbooikiaaDoor.PIsr
open Go Go.RowKit Go.Proofs.YtbdpfmpbooikiaaDoorW.PrintWords Go.Proofs.YtbdpfmpbooikiaaDoorW.PrintLast Go.Proofs.YtbdpfmpbooikiaaDoorW.PrintMore
attribute [local go_sem] max2_int min2_int max_two min_two max_three min_three max_four min_four
set_option linter.unusedVariables false
set_option linter.unusedSimpArgs false
attribute [local go_sem] idx57_0_0 idx57_1_0 idx57_2_0 idx86_0_0 idx86_1_0
theorem bcx4 {w : World} {g : Nat} {cs : Array Value} {t : TypeId} {v : Value} (h : w.heap[g]? = some (.cells cs t (0, 0))) (i : Nat) (hv : cs[i]? = some v) : w.cell? ⟨g, i, none⟩ = some v := (blk_cell h i).trans hv
theorem aMx4 {p : Prop} (h : p) : Aside0 p := ⟨h⟩
mutual
def mesh_plain.l0 : Nat → List (S45) → Int → Int → List (S45) → List (S57) → Option (Bool)
  | 0, _, _, _, _, _ => none
  | k + 1, x10, x11, x12, x113000, x113001 => if x12 < x11 then (if 0 ≤ x12 then (if x12 < (x10.length : Int) then ((mesh_coord.f ((rd_T45 x10 x12).f0)).bind fun t115 => (if t115 = true then ((mesh_coord.f ((rd_T45 x10 x12).f1)).bind fun t116 => (if t116 = true then ((mesh_coord.f ((rd_T45 x10 x12).f2)).bind fun t117 => (if t117 = true then (mesh_plain.l0 k x10 x11 (wrap64 (x12 + 1)) x113000 x113001) else (some false))) else (some false))) else (some false))) else (none)) else (none)) else (mesh_plain.l1 k x113001 (x113001.length : Int) 0 x113000 x113001)
def mesh_plain.l1 : Nat → List (S57) → Int → Int → List (S45) → List (S57) → Option (Bool)
  | 0, _, _, _, _, _ => none
  | k + 1, x34, x35, x36, x113000, x113001 => if x36 < x35 then (if 0 ≤ x36 then (if x36 < (x34.length : Int) then (mesh_plain.l2 k x34 x35 x36 0 ((rd_T57 x34 x36).f0) ((rd_T57 x34 x36).f1) ((rd_T57 x34 x36).f2) x113000 x113001 ((rd_T57 x34 x36).f0) ((rd_T57 x34 x36).f1) ((rd_T57 x34 x36).f2)) else (none)) else (none)) else (some true)
def mesh_plain.l2 : Nat → List (S57) → Int → Int → Int → Int → Int → Int → List (S45) → List (S57) → Int → Int → Int → Option (Bool)
  | 0, _, _, _, _, _, _, _, _, _, _, _, _ => none
  | k + 1, x34, x35, x36, x41, x503, x504, x505, x113000, x113001, x120000, x120001, x120002 => if x41 < 3 then (if x41 = 0 then (if x503 < 0 then (some false) else (if x503 ≥ (x113000.length : Int) then (some false) else (if x503 = x120001 then (some false) else (mesh_plain.l2 k x34 x35 x36 (wrap64 (x41 + 1)) x503 x504 x505 x113000 x113001 x120000 x120001 x120002)))) else (if x41 = 1 then (if x504 < 0 then (some false) else (if x504 ≥ (x113000.length : Int) then (some false) else (if x504 = x120002 then (some false) else (mesh_plain.l2 k x34 x35 x36 (wrap64 (x41 + 1)) x503 x504 x505 x113000 x113001 x120000 x120001 x120002)))) else (if x41 = 2 then (if x505 < 0 then (some false) else (if x505 ≥ (x113000.length : Int) then (some false) else (if x505 = x120000 then (some false) else (mesh_plain.l2 k x34 x35 x36 (wrap64 (x41 + 1)) x503 x504 x505 x113000 x113001 x120000 x120001 x120002)))) else (none)))) else (mesh_plain.l1 k x34 x35 (wrap64 (x36 + 1)) x113000 x113001)
end
def mesh_plain.f (k : Nat) (l0_0 : List (S45)) (l0_1 : List (S57)) : Option (Bool) := mesh_plain.l0 k l0_0 (l0_0.length : Int) 0 l0_0 l0_1
set_option maxHeartbeats 8000000 in
set_option maxRecDepth 100000 in
theorem mesh_plain.calls (k : Nat) (A0_0 : Option Addr) (c0_0 : Nat) (l0_0 : List (S45)) (A0_1 : Option Addr) (c0_1 : Nat) (l0_1 : List (S57)) (r : Bool) (w : World) (hr0_0 : Kd.C k45 w A0_0 l0_0.length l0_0) (hc0_0 : l0_0.length ≤ c0_0) (hr0_1 : Kd.C k57 w A0_1 l0_1.length l0_1) (hc0_1 : l0_1.length ≤ c0_1) (h : mesh_plain.f k l0_0 l0_1 = some r) :
  Calls Tryd.prog 38 #[.agg #[.slice A0_0 l0_0.length c0_0,.slice A0_1 l0_1.length c0_1]] w fun e w' => e = .returned (.bool r) ∧ Below w.heap.size w w':=by
 have hu25:=Tryd.underlying25
 have hu45:=Tryd.underlying45
 have hu57:=Tryd.underlying57
 have HR0_0:=aMx4 hr0_0
 have HC0_0:=aMx4 hc0_0
 clear hr0_0 hc0_0
 have HR0_1:=aMx4 hr0_1
 have HC0_1:=aMx4 hc0_1
 clear hr0_1 hc0_1
 have HB:=aMx4 (Below.refl w.heap.size w)
 have H : (mesh_plain.l0 k l0_0 (l0_0.length : Int) 0 l0_0 l0_1) = some r:=h
 clear h
 have H':=aMx4 H
 clear H
 go_enter Tryd.func38,Tryd.ntmps38
 go_wp2_with (first|((with_reducible refine gate_dst (N:=1) rfl ?_);(try (refine gate_guard (by rfl) ?_;dsimp only));refine box_event ?hg (N:=1) ?hd (cs:=#[.slice A0_0 l0_0.length c0_0,.slice A0_1 l0_1.length c0_1]) (t:=25) ?hr ?_;(case hd => rfl);(case hg => rfl);(case hr => first|(go_simp;done)|(go_simp;rfl));intro gb112 hg w2 hbox hb;have n0_:=aMx4 (below_step (by repeat (with_reducible first|exact HB.out|apply below_alloc|apply pw_below_drewN|apply below_drew1)) hb);have n1_:=aMx4 (hbox);have n2_:=aMx4 ((by rw [hg];exact (below_size (by repeat (with_reducible first|exact HB.out|apply below_alloc|apply pw_below_drewN|apply below_drew1))) : w.heap.size ≤ gb112));have n3_:=aMx4 ((by rw [hg];exact (below_size (by repeat (with_reducible first|exact HB.out|apply below_alloc|apply pw_below_drewN|apply below_drew1))) : w.heap.size ≤ gb112));clear HB;have HB:=n0_;have BK112:=n1_;have GW112:=n2_;have GE112:=n3_;clear n0_ n1_ n2_ n3_;clear hb hbox hg;have hcz3_0:=bcx4 BK112.out 0 rfl;have hcz3_1:=bcx4 BK112.out 1 rfl;have hfz3_0:=blk_frozen BK112.out 0;have hfz3_1:=blk_frozen BK112.out 1))
 go_loopg [12] k (fun kq v12 w' => ∃ (x12_1 : Int),v12 = .int .i64 x12_1 ∧ Aside0 (mesh_plain.l0 kq l0_0 (l0_0.length : Int) x12_1 l0_0 l0_1 = some r) ∧ Aside0 (kq ≤ k) ∧ Aside0 (w'.heap[gb112]? = some (.cells #[(.slice A0_0 l0_0.length c0_0),(.slice A0_1 l0_1.length c0_1)] 25 (0,0))) ∧ Aside0 (Below w.heap.size w w'))
 case atStart => exact ⟨(0),(by first | rfl | (simp;done) | (simp [*];done) | (simp [wrap64];done)),H',⟨Nat.le_refl _⟩,⟨by (with_reducible repeat (first | refine blk_drewN ?_ _ | refine blk_drew ?_ | refine blk_alloc ?_ _));exact BK112.out⟩,⟨by repeat (first | (with_reducible first | exact HB.out | apply below_alloc | apply pw_below_drewN | apply below_drew1 | refine below_set ?_ GE112.out) | exact HB.out)⟩⟩
 case round =>
  clear H'
  (try clear p2);(try clear c3);(try clear hcz3_0);(try clear hcz3_1);(try clear hfz3_0);(try clear hfz3_1)
  obtain ⟨x12_1,rfl,HA,HK1,BK112,HB⟩:=hrel
  cases gk with
  | zero => exact absurd HA.out (by simp [mesh_plain.l0])
  | succ k1 =>
   have H:=HA.out
   clear HA
   simp only [mesh_plain.l0] at H
   by_cases c4 : x12_1 < (l0_0.length : Int)
   ·rw [if_pos c4] at H
    have c4b0 : decide (x12_1 < (l0_0.length : Int)) = true:=decide_eq_true c4
    clear c4
    by_cases c5 : 0 ≤ x12_1
    ·rw [if_pos c5] at H
     have c5b0 : decide (0 ≤ x12_1) = true:=decide_eq_true c5
     clear c5
     by_cases c6 : x12_1 < (l0_0.length : Int)
     ·rw [if_pos c6] at H
      have c6b0 : decide (x12_1 < (l0_0.length : Int)) = true:=decide_eq_true c6
      clear c6
      replace H:=Option.bind_eq_some_iff.mp H
      obtain ⟨t115,A70,H⟩:=H
      replace H : (if t115 = true then ((mesh_coord.f ((rd_T45 l0_0 x12_1).f1)).bind fun t116 => (if t116 = true then ((mesh_coord.f ((rd_T45 l0_0 x12_1).f2)).bind fun t117 => (if t117 = true then (mesh_plain.l0 k1 l0_0 (l0_0.length : Int) (wrap64 (x12_1+1)) l0_0 l0_1) else (some false))) else (some false))) else (some false)) = some r:=H
      have A7:=aMx4 A70
      clear A70
      by_cases c8 : t115 = true
      ·subst c8
       have H1 : ((mesh_coord.f ((rd_T45 l0_0 x12_1).f1)).bind fun t116 => (if t116 = true then ((mesh_coord.f ((rd_T45 l0_0 x12_1).f2)).bind fun t117 => (if t117 = true then (mesh_plain.l0 k1 l0_0 (l0_0.length : Int) (wrap64 (x12_1+1)) l0_0 l0_1) else (some false))) else (some false))) = some r:=by rw [if_pos rfl] at H;exact H
       clear H
       have H:=H1
       clear H1
       replace H:=Option.bind_eq_some_iff.mp H
       obtain ⟨t116,A90,H⟩:=H
       replace H : (if t116 = true then ((mesh_coord.f ((rd_T45 l0_0 x12_1).f2)).bind fun t117 => (if t117 = true then (mesh_plain.l0 k1 l0_0 (l0_0.length : Int) (wrap64 (x12_1+1)) l0_0 l0_1) else (some false))) else (some false)) = some r:=H
       have A9:=aMx4 A90
       clear A90
       by_cases c10 : t116 = true
       ·subst c10
        have H1 : ((mesh_coord.f ((rd_T45 l0_0 x12_1).f2)).bind fun t117 => (if t117 = true then (mesh_plain.l0 k1 l0_0 (l0_0.length : Int) (wrap64 (x12_1+1)) l0_0 l0_1) else (some false))) = some r:=by rw [if_pos rfl] at H;exact H
        clear H
        have H:=H1
        clear H1
        replace H:=Option.bind_eq_some_iff.mp H
        obtain ⟨t117,A110,H⟩:=H
        replace H : (if t117 = true then (mesh_plain.l0 k1 l0_0 (l0_0.length : Int) (wrap64 (x12_1+1)) l0_0 l0_1) else (some false)) = some r:=H
        have A11:=aMx4 A110
        clear A110
        by_cases c12 : t117 = true
        ·subst c12
         have H1 : (mesh_plain.l0 k1 l0_0 (l0_0.length : Int) (wrap64 (x12_1+1)) l0_0 l0_1) = some r:=by rw [if_pos rfl] at H;exact H
         clear H
         have H:=H1
         clear H1
         have H':=aMx4 H
         clear H
         have p113 : 0 ≤ (x12_1 : Int):=of_decide_eq_true (by first | (with_reducible assumption) | assumption)
         have q113 : x12_1 < (l0_0.length : Int):=of_decide_eq_true (by first | (with_reducible assumption) | assumption)
         obtain ⟨ad113,e113,hx113_0,hx113_1,hx113_2⟩:=at_T45 HR0_0.out x12_1 p113 q113
         cases e113
         replace hx113_0:=(HB.out.cell (World.block_lt_of_cell? w _ hx113_0)).trans hx113_0
         replace hx113_1:=(HB.out.cell (World.block_lt_of_cell? w _ hx113_1)).trans hx113_1
         replace hx113_2:=(HB.out.cell (World.block_lt_of_cell? w _ hx113_2)).trans hx113_2
         replace p113:=eq_true p113
         replace q113:=eq_true q113
         go_wp2_with (first|((with_reducible refine gate_dst (N:=4) rfl ?_);(try (refine gate_guard (by rfl) ?_;dsimp only));refine box_event ?hg (N:=4) ?hd (cs:=#[.int .i64 0,.int .i64 0,.int .i64 0]) (t:=45) ?hr ?_;(case hd => rfl);(case hg => rfl);(case hr => first|(go_simp;done)|(go_simp;rfl));intro gb114 hg w13 hbox hb;have n0_:=aMx4 (blk_below (g:=gb112) (o:=.cells #[.slice (some ad113) l0_0.length c0_0,.slice A0_1 l0_1.length c0_1] 25 (0,0)) (by (with_reducible repeat (first|refine blk_drewN ?_ _|refine blk_drew ?_|refine blk_alloc ?_ _));exact BK112.out) hb);have n1_:=aMx4 (below_step (by repeat (first|(with_reducible first|exact HB.out|apply below_alloc|apply pw_below_drewN|apply below_drew1|refine below_set ?_ GE112.out)|exact HB.out)) hb);have n2_:=aMx4 (hbox);have n3_:=aMx4 ((by rw [hg];exact (below_size (by repeat (first|(with_reducible first|exact HB.out|apply below_alloc|apply pw_below_drewN|apply below_drew1|refine below_set ?_ GE112.out)|exact HB.out))) : w.heap.size ≤ gb114));have n4_:=aMx4 ((by rw [hg];exact (below_size (by repeat (first|(with_reducible first|exact HB.out|apply below_alloc|apply pw_below_drewN|apply below_drew1|refine below_set ?_ GE112.out)|exact HB.out))) : w.heap.size ≤ gb114));have n5_:=aMx4 ((by rw [hg];exact Nat.ne_of_lt (blk_lt (g:=gb112) (o:=.cells #[.slice (some ad113) l0_0.length c0_0,.slice A0_1 l0_1.length c0_1] 25 (0,0)) (by (with_reducible repeat (first|refine blk_drewN ?_ _|refine blk_drew ?_|refine blk_alloc ?_ _));exact BK112.out)) : gb112 ≠ gb114));have n6_:=aMx4 ((by rw [hg];exact Nat.ne_of_gt (blk_lt (g:=gb112) (o:=.cells #[.slice (some ad113) l0_0.length c0_0,.slice A0_1 l0_1.length c0_1] 25 (0,0)) (by (with_reducible repeat (first|refine blk_drewN ?_ _|refine blk_drew ?_|refine blk_alloc ?_ _));exact BK112.out)) : gb114 ≠ gb112));clear BK112;clear HB;have BK112:=n0_;have HB:=n1_;have BK114:=n2_;have GW114:=n3_;have GE114:=n4_;have NB112_114:=n5_;have NB114_112:=n6_;clear n0_ n1_ n2_ n3_ n4_ n5_ n6_;clear hb hbox hg;have hnb14:=NB114_112.out;have hnc14:=NB112_114.out;have hcz15_0:=bcx4 BK114.out 0 rfl;have hcz15_1:=bcx4 BK114.out 1 rfl;have hcz15_2:=bcx4 BK114.out 2 rfl;have hfz15_0:=blk_frozen BK114.out 0;have hfz15_1:=blk_frozen BK114.out 1;have hfz15_2:=blk_frozen BK114.out 2)|((with_reducible refine gate_callee (f:=49) rfl ?_);refine goesL_ (some 18) rfl rfl Tryd.func49 (by kernel_rfl) rfl #[.int .i64 ((rd_T45 l0_0 x12_1).f0)] rfl (by (try simp only [List.map_toArray,List.map_cons,List.map_nil]);first|done|rfl|(simp only [List.length_drop,List.length_take];rfl)) ?_;(with_reducible refine (mesh_coord.calls ((rd_T45 l0_0 x12_1).f0) true _ A7.out).mono ?_);rintro e w' ⟨rfl,⟨nd,rfl⟩⟩;refine ⟨_,rfl,?_⟩)|(go_at_call 49;(with_reducible refine (mesh_coord.calls ((rd_T45 l0_0 x12_1).f1) true _ A9.out).mono ?_);rintro e w' ⟨rfl,⟨nd,rfl⟩⟩)|(go_at_call 49;(with_reducible refine (mesh_coord.calls ((rd_T45 l0_0 x12_1).f2) true _ A11.out).mono ?_);rintro e w' ⟨rfl,⟨nd,rfl⟩⟩))
         go_roundg k1
         case measure => have:=HK1.out;omega
         case rel => exact ⟨(wrap64 (x12_1+1)),(by first | rfl | (simp;done) | (simp [*];done) | (simp [wrap64];done)),H',⟨by have:=HK1.out;omega⟩,⟨by (with_reducible repeat (first | refine blk_drewN ?_ _ | refine blk_drew ?_ | refine blk_alloc ?_ _));refine blk_far ?_ NB112_114.out _;(with_reducible repeat (first | refine blk_drewN ?_ _ | refine blk_drew ?_ | refine blk_alloc ?_ _));refine blk_far ?_ NB112_114.out _;(with_reducible repeat (first | refine blk_drewN ?_ _ | refine blk_drew ?_ | refine blk_alloc ?_ _));refine blk_far ?_ NB112_114.out _;(with_reducible repeat (first | refine blk_drewN ?_ _ | refine blk_drew ?_ | refine blk_alloc ?_ _));exact BK112.out⟩,⟨by repeat (first | (with_reducible first | exact HB.out | apply below_alloc | apply pw_below_drewN | apply below_drew1 | refine below_set ?_ GE112.out | refine below_set ?_ GE114.out) | exact HB.out)⟩⟩
        ·replace c12:=Bool.eq_false_iff.mpr c12
         subst c12
         have H1 : (some false) = some r:=by rw [if_neg (show ¬ (false = true) by decide)] at H;exact H
         clear H
         have H:=H1
         clear H1
         obtain rfl:=Option.some.inj H
         have p113 : 0 ≤ (x12_1 : Int):=of_decide_eq_true (by first | (with_reducible assumption) | assumption)
         have q113 : x12_1 < (l0_0.length : Int):=of_decide_eq_true (by first | (with_reducible assumption) | assumption)
         obtain ⟨ad113,e113,hx113_0,hx113_1,hx113_2⟩:=at_T45 HR0_0.out x12_1 p113 q113
         cases e113
         replace hx113_0:=(HB.out.cell (World.block_lt_of_cell? w _ hx113_0)).trans hx113_0
         replace hx113_1:=(HB.out.cell (World.block_lt_of_cell? w _ hx113_1)).trans hx113_1
         replace hx113_2:=(HB.out.cell (World.block_lt_of_cell? w _ hx113_2)).trans hx113_2
         replace p113:=eq_true p113
         replace q113:=eq_true q113
         go_wp2_with (first|((with_reducible refine gate_dst (N:=4) rfl ?_);(try (refine gate_guard (by rfl) ?_;dsimp only));refine box_event ?hg (N:=4) ?hd (cs:=#[.int .i64 0,.int .i64 0,.int .i64 0]) (t:=45) ?hr ?_;(case hd => rfl);(case hg => rfl);(case hr => first|(go_simp;done)|(go_simp;rfl));intro gb114 hg w16 hbox hb;have n0_:=aMx4 (blk_below (g:=gb112) (o:=.cells #[.slice (some ad113) l0_0.length c0_0,.slice A0_1 l0_1.length c0_1] 25 (0,0)) (by (with_reducible repeat (first|refine blk_drewN ?_ _|refine blk_drew ?_|refine blk_alloc ?_ _));exact BK112.out) hb);have n1_:=aMx4 (below_step (by repeat (first|(with_reducible first|exact HB.out|apply below_alloc|apply pw_below_drewN|apply below_drew1|refine below_set ?_ GE112.out)|exact HB.out)) hb);have n2_:=aMx4 (hbox);have n3_:=aMx4 ((by rw [hg];exact (below_size (by repeat (first|(with_reducible first|exact HB.out|apply below_alloc|apply pw_below_drewN|apply below_drew1|refine below_set ?_ GE112.out)|exact HB.out))) : w.heap.size ≤ gb114));have n4_:=aMx4 ((by rw [hg];exact (below_size (by repeat (first|(with_reducible first|exact HB.out|apply below_alloc|apply pw_below_drewN|apply below_drew1|refine below_set ?_ GE112.out)|exact HB.out))) : w.heap.size ≤ gb114));have n5_:=aMx4 ((by rw [hg];exact Nat.ne_of_lt (blk_lt (g:=gb112) (o:=.cells #[.slice (some ad113) l0_0.length c0_0,.slice A0_1 l0_1.length c0_1] 25 (0,0)) (by (with_reducible repeat (first|refine blk_drewN ?_ _|refine blk_drew ?_|refine blk_alloc ?_ _));exact BK112.out)) : gb112 ≠ gb114));have n6_:=aMx4 ((by rw [hg];exact Nat.ne_of_gt (blk_lt (g:=gb112) (o:=.cells #[.slice (some ad113) l0_0.length c0_0,.slice A0_1 l0_1.length c0_1] 25 (0,0)) (by (with_reducible repeat (first|refine blk_drewN ?_ _|refine blk_drew ?_|refine blk_alloc ?_ _));exact BK112.out)) : gb114 ≠ gb112));clear BK112;clear HB;have BK112:=n0_;have HB:=n1_;have BK114:=n2_;have GW114:=n3_;have GE114:=n4_;have NB112_114:=n5_;have NB114_112:=n6_;clear n0_ n1_ n2_ n3_ n4_ n5_ n6_;clear hb hbox hg;have hnb17:=NB114_112.out;have hnc17:=NB112_114.out;have hcz18_0:=bcx4 BK114.out 0 rfl;have hcz18_1:=bcx4 BK114.out 1 rfl;have hcz18_2:=bcx4 BK114.out 2 rfl;have hfz18_0:=blk_frozen BK114.out 0;have hfz18_1:=blk_frozen BK114.out 1;have hfz18_2:=blk_frozen BK114.out 2)|((with_reducible refine gate_callee (f:=49) rfl ?_);refine goesL_ (some 18) rfl rfl Tryd.func49 (by kernel_rfl) rfl #[.int .i64 ((rd_T45 l0_0 x12_1).f0)] rfl (by (try simp only [List.map_toArray,List.map_cons,List.map_nil]);first|done|rfl|(simp only [List.length_drop,List.length_take];rfl)) ?_;(with_reducible refine (mesh_coord.calls ((rd_T45 l0_0 x12_1).f0) true _ A7.out).mono ?_);rintro e w' ⟨rfl,⟨nd,rfl⟩⟩;refine ⟨_,rfl,?_⟩)|(go_at_call 49;(with_reducible refine (mesh_coord.calls ((rd_T45 l0_0 x12_1).f1) true _ A9.out).mono ?_);rintro e w' ⟨rfl,⟨nd,rfl⟩⟩)|(go_at_call 49;(with_reducible refine (mesh_coord.calls ((rd_T45 l0_0 x12_1).f2) false _ A11.out).mono ?_);rintro e w' ⟨rfl,⟨nd,rfl⟩⟩))
         go_ret
         exact ⟨by first | rfl | (simp [errW_none,errW_some]<;>rfl) | (simp [*,errW_none,errW_some]<;>rfl),by repeat (first | (with_reducible first | exact HB.out | apply below_alloc | apply pw_below_drewN | apply below_drew1 | refine below_set ?_ GE112.out | refine below_set ?_ GE114.out) | exact HB.out)⟩
       ·replace c10:=Bool.eq_false_iff.mpr c10
        subst c10
        have H1 : (some false) = some r:=by rw [if_neg (show ¬ (false = true) by decide)] at H;exact H
        clear H
        have H:=H1
        clear H1
        obtain rfl:=Option.some.inj H
        have p113 : 0 ≤ (x12_1 : Int):=of_decide_eq_true (by first | (with_reducible assumption) | assumption)
        have q113 : x12_1 < (l0_0.length : Int):=of_decide_eq_true (by first | (with_reducible assumption) | assumption)
        obtain ⟨ad113,e113,hx113_0,hx113_1,hx113_2⟩:=at_T45 HR0_0.out x12_1 p113 q113
        cases e113
        replace hx113_0:=(HB.out.cell (World.block_lt_of_cell? w _ hx113_0)).trans hx113_0
        replace hx113_1:=(HB.out.cell (World.block_lt_of_cell? w _ hx113_1)).trans hx113_1
        replace hx113_2:=(HB.out.cell (World.block_lt_of_cell? w _ hx113_2)).trans hx113_2
        replace p113:=eq_true p113
        replace q113:=eq_true q113
        go_wp2_with (first|((with_reducible refine gate_dst (N:=4) rfl ?_);(try (refine gate_guard (by rfl) ?_;dsimp only));refine box_event ?hg (N:=4) ?hd (cs:=#[.int .i64 0,.int .i64 0,.int .i64 0]) (t:=45) ?hr ?_;(case hd => rfl);(case hg => rfl);(case hr => first|(go_simp;done)|(go_simp;rfl));intro gb114 hg w19 hbox hb;have n0_:=aMx4 (blk_below (g:=gb112) (o:=.cells #[.slice (some ad113) l0_0.length c0_0,.slice A0_1 l0_1.length c0_1] 25 (0,0)) (by (with_reducible repeat (first|refine blk_drewN ?_ _|refine blk_drew ?_|refine blk_alloc ?_ _));exact BK112.out) hb);have n1_:=aMx4 (below_step (by repeat (first|(with_reducible first|exact HB.out|apply below_alloc|apply pw_below_drewN|apply below_drew1|refine below_set ?_ GE112.out)|exact HB.out)) hb);have n2_:=aMx4 (hbox);have n3_:=aMx4 ((by rw [hg];exact (below_size (by repeat (first|(with_reducible first|exact HB.out|apply below_alloc|apply pw_below_drewN|apply below_drew1|refine below_set ?_ GE112.out)|exact HB.out))) : w.heap.size ≤ gb114));have n4_:=aMx4 ((by rw [hg];exact (below_size (by repeat (first|(with_reducible first|exact HB.out|apply below_alloc|apply pw_below_drewN|apply below_drew1|refine below_set ?_ GE112.out)|exact HB.out))) : w.heap.size ≤ gb114));have n5_:=aMx4 ((by rw [hg];exact Nat.ne_of_lt (blk_lt (g:=gb112) (o:=.cells #[.slice (some ad113) l0_0.length c0_0,.slice A0_1 l0_1.length c0_1] 25 (0,0)) (by (with_reducible repeat (first|refine blk_drewN ?_ _|refine blk_drew ?_|refine blk_alloc ?_ _));exact BK112.out)) : gb112 ≠ gb114));have n6_:=aMx4 ((by rw [hg];exact Nat.ne_of_gt (blk_lt (g:=gb112) (o:=.cells #[.slice (some ad113) l0_0.length c0_0,.slice A0_1 l0_1.length c0_1] 25 (0,0)) (by (with_reducible repeat (first|refine blk_drewN ?_ _|refine blk_drew ?_|refine blk_alloc ?_ _));exact BK112.out)) : gb114 ≠ gb112));clear BK112;clear HB;have BK112:=n0_;have HB:=n1_;have BK114:=n2_;have GW114:=n3_;have GE114:=n4_;have NB112_114:=n5_;have NB114_112:=n6_;clear n0_ n1_ n2_ n3_ n4_ n5_ n6_;clear hb hbox hg;have hnb20:=NB114_112.out;have hnc20:=NB112_114.out;have hcz21_0:=bcx4 BK114.out 0 rfl;have hcz21_1:=bcx4 BK114.out 1 rfl;have hcz21_2:=bcx4 BK114.out 2 rfl;have hfz21_0:=blk_frozen BK114.out 0;have hfz21_1:=blk_frozen BK114.out 1;have hfz21_2:=blk_frozen BK114.out 2)|((with_reducible refine gate_callee (f:=49) rfl ?_);refine goesL_ (some 18) rfl rfl Tryd.func49 (by kernel_rfl) rfl #[.int .i64 ((rd_T45 l0_0 x12_1).f0)] rfl (by (try simp only [List.map_toArray,List.map_cons,List.map_nil]);first|done|rfl|(simp only [List.length_drop,List.length_take];rfl)) ?_;(with_reducible refine (mesh_coord.calls ((rd_T45 l0_0 x12_1).f0) true _ A7.out).mono ?_);rintro e w' ⟨rfl,⟨nd,rfl⟩⟩;refine ⟨_,rfl,?_⟩)|(go_at_call 49;(with_reducible refine (mesh_coord.calls ((rd_T45 l0_0 x12_1).f1) false _ A9.out).mono ?_);rintro e w' ⟨rfl,⟨nd,rfl⟩⟩))
        go_ret
        exact ⟨by first | rfl | (simp [errW_none,errW_some]<;>rfl) | (simp [*,errW_none,errW_some]<;>rfl),by repeat (first | (with_reducible first | exact HB.out | apply below_alloc | apply pw_below_drewN | apply below_drew1 | refine below_set ?_ GE112.out | refine below_set ?_ GE114.out) | exact HB.out)⟩
      ·replace c8:=Bool.eq_false_iff.mpr c8
       subst c8
       have H1 : (some false) = some r:=by rw [if_neg (show ¬ (false = true) by decide)] at H;exact H
       clear H
       have H:=H1
       clear H1
       obtain rfl:=Option.some.inj H
       have p113 : 0 ≤ (x12_1 : Int):=of_decide_eq_true (by first | (with_reducible assumption) | assumption)
       have q113 : x12_1 < (l0_0.length : Int):=of_decide_eq_true (by first | (with_reducible assumption) | assumption)
       obtain ⟨ad113,e113,hx113_0,hx113_1,hx113_2⟩:=at_T45 HR0_0.out x12_1 p113 q113
       cases e113
       replace hx113_0:=(HB.out.cell (World.block_lt_of_cell? w _ hx113_0)).trans hx113_0
       replace hx113_1:=(HB.out.cell (World.block_lt_of_cell? w _ hx113_1)).trans hx113_1
       replace hx113_2:=(HB.out.cell (World.block_lt_of_cell? w _ hx113_2)).trans hx113_2
       replace p113:=eq_true p113
       replace q113:=eq_true q113
       go_wp2_with (first|((with_reducible refine gate_dst (N:=4) rfl ?_);(try (refine gate_guard (by rfl) ?_;dsimp only));refine box_event ?hg (N:=4) ?hd (cs:=#[.int .i64 0,.int .i64 0,.int .i64 0]) (t:=45) ?hr ?_;(case hd => rfl);(case hg => rfl);(case hr => first|(go_simp;done)|(go_simp;rfl));intro gb114 hg w22 hbox hb;have n0_:=aMx4 (blk_below (g:=gb112) (o:=.cells #[.slice (some ad113) l0_0.length c0_0,.slice A0_1 l0_1.length c0_1] 25 (0,0)) (by (with_reducible repeat (first|refine blk_drewN ?_ _|refine blk_drew ?_|refine blk_alloc ?_ _));exact BK112.out) hb);have n1_:=aMx4 (below_step (by repeat (first|(with_reducible first|exact HB.out|apply below_alloc|apply pw_below_drewN|apply below_drew1|refine below_set ?_ GE112.out)|exact HB.out)) hb);have n2_:=aMx4 (hbox);have n3_:=aMx4 ((by rw [hg];exact (below_size (by repeat (first|(with_reducible first|exact HB.out|apply below_alloc|apply pw_below_drewN|apply below_drew1|refine below_set ?_ GE112.out)|exact HB.out))) : w.heap.size ≤ gb114));have n4_:=aMx4 ((by rw [hg];exact (below_size (by repeat (first|(with_reducible first|exact HB.out|apply below_alloc|apply pw_below_drewN|apply below_drew1|refine below_set ?_ GE112.out)|exact HB.out))) : w.heap.size ≤ gb114));have n5_:=aMx4 ((by rw [hg];exact Nat.ne_of_lt (blk_lt (g:=gb112) (o:=.cells #[.slice (some ad113) l0_0.length c0_0,.slice A0_1 l0_1.length c0_1] 25 (0,0)) (by (with_reducible repeat (first|refine blk_drewN ?_ _|refine blk_drew ?_|refine blk_alloc ?_ _));exact BK112.out)) : gb112 ≠ gb114));have n6_:=aMx4 ((by rw [hg];exact Nat.ne_of_gt (blk_lt (g:=gb112) (o:=.cells #[.slice (some ad113) l0_0.length c0_0,.slice A0_1 l0_1.length c0_1] 25 (0,0)) (by (with_reducible repeat (first|refine blk_drewN ?_ _|refine blk_drew ?_|refine blk_alloc ?_ _));exact BK112.out)) : gb114 ≠ gb112));clear BK112;clear HB;have BK112:=n0_;have HB:=n1_;have BK114:=n2_;have GW114:=n3_;have GE114:=n4_;have NB112_114:=n5_;have NB114_112:=n6_;clear n0_ n1_ n2_ n3_ n4_ n5_ n6_;clear hb hbox hg;have hnb23:=NB114_112.out;have hnc23:=NB112_114.out;have hcz24_0:=bcx4 BK114.out 0 rfl;have hcz24_1:=bcx4 BK114.out 1 rfl;have hcz24_2:=bcx4 BK114.out 2 rfl;have hfz24_0:=blk_frozen BK114.out 0;have hfz24_1:=blk_frozen BK114.out 1;have hfz24_2:=blk_frozen BK114.out 2)|((with_reducible refine gate_callee (f:=49) rfl ?_);refine goesL_ (some 18) rfl rfl Tryd.func49 (by kernel_rfl) rfl #[.int .i64 ((rd_T45 l0_0 x12_1).f0)] rfl (by (try simp only [List.map_toArray,List.map_cons,List.map_nil]);first|done|rfl|(simp only [List.length_drop,List.length_take];rfl)) ?_;(with_reducible refine (mesh_coord.calls ((rd_T45 l0_0 x12_1).f0) false _ A7.out).mono ?_);rintro e w' ⟨rfl,⟨nd,rfl⟩⟩;refine ⟨_,rfl,?_⟩))
       go_ret
       exact ⟨by first | rfl | (simp [errW_none,errW_some]<;>rfl) | (simp [*,errW_none,errW_some]<;>rfl),by repeat (first | (with_reducible first | exact HB.out | apply below_alloc | apply pw_below_drewN | apply below_drew1 | refine below_set ?_ GE112.out | refine below_set ?_ GE114.out) | exact HB.out)⟩
     ·rw [if_neg c6] at H
      exact absurd H (by simp)
    ·rw [if_neg c5] at H
     exact absurd H (by simp)
   ·rw [if_neg c4] at H
    have c4b0 : decide (x12_1 < (l0_0.length : Int)) = false:=decide_eq_false c4
    clear c4
    have H':=aMx4 H
    clear H
    have hcz25_0:=bcx4 BK112.out 0 rfl
    have hcz25_1:=bcx4 BK112.out 1 rfl
    go_wp2
    go_loopg [36] k1 (fun kq v36 w' => ∃ (x36_2 : Int),v36 = .int .i64 x36_2 ∧ Aside0 (mesh_plain.l1 kq l0_1 (l0_1.length : Int) x36_2 l0_0 l0_1 = some r) ∧ Aside0 (kq ≤ k1) ∧ Aside0 (w'.heap[gb112]? = some (.cells #[(.slice A0_0 l0_0.length c0_0),(.slice A0_1 l0_1.length c0_1)] 25 (0,0))) ∧ Aside0 (Below w.heap.size w w'))
    case atStart => exact ⟨(0),(by first | rfl | (simp;done) | (simp [*];done) | (simp [wrap64];done)),H',⟨Nat.le_refl _⟩,⟨by (with_reducible repeat (first | refine blk_drewN ?_ _ | refine blk_drew ?_ | refine blk_alloc ?_ _));exact BK112.out⟩,⟨by repeat (first | (with_reducible first | exact HB.out | apply below_alloc | apply pw_below_drewN | apply below_drew1 | refine below_set ?_ GE112.out) | exact HB.out)⟩⟩
    case round =>
     clear H'
     (try clear c1);(try clear p1);(try clear q1);(try clear hx1);(try clear c2);(try clear p2);(try clear c3);(try clear c4);(try clear c4b0);(try clear c5);(try clear c5b0);(try clear c6);(try clear c6b0);(try clear p6);(try clear c8);(try clear c10);(try clear p11);(try clear q11);(try clear hx11);(try clear c12);(try clear c14);(try clear c17);(try clear c20);(try clear c23);(try clear hcz15_0);(try clear hcz15_1);(try clear hcz15_2);(try clear hcz18_0);(try clear hcz18_1);(try clear hcz18_2);(try clear hcz21_0);(try clear hcz21_1);(try clear hcz21_2);(try clear hcz24_0);(try clear hcz24_1);(try clear hcz24_2);(try clear hcz25_0);(try clear hcz25_1);(try clear hcz3_0);(try clear hcz3_1);(try clear hfz15_0);(try clear hfz15_1);(try clear hfz15_2);(try clear hfz18_0);(try clear hfz18_1);(try clear hfz18_2);(try clear hfz21_0);(try clear hfz21_1);(try clear hfz21_2);(try clear hfz24_0);(try clear hfz24_1);(try clear hfz24_2);(try clear hfz25_0);(try clear hfz25_1);(try clear hfz3_0);(try clear hfz3_1);(try clear hx113_0);(try clear hx113_1);(try clear hx113_2);(try clear p113);(try clear p2);(try clear q113)
     obtain ⟨x36_2,rfl,HA,HK2,BK112,HB⟩:=hrel
     cases gk with
     | zero => exact absurd HA.out (by simp [mesh_plain.l1])
     | succ k2 =>
      have H:=HA.out
      clear HA
      simp only [mesh_plain.l1] at H
      by_cases c26 : x36_2 < (l0_1.length : Int)
      ·rw [if_pos c26] at H
       have c26b0 : decide (x36_2 < (l0_1.length : Int)) = true:=decide_eq_true c26
       clear c26
       by_cases c27 : 0 ≤ x36_2
       ·rw [if_pos c27] at H
        have c27b0 : decide (0 ≤ x36_2) = true:=decide_eq_true c27
        clear c27
        by_cases c28 : x36_2 < (l0_1.length : Int)
        ·rw [if_pos c28] at H
         have c28b0 : decide (x36_2 < (l0_1.length : Int)) = true:=decide_eq_true c28
         clear c28
         have H':=aMx4 H
         clear H
         have p118 : 0 ≤ (x36_2 : Int):=of_decide_eq_true (by first | (with_reducible assumption) | assumption)
         have q118 : x36_2 < (l0_1.length : Int):=of_decide_eq_true (by first | (with_reducible assumption) | assumption)
         obtain ⟨ad118,e118,hx118_0,hx118_1,hx118_2⟩:=at_T57 HR0_1.out x36_2 p118 q118
         cases e118
         replace hx118_0:=(HB.out.cell (World.block_lt_of_cell? w _ hx118_0)).trans hx118_0
         replace hx118_1:=(HB.out.cell (World.block_lt_of_cell? w _ hx118_1)).trans hx118_1
         replace hx118_2:=(HB.out.cell (World.block_lt_of_cell? w _ hx118_2)).trans hx118_2
         replace p118:=eq_true p118
         replace q118:=eq_true q118
         go_wp2_with (first|((with_reducible refine gate_dst (N:=6) rfl ?_);(try (refine gate_guard (by rfl) ?_;dsimp only));refine box_event ?hg (N:=6) ?hd (cs:=#[.int .i64 0,.int .i64 0,.int .i64 0]) (t:=57) ?hr ?_;(case hd => rfl);(case hg => rfl);(case hr => first|(go_simp;done)|(go_simp;rfl));intro gb119 hg w29 hbox hb;have n0_:=aMx4 (blk_below (g:=gb112) (o:=.cells #[.slice A0_0 l0_0.length c0_0,.slice (some ad118) l0_1.length c0_1] 25 (0,0)) (by (with_reducible repeat (first|refine blk_drewN ?_ _|refine blk_drew ?_|refine blk_alloc ?_ _));exact BK112.out) hb);have n1_:=aMx4 (below_step (by repeat (first|(with_reducible first|exact HB.out|apply below_alloc|apply pw_below_drewN|apply below_drew1|refine below_set ?_ GE112.out)|exact HB.out)) hb);have n2_:=aMx4 (hbox);have n3_:=aMx4 ((by rw [hg];exact (below_size (by repeat (first|(with_reducible first|exact HB.out|apply below_alloc|apply pw_below_drewN|apply below_drew1|refine below_set ?_ GE112.out)|exact HB.out))) : w.heap.size ≤ gb119));have n4_:=aMx4 ((by rw [hg];exact (below_size (by repeat (first|(with_reducible first|exact HB.out|apply below_alloc|apply pw_below_drewN|apply below_drew1|refine below_set ?_ GE112.out)|exact HB.out))) : w.heap.size ≤ gb119));have n5_:=aMx4 ((by rw [hg];exact Nat.ne_of_lt (blk_lt (g:=gb112) (o:=.cells #[.slice A0_0 l0_0.length c0_0,.slice (some ad118) l0_1.length c0_1] 25 (0,0)) (by (with_reducible repeat (first|refine blk_drewN ?_ _|refine blk_drew ?_|refine blk_alloc ?_ _));exact BK112.out)) : gb112 ≠ gb119));have n6_:=aMx4 ((by rw [hg];exact Nat.ne_of_gt (blk_lt (g:=gb112) (o:=.cells #[.slice A0_0 l0_0.length c0_0,.slice (some ad118) l0_1.length c0_1] 25 (0,0)) (by (with_reducible repeat (first|refine blk_drewN ?_ _|refine blk_drew ?_|refine blk_alloc ?_ _));exact BK112.out)) : gb119 ≠ gb112));clear BK112;clear HB;have BK112:=n0_;have HB:=n1_;have BK119:=n2_;have GW119:=n3_;have GE119:=n4_;have NB112_119:=n5_;have NB119_112:=n6_;clear n0_ n1_ n2_ n3_ n4_ n5_ n6_;clear hb hbox hg;have hnb30:=NB119_112.out;have hnc30:=NB112_119.out;have hcz31_0:=bcx4 BK119.out 0 rfl;have hcz31_1:=bcx4 BK119.out 1 rfl;have hcz31_2:=bcx4 BK119.out 2 rfl;have hfz31_0:=blk_frozen BK119.out 0;have hfz31_1:=blk_frozen BK119.out 1;have hfz31_2:=blk_frozen BK119.out 2))
         go_loopg [41] k2 (fun kq v41 w' => ∃ (x41_3 : Int),v41 = .int .i64 x41_3 ∧ Aside0 (mesh_plain.l2 kq l0_1 (l0_1.length : Int) x36_2 x41_3 ((rd_T57 l0_1 x36_2).f0) ((rd_T57 l0_1 x36_2).f1) ((rd_T57 l0_1 x36_2).f2) l0_0 l0_1 ((rd_T57 l0_1 x36_2).f0) ((rd_T57 l0_1 x36_2).f1) ((rd_T57 l0_1 x36_2).f2) = some r) ∧ Aside0 (kq ≤ k2) ∧ Aside0 (w'.heap[gb112]? = some (.cells #[(.slice A0_0 l0_0.length c0_0),(.slice (some ad118) l0_1.length c0_1)] 25 (0,0))) ∧ Aside0 (w'.heap[gb119]? = some (.cells #[.int .i64 ((rd_T57 l0_1 x36_2).f0),.int .i64 ((rd_T57 l0_1 x36_2).f1),.int .i64 ((rd_T57 l0_1 x36_2).f2)] 57 (0,0))) ∧ Aside0 (Below w.heap.size w w'))
         case atStart => exact ⟨(0),(by first | rfl | (simp;done) | (simp [*];done) | (simp [wrap64];done)),H',⟨Nat.le_refl _⟩,⟨by (with_reducible repeat (first | refine blk_drewN ?_ _ | refine blk_drew ?_ | refine blk_alloc ?_ _));refine blk_far ?_ NB112_119.out _;(with_reducible repeat (first | refine blk_drewN ?_ _ | refine blk_drew ?_ | refine blk_alloc ?_ _));refine blk_far ?_ NB112_119.out _;(with_reducible repeat (first | refine blk_drewN ?_ _ | refine blk_drew ?_ | refine blk_alloc ?_ _));refine blk_far ?_ NB112_119.out _;(with_reducible repeat (first | refine blk_drewN ?_ _ | refine blk_drew ?_ | refine blk_alloc ?_ _));exact BK112.out⟩,⟨by (with_reducible repeat (first | refine blk_drewN ?_ _ | refine blk_drew ?_ | refine blk_alloc ?_ _));refine blk_put (cs:=#[.int .i64 ((rd_T57 l0_1 x36_2).f0),.int .i64 ((rd_T57 l0_1 x36_2).f1),.int .i64 0]) ?_ 2 _ rfl;(with_reducible repeat (first | refine blk_drewN ?_ _ | refine blk_drew ?_ | refine blk_alloc ?_ _));refine blk_put (cs:=#[.int .i64 ((rd_T57 l0_1 x36_2).f0),.int .i64 0,.int .i64 0]) ?_ 1 _ rfl;(with_reducible repeat (first | refine blk_drewN ?_ _ | refine blk_drew ?_ | refine blk_alloc ?_ _));refine blk_put (cs:=#[.int .i64 0,.int .i64 0,.int .i64 0]) ?_ 0 _ rfl;(with_reducible repeat (first | refine blk_drewN ?_ _ | refine blk_drew ?_ | refine blk_alloc ?_ _));exact BK119.out⟩,⟨by repeat (first | (with_reducible first | exact HB.out | apply below_alloc | apply pw_below_drewN | apply below_drew1 | refine below_set ?_ GE112.out | refine below_set ?_ GE119.out) | exact HB.out)⟩⟩
         case round =>
          clear H'
          (try clear c1);(try clear p1);(try clear q1);(try clear hx1);(try clear c2);(try clear p2);(try clear c3);(try clear c4);(try clear c4b0);(try clear c5);(try clear c5b0);(try clear c6);(try clear c6b0);(try clear p6);(try clear c8);(try clear c10);(try clear p11);(try clear q11);(try clear hx11);(try clear c12);(try clear c14);(try clear c17);(try clear c20);(try clear c23);(try clear c26);(try clear c26b0);(try clear c27);(try clear c27b0);(try clear c28);(try clear c28b0);(try clear c30);(try clear hcz15_0);(try clear hcz15_1);(try clear hcz15_2);(try clear hcz18_0);(try clear hcz18_1);(try clear hcz18_2);(try clear hcz21_0);(try clear hcz21_1);(try clear hcz21_2);(try clear hcz24_0);(try clear hcz24_1);(try clear hcz24_2);(try clear hcz25_0);(try clear hcz25_1);(try clear hcz31_0);(try clear hcz31_1);(try clear hcz31_2);(try clear hcz3_0);(try clear hcz3_1);(try clear hfz15_0);(try clear hfz15_1);(try clear hfz15_2);(try clear hfz18_0);(try clear hfz18_1);(try clear hfz18_2);(try clear hfz21_0);(try clear hfz21_1);(try clear hfz21_2);(try clear hfz24_0);(try clear hfz24_1);(try clear hfz24_2);(try clear hfz25_0);(try clear hfz25_1);(try clear hfz31_0);(try clear hfz31_1);(try clear hfz31_2);(try clear hfz3_0);(try clear hfz3_1);(try clear hx113_0);(try clear hx113_1);(try clear hx113_2);(try clear hx118_0);(try clear hx118_1);(try clear hx118_2);(try clear p1);(try clear p11);(try clear p113);(try clear p118);(try clear p2);(try clear p6);(try clear q1);(try clear q11);(try clear q113);(try clear q118)
          obtain ⟨x41_3,rfl,HA,HK3,BK112,BK119,HB⟩:=hrel
          cases gk with
          | zero => exact absurd HA.out (by simp [mesh_plain.l2])
          | succ k3 =>
           have H:=HA.out
           clear HA
           simp only [mesh_plain.l2] at H
           by_cases c32 : x41_3 < 3
           ·rw [if_pos c32] at H
            have c32b0 : decide (x41_3 < 3) = true:=decide_eq_true c32
            clear c32
            by_cases c33 : x41_3 = 0
            ·rw [if_pos c33] at H
             subst c33
             by_cases c34 : ((rd_T57 l0_1 x36_2).f0) < 0
             ·rw [if_pos c34] at H
              have c34b0 : decide (((rd_T57 l0_1 x36_2).f0) < 0) = true:=decide_eq_true c34
              clear c34
              obtain rfl:=Option.some.inj H
              go_wp2
              go_ret
              exact ⟨by first | rfl | (simp [errW_none,errW_some]<;>rfl) | (simp [*,errW_none,errW_some]<;>rfl),by repeat (first | (with_reducible first | exact HB.out | apply below_alloc | apply pw_below_drewN | apply below_drew1 | refine below_set ?_ GE112.out | refine below_set ?_ GE119.out) | exact HB.out)⟩
             ·rw [if_neg c34] at H
              have c34b0 : decide (((rd_T57 l0_1 x36_2).f0) < 0) = false:=decide_eq_false c34
              clear c34
              by_cases c35 : ((rd_T57 l0_1 x36_2).f0) ≥ (l0_0.length : Int)
              ·rw [if_pos c35] at H
               have c35b0 : decide ((l0_0.length : Int) ≤ ((rd_T57 l0_1 x36_2).f0)) = true:=decide_eq_true c35
               clear c35
               obtain rfl:=Option.some.inj H
               have hnb36:=NB112_119.out
               have hnc36:=NB119_112.out
               have hcz37_0:=bcx4 BK112.out 0 rfl
               have hcz37_1:=bcx4 BK112.out 1 rfl
               go_wp2
               go_ret
               exact ⟨by first | rfl | (simp [errW_none,errW_some]<;>rfl) | (simp [*,errW_none,errW_some]<;>rfl),by repeat (first | (with_reducible first | exact HB.out | apply below_alloc | apply pw_below_drewN | apply below_drew1 | refine below_set ?_ GE112.out | refine below_set ?_ GE119.out) | exact HB.out)⟩
              ·rw [if_neg c35] at H
               have c35b0 : decide ((l0_0.length : Int) ≤ ((rd_T57 l0_1 x36_2).f0)) = false:=decide_eq_false c35
               clear c35
               by_cases c38 : ((rd_T57 l0_1 x36_2).f0) = ((rd_T57 l0_1 x36_2).f1)
               ·rw [if_pos c38] at H
                have c38b0 : (((rd_T57 l0_1 x36_2).f0) == ((rd_T57 l0_1 x36_2).f1)) = true:=beq_iff_eq.mpr c38
                have c38b1 : (((rd_T57 l0_1 x36_2).f0) != ((rd_T57 l0_1 x36_2).f1)) = false:=bne_eq_false_iff_eq.mpr c38
                clear c38
                obtain rfl:=Option.some.inj H
                have hnb39:=NB112_119.out
                have hnc39:=NB119_112.out
                have hcz40_0:=bcx4 BK112.out 0 rfl
                have hcz40_1:=bcx4 BK112.out 1 rfl
                have hcz41_0:=bcx4 BK119.out 0 rfl
                have hcz41_1:=bcx4 BK119.out 1 rfl
                have hcz41_2:=bcx4 BK119.out 2 rfl
                go_wp2
                go_ret
                exact ⟨by first | rfl | (simp [errW_none,errW_some]<;>rfl) | (simp [*,errW_none,errW_some]<;>rfl),by repeat (first | (with_reducible first | exact HB.out | apply below_alloc | apply pw_below_drewN | apply below_drew1 | refine below_set ?_ GE112.out | refine below_set ?_ GE119.out) | exact HB.out)⟩
               ·rw [if_neg c38] at H
                have c38b0 : (((rd_T57 l0_1 x36_2).f0) == ((rd_T57 l0_1 x36_2).f1)) = false:=beq_eq_false_iff_ne.mpr c38
                have c38b1 : (((rd_T57 l0_1 x36_2).f0) != ((rd_T57 l0_1 x36_2).f1)) = true:=bne_iff_ne.mpr c38
                have H':=aMx4 H
                clear H
                have hnb42:=NB112_119.out
                have hnc42:=NB119_112.out
                have hcz43_0:=bcx4 BK112.out 0 rfl
                have hcz43_1:=bcx4 BK112.out 1 rfl
                have hcz44_0:=bcx4 BK119.out 0 rfl
                have hcz44_1:=bcx4 BK119.out 1 rfl
                have hcz44_2:=bcx4 BK119.out 2 rfl
                go_wp2
                go_roundg k3
                case measure => have:=HK1.out;have:=HK2.out;have:=HK3.out;omega
                case rel => exact ⟨(wrap64 (0+1)),(by first | rfl | (simp;done) | (simp [*];done) | (simp [wrap64];done)),H',⟨by have:=HK1.out;have:=HK2.out;have:=HK3.out;omega⟩,⟨by (with_reducible repeat (first | refine blk_drewN ?_ _ | refine blk_drew ?_ | refine blk_alloc ?_ _));exact BK112.out⟩,⟨by (with_reducible repeat (first | refine blk_drewN ?_ _ | refine blk_drew ?_ | refine blk_alloc ?_ _));exact BK119.out⟩,⟨by repeat (first | (with_reducible first | exact HB.out | apply below_alloc | apply pw_below_drewN | apply below_drew1 | refine below_set ?_ GE112.out | refine below_set ?_ GE119.out) | exact HB.out)⟩⟩
            ·rw [if_neg c33] at H
             by_cases c45 : x41_3 = 1
             ·rw [if_pos c45] at H
              subst c45
              by_cases c46 : ((rd_T57 l0_1 x36_2).f1) < 0
              ·rw [if_pos c46] at H
               have c46b0 : decide (((rd_T57 l0_1 x36_2).f1) < 0) = true:=decide_eq_true c46
               clear c46
               obtain rfl:=Option.some.inj H
               go_wp2
               go_ret
               exact ⟨by first | rfl | (simp [errW_none,errW_some]<;>rfl) | (simp [*,errW_none,errW_some]<;>rfl),by repeat (first | (with_reducible first | exact HB.out | apply below_alloc | apply pw_below_drewN | apply below_drew1 | refine below_set ?_ GE112.out | refine below_set ?_ GE119.out) | exact HB.out)⟩
              ·rw [if_neg c46] at H
               have c46b0 : decide (((rd_T57 l0_1 x36_2).f1) < 0) = false:=decide_eq_false c46
               clear c46
               by_cases c47 : ((rd_T57 l0_1 x36_2).f1) ≥ (l0_0.length : Int)
               ·rw [if_pos c47] at H
                have c47b0 : decide ((l0_0.length : Int) ≤ ((rd_T57 l0_1 x36_2).f1)) = true:=decide_eq_true c47
                clear c47
                obtain rfl:=Option.some.inj H
                have hnb48:=NB112_119.out
                have hnc48:=NB119_112.out
                have hcz49_0:=bcx4 BK112.out 0 rfl
                have hcz49_1:=bcx4 BK112.out 1 rfl
                go_wp2
                go_ret
                exact ⟨by first | rfl | (simp [errW_none,errW_some]<;>rfl) | (simp [*,errW_none,errW_some]<;>rfl),by repeat (first | (with_reducible first | exact HB.out | apply below_alloc | apply pw_below_drewN | apply below_drew1 | refine below_set ?_ GE112.out | refine below_set ?_ GE119.out) | exact HB.out)⟩
               ·rw [if_neg c47] at H
                have c47b0 : decide ((l0_0.length : Int) ≤ ((rd_T57 l0_1 x36_2).f1)) = false:=decide_eq_false c47
                clear c47
                by_cases c50 : ((rd_T57 l0_1 x36_2).f1) = ((rd_T57 l0_1 x36_2).f2)
                ·rw [if_pos c50] at H
                 have c50b0 : (((rd_T57 l0_1 x36_2).f1) == ((rd_T57 l0_1 x36_2).f2)) = true:=beq_iff_eq.mpr c50
                 have c50b1 : (((rd_T57 l0_1 x36_2).f1) != ((rd_T57 l0_1 x36_2).f2)) = false:=bne_eq_false_iff_eq.mpr c50
                 clear c50
                 obtain rfl:=Option.some.inj H
                 have hnb51:=NB112_119.out
                 have hnc51:=NB119_112.out
                 have hcz52_0:=bcx4 BK112.out 0 rfl
                 have hcz52_1:=bcx4 BK112.out 1 rfl
                 have hcz53_0:=bcx4 BK119.out 0 rfl
                 have hcz53_1:=bcx4 BK119.out 1 rfl
                 have hcz53_2:=bcx4 BK119.out 2 rfl
                 go_wp2
                 go_ret
                 exact ⟨by first | rfl | (simp [errW_none,errW_some]<;>rfl) | (simp [*,errW_none,errW_some]<;>rfl),by repeat (first | (with_reducible first | exact HB.out | apply below_alloc | apply pw_below_drewN | apply below_drew1 | refine below_set ?_ GE112.out | refine below_set ?_ GE119.out) | exact HB.out)⟩
                ·rw [if_neg c50] at H
                 have c50b0 : (((rd_T57 l0_1 x36_2).f1) == ((rd_T57 l0_1 x36_2).f2)) = false:=beq_eq_false_iff_ne.mpr c50
                 have c50b1 : (((rd_T57 l0_1 x36_2).f1) != ((rd_T57 l0_1 x36_2).f2)) = true:=bne_iff_ne.mpr c50
                 have H':=aMx4 H
                 clear H
                 have hnb54:=NB112_119.out
                 have hnc54:=NB119_112.out
                 have hcz55_0:=bcx4 BK112.out 0 rfl
                 have hcz55_1:=bcx4 BK112.out 1 rfl
                 have hcz56_0:=bcx4 BK119.out 0 rfl
                 have hcz56_1:=bcx4 BK119.out 1 rfl
                 have hcz56_2:=bcx4 BK119.out 2 rfl
                 go_wp2
                 go_roundg k3
                 case measure => have:=HK1.out;have:=HK2.out;have:=HK3.out;omega
                 case rel => exact ⟨(wrap64 (1+1)),(by first | rfl | (simp;done) | (simp [*];done) | (simp [wrap64];done)),H',⟨by have:=HK1.out;have:=HK2.out;have:=HK3.out;omega⟩,⟨by (with_reducible repeat (first | refine blk_drewN ?_ _ | refine blk_drew ?_ | refine blk_alloc ?_ _));exact BK112.out⟩,⟨by (with_reducible repeat (first | refine blk_drewN ?_ _ | refine blk_drew ?_ | refine blk_alloc ?_ _));exact BK119.out⟩,⟨by repeat (first | (with_reducible first | exact HB.out | apply below_alloc | apply pw_below_drewN | apply below_drew1 | refine below_set ?_ GE112.out | refine below_set ?_ GE119.out) | exact HB.out)⟩⟩
             ·rw [if_neg c45] at H
              by_cases c57 : x41_3 = 2
              ·rw [if_pos c57] at H
               subst c57
               by_cases c58 : ((rd_T57 l0_1 x36_2).f2) < 0
               ·rw [if_pos c58] at H
                have c58b0 : decide (((rd_T57 l0_1 x36_2).f2) < 0) = true:=decide_eq_true c58
                clear c58
                obtain rfl:=Option.some.inj H
                go_wp2
                go_ret
                exact ⟨by first | rfl | (simp [errW_none,errW_some]<;>rfl) | (simp [*,errW_none,errW_some]<;>rfl),by repeat (first | (with_reducible first | exact HB.out | apply below_alloc | apply pw_below_drewN | apply below_drew1 | refine below_set ?_ GE112.out | refine below_set ?_ GE119.out) | exact HB.out)⟩
               ·rw [if_neg c58] at H
                have c58b0 : decide (((rd_T57 l0_1 x36_2).f2) < 0) = false:=decide_eq_false c58
                clear c58
                by_cases c59 : ((rd_T57 l0_1 x36_2).f2) ≥ (l0_0.length : Int)
                ·rw [if_pos c59] at H
                 have c59b0 : decide ((l0_0.length : Int) ≤ ((rd_T57 l0_1 x36_2).f2)) = true:=decide_eq_true c59
                 clear c59
                 obtain rfl:=Option.some.inj H
                 have hnb60:=NB112_119.out
                 have hnc60:=NB119_112.out
                 have hcz61_0:=bcx4 BK112.out 0 rfl
                 have hcz61_1:=bcx4 BK112.out 1 rfl
                 go_wp2
                 go_ret
                 exact ⟨by first | rfl | (simp [errW_none,errW_some]<;>rfl) | (simp [*,errW_none,errW_some]<;>rfl),by repeat (first | (with_reducible first | exact HB.out | apply below_alloc | apply pw_below_drewN | apply below_drew1 | refine below_set ?_ GE112.out | refine below_set ?_ GE119.out) | exact HB.out)⟩
                ·rw [if_neg c59] at H
                 have c59b0 : decide ((l0_0.length : Int) ≤ ((rd_T57 l0_1 x36_2).f2)) = false:=decide_eq_false c59
                 clear c59
                 by_cases c62 : ((rd_T57 l0_1 x36_2).f2) = ((rd_T57 l0_1 x36_2).f0)
                 ·rw [if_pos c62] at H
                  have c62b0 : (((rd_T57 l0_1 x36_2).f2) == ((rd_T57 l0_1 x36_2).f0)) = true:=beq_iff_eq.mpr c62
                  have c62b1 : (((rd_T57 l0_1 x36_2).f2) != ((rd_T57 l0_1 x36_2).f0)) = false:=bne_eq_false_iff_eq.mpr c62
                  clear c62
                  obtain rfl:=Option.some.inj H
                  have hnb63:=NB112_119.out
                  have hnc63:=NB119_112.out
                  have hcz64_0:=bcx4 BK112.out 0 rfl
                  have hcz64_1:=bcx4 BK112.out 1 rfl
                  have hcz65_0:=bcx4 BK119.out 0 rfl
                  have hcz65_1:=bcx4 BK119.out 1 rfl
                  have hcz65_2:=bcx4 BK119.out 2 rfl
                  go_wp2
                  go_ret
                  exact ⟨by first | rfl | (simp [errW_none,errW_some]<;>rfl) | (simp [*,errW_none,errW_some]<;>rfl),by repeat (first | (with_reducible first | exact HB.out | apply below_alloc | apply pw_below_drewN | apply below_drew1 | refine below_set ?_ GE112.out | refine below_set ?_ GE119.out) | exact HB.out)⟩
                 ·rw [if_neg c62] at H
                  have c62b0 : (((rd_T57 l0_1 x36_2).f2) == ((rd_T57 l0_1 x36_2).f0)) = false:=beq_eq_false_iff_ne.mpr c62
                  have c62b1 : (((rd_T57 l0_1 x36_2).f2) != ((rd_T57 l0_1 x36_2).f0)) = true:=bne_iff_ne.mpr c62
                  have H':=aMx4 H
                  clear H
                  have hnb66:=NB112_119.out
                  have hnc66:=NB119_112.out
                  have hcz67_0:=bcx4 BK112.out 0 rfl
                  have hcz67_1:=bcx4 BK112.out 1 rfl
                  have hcz68_0:=bcx4 BK119.out 0 rfl
                  have hcz68_1:=bcx4 BK119.out 1 rfl
                  have hcz68_2:=bcx4 BK119.out 2 rfl
                  go_wp2
                  go_roundg k3
                  case measure => have:=HK1.out;have:=HK2.out;have:=HK3.out;omega
                  case rel => exact ⟨(wrap64 (2+1)),(by first | rfl | (simp;done) | (simp [*];done) | (simp [wrap64];done)),H',⟨by have:=HK1.out;have:=HK2.out;have:=HK3.out;omega⟩,⟨by (with_reducible repeat (first | refine blk_drewN ?_ _ | refine blk_drew ?_ | refine blk_alloc ?_ _));exact BK112.out⟩,⟨by (with_reducible repeat (first | refine blk_drewN ?_ _ | refine blk_drew ?_ | refine blk_alloc ?_ _));exact BK119.out⟩,⟨by repeat (first | (with_reducible first | exact HB.out | apply below_alloc | apply pw_below_drewN | apply below_drew1 | refine below_set ?_ GE112.out | refine below_set ?_ GE119.out) | exact HB.out)⟩⟩
              ·rw [if_neg c57] at H
               exact absurd H (by simp)
           ·rw [if_neg c32] at H
            have c32b0 : decide (x41_3 < 3) = false:=decide_eq_false c32
            clear c32
            have H':=aMx4 H
            clear H
            go_wp2
            go_roundg k3
            case measure => have:=HK1.out;have:=HK2.out;have:=HK3.out;omega
            case rel => exact ⟨(wrap64 (x36_2+1)),(by first | rfl | (simp;done) | (simp [*];done) | (simp [wrap64];done)),H',⟨by have:=HK1.out;have:=HK2.out;have:=HK3.out;omega⟩,⟨by (with_reducible repeat (first | refine blk_drewN ?_ _ | refine blk_drew ?_ | refine blk_alloc ?_ _));exact BK112.out⟩,⟨by repeat (first | (with_reducible first | exact HB.out | apply below_alloc | apply pw_below_drewN | apply below_drew1 | refine below_set ?_ GE112.out | refine below_set ?_ GE119.out) | exact HB.out)⟩⟩
        ·rw [if_neg c28] at H
         exact absurd H (by simp)
       ·rw [if_neg c27] at H
        exact absurd H (by simp)
      ·rw [if_neg c26] at H
       have c26b0 : decide (x36_2 < (l0_1.length : Int)) = false:=decide_eq_false c26
       clear c26
       obtain rfl:=Option.some.inj H
       go_wp2
       go_ret
       exact ⟨by first | rfl | (simp [errW_none,errW_some]<;>rfl) | (simp [*,errW_none,errW_some]<;>rfl),by repeat (first | (with_reducible first | exact HB.out | apply below_alloc | apply pw_below_drewN | apply below_drew1 | refine below_set ?_ GE112.out) | exact HB.out)⟩
def slices_Index_int_int.l0 : Nat → List Int → Int → Int → Int → Option (Int)
  | 0, _, _, _, _ => none
  | k + 1, x0, x1, x7, x8 => if x8 < x7 then (if 0 ≤ x8 then (if x8 < (x0.length : Int) then (if x1 = (rd x0 x8) then (some x8) else (slices_Index_int_int.l0 k x0 x1 x7 (wrap64 (x8 + 1)))) else (none)) else (none)) else (some (-1))
def slices_Index_int_int.f (k : Nat) (l0 : List Int) (a1 : Int) : Option (Int) := slices_Index_int_int.l0 k l0 a1 (l0.length : Int) 0
set_option maxHeartbeats 8000000 in
set_option maxRecDepth 100000 in
theorem slices_Index_int_int.calls (k : Nat) (A0 : Option Addr) (c0 : Nat) (l0 : List Int) (a1 : Int) (r : Int) (w : World) (hr0 : Kd.C (Kd.int .i64) w A0 l0.length l0) (hc0 : l0.length ≤ c0) (h : slices_Index_int_int.f k l0 a1 = some r) :
  Calls Tryd.prog 61 #[.slice A0 l0.length c0,.int .i64 a1] w fun e w' => e = .returned (.int .i64 r) ∧ Drawn0 w w':=by
 have HR0:=aMx4 hr0
 have HC0:=aMx4 hc0
 clear hr0 hc0
 have H : (slices_Index_int_int.l0 k l0 a1 (l0.length : Int) 0) = some r:=h
 clear h
 have H':=aMx4 H
 clear H
 go_enter Tryd.func61,Tryd.ntmps61
 go_wp2
 go_loopg [8] k (fun kq v8 w' => ∃ (x8_1 : Int),v8 = .int .i64 x8_1 ∧ Aside0 (slices_Index_int_int.l0 kq l0 a1 (l0.length : Int) x8_1 = some r) ∧ Aside0 (kq ≤ k) ∧ Drawn0 w w')
 case atStart => exact ⟨(0),(by first | rfl | (simp;done) | (simp [*];done) | (simp [wrap64];done)),H',⟨Nat.le_refl _⟩,by repeat (first | exact Drawn0.refl _ | apply Drawn0.step)⟩
 case round =>
  clear H'
  try clear p2
  obtain ⟨x8_1,rfl,HA,HK1,⟨m1,rfl⟩⟩:=hrel
  cases gk with
  | zero => exact absurd HA.out (by simp [slices_Index_int_int.l0])
  | succ k1 =>
   have H:=HA.out
   clear HA
   simp only [slices_Index_int_int.l0] at H
   by_cases c3 : x8_1 < (l0.length : Int)
   ·rw [if_pos c3] at H
    have c3b0 : decide (x8_1 < (l0.length : Int)) = true:=decide_eq_true c3
    clear c3
    by_cases c4 : 0 ≤ x8_1
    ·rw [if_pos c4] at H
     have c4b0 : decide (0 ≤ x8_1) = true:=decide_eq_true c4
     clear c4
     by_cases c5 : x8_1 < (l0.length : Int)
     ·rw [if_pos c5] at H
      have c5b0 : decide (x8_1 < (l0.length : Int)) = true:=decide_eq_true c5
      clear c5
      by_cases c6 : a1 = (rd l0 x8_1)
      ·rw [if_pos c6] at H
       have c6b0 : (a1 == (rd l0 x8_1)) = true:=beq_iff_eq.mpr c6
       have c6b1 : (a1 != (rd l0 x8_1)) = false:=bne_eq_false_iff_eq.mpr c6
       clear c6
       obtain rfl:=Option.some.inj H
       have p120 : 0 ≤ (x8_1 : Int):=of_decide_eq_true (by first | (with_reducible assumption) | assumption)
       have q120 : x8_1 < (l0.length : Int):=of_decide_eq_true (by first | (with_reducible assumption) | assumption)
       obtain ⟨ad120,e120,hx120_0⟩:=Kd.at_int HR0.out x8_1 p120 q120
       cases e120
       replace p120:=eq_true p120
       replace q120:=eq_true q120
       go_wp2
       go_ret
       exact ⟨by first | rfl | (simp;done) | (simp [*];done) | (simp [wrap64];done),by repeat (first | exact Drawn0.refl _ | apply Drawn0.step)⟩
      ·rw [if_neg c6] at H
       have c6b0 : (a1 == (rd l0 x8_1)) = false:=beq_eq_false_iff_ne.mpr c6
       have c6b1 : (a1 != (rd l0 x8_1)) = true:=bne_iff_ne.mpr c6
       have H':=aMx4 H
       clear H
       have p120 : 0 ≤ (x8_1 : Int):=of_decide_eq_true (by first | (with_reducible assumption) | assumption)
       have q120 : x8_1 < (l0.length : Int):=of_decide_eq_true (by first | (with_reducible assumption) | assumption)
       obtain ⟨ad120,e120,hx120_0⟩:=Kd.at_int HR0.out x8_1 p120 q120
       cases e120
       replace p120:=eq_true p120
       replace q120:=eq_true q120
       go_wp2
       go_roundg k1
       case measure => have:=HK1.out;omega
       case rel => exact ⟨(wrap64 (x8_1+1)),(by first | rfl | (simp;done) | (simp [*];done) | (simp [wrap64];done)),H',⟨by have:=HK1.out;omega⟩,by repeat (first | exact Drawn0.refl _ | apply Drawn0.step)⟩
     ·rw [if_neg c5] at H
      exact absurd H (by simp)
    ·rw [if_neg c4] at H
     exact absurd H (by simp)
   ·rw [if_neg c3] at H
    have c3b0 : decide (x8_1 < (l0.length : Int)) = false:=decide_eq_false c3
    clear c3
    obtain rfl:=Option.some.inj H
    go_wp2
    go_ret
    exact ⟨by first | rfl | (simp;done) | (simp [*];done) | (simp [wrap64];done),by repeat (first | exact Drawn0.refl _ | apply Drawn0.step)⟩
def mesh_after.f (l0_0 : List (S45)) (l0_1 : List (S57)) (a1 : Int) (a2_0 : Int) (a2_1 : Int) : Option (Int) := if 0 ≤ a1 then (if a1 < (l0_1.length : Int) then (some (wrap64 ((wrap64 ((wrap64 ((wrap64 (((rd_T57 l0_1 a1).f0) + ((rd_T57 l0_1 a1).f1))) + ((rd_T57 l0_1 a1).f2))) - a2_0)) - a2_1))) else (none)) else (none)
set_option maxHeartbeats 8000000 in
set_option maxRecDepth 100000 in
theorem mesh_after.calls (A0_0 : Option Addr) (c0_0 : Nat) (l0_0 : List (S45)) (A0_1 : Option Addr) (c0_1 : Nat) (l0_1 : List (S57)) (a1 : Int) (a2_0 : Int) (a2_1 : Int) (r : Int) (w : World) (hr0_0 : Kd.C k45 w A0_0 l0_0.length l0_0) (hc0_0 : l0_0.length ≤ c0_0) (hr0_1 : Kd.C k57 w A0_1 l0_1.length l0_1) (hc0_1 : l0_1.length ≤ c0_1) (h : mesh_after.f l0_0 l0_1 a1 a2_0 a2_1 = some r) :
  Calls Tryd.prog 62 #[.agg #[.slice A0_0 l0_0.length c0_0,.slice A0_1 l0_1.length c0_1],.int .i64 a1,.agg #[.int .i64 a2_0,.int .i64 a2_1]] w fun e w' => e = .returned (.int .i64 r) ∧ Below w.heap.size w w':=by
 have hu25:=Tryd.underlying25
 have hu86:=Tryd.underlying86
 have hu57:=Tryd.underlying57
 have HR0_0:=aMx4 hr0_0
 have HC0_0:=aMx4 hc0_0
 clear hr0_0 hc0_0
 have HR0_1:=aMx4 hr0_1
 have HC0_1:=aMx4 hc0_1
 clear hr0_1 hc0_1
 have HB:=aMx4 (Below.refl w.heap.size w)
 have H : (if 0 ≤ a1 then (if a1 < (l0_1.length : Int) then (some (wrap64 ((wrap64 ((wrap64 ((wrap64 (((rd_T57 l0_1 a1).f0)+((rd_T57 l0_1 a1).f1)))+((rd_T57 l0_1 a1).f2))) - a2_0)) - a2_1))) else (none)) else (none)) = some r:=h
 clear h
 by_cases c4 : 0 ≤ a1
 ·rw [if_pos c4] at H
  have c4b0 : decide (0 ≤ a1) = true:=decide_eq_true c4
  clear c4
  by_cases c5 : a1 < (l0_1.length : Int)
  ·rw [if_pos c5] at H
   have c5b0 : decide (a1 < (l0_1.length : Int)) = true:=decide_eq_true c5
   clear c5
   obtain rfl:=Option.some.inj H
   go_enter Tryd.func62,Tryd.ntmps62
   go_wp2_with (first|((with_reducible refine gate_dst (N:=3) rfl ?_);refine box_event ?hg (N:=3) ?hd (cs:=#[.slice A0_0 l0_0.length c0_0,.slice A0_1 l0_1.length c0_1]) (t:=25) ?hr ?_;(case hd => rfl);(case hg => rfl);(case hr => first|(go_simp;done)|(go_simp;rfl));intro gb121 hg w6 hbox hb;have n0_:=aMx4 (below_step (by repeat (with_reducible first|exact HB.out|apply below_alloc|apply pw_below_drewN|apply below_drew1)) hb);have n1_:=aMx4 (hbox);have n2_:=aMx4 ((by rw [hg];exact (below_size (by repeat (with_reducible first|exact HB.out|apply below_alloc|apply pw_below_drewN|apply below_drew1))) : w.heap.size ≤ gb121));have n3_:=aMx4 ((by rw [hg];exact (below_size (by repeat (with_reducible first|exact HB.out|apply below_alloc|apply pw_below_drewN|apply below_drew1))) : w.heap.size ≤ gb121));clear HB;have HB:=n0_;have BK121:=n1_;have GW121:=n2_;have GE121:=n3_;clear n0_ n1_ n2_ n3_;clear hb hbox hg)|((with_reducible refine gate_dst (N:=5) rfl ?_);refine box_event ?hg (N:=5) ?hd (cs:=#[.int .i64 a2_0,.int .i64 a2_1]) (t:=86) ?hr ?_;(case hd => rfl);(case hg => rfl);(case hr => first|(go_simp;done)|(go_simp;rfl));intro gb122 hg w7 hbox hb;have n0_:=aMx4 (blk_below (g:=gb121) (o:=.cells #[.slice A0_0 l0_0.length c0_0,.slice A0_1 l0_1.length c0_1] 25 (0,0)) (by (with_reducible repeat (first|refine blk_drewN ?_ _|refine blk_drew ?_|refine blk_alloc ?_ _));exact BK121.out) hb);have n1_:=aMx4 (below_step (by repeat (first|(with_reducible first|exact HB.out|apply below_alloc|apply pw_below_drewN|apply below_drew1|refine below_set ?_ GE121.out)|exact HB.out)) hb);have n2_:=aMx4 (hbox);have n3_:=aMx4 ((by rw [hg];exact (below_size (by repeat (first|(with_reducible first|exact HB.out|apply below_alloc|apply pw_below_drewN|apply below_drew1|refine below_set ?_ GE121.out)|exact HB.out))) : w.heap.size ≤ gb122));have n4_:=aMx4 ((by rw [hg];exact (below_size (by repeat (first|(with_reducible first|exact HB.out|apply below_alloc|apply pw_below_drewN|apply below_drew1|refine below_set ?_ GE121.out)|exact HB.out))) : w.heap.size ≤ gb122));have n5_:=aMx4 ((by rw [hg];exact Nat.ne_of_lt (blk_lt (g:=gb121) (o:=.cells #[.slice A0_0 l0_0.length c0_0,.slice A0_1 l0_1.length c0_1] 25 (0,0)) (by (with_reducible repeat (first|refine blk_drewN ?_ _|refine blk_drew ?_|refine blk_alloc ?_ _));exact BK121.out)) : gb121 ≠ gb122));have n6_:=aMx4 ((by rw [hg];exact Nat.ne_of_gt (blk_lt (g:=gb121) (o:=.cells #[.slice A0_0 l0_0.length c0_0,.slice A0_1 l0_1.length c0_1] 25 (0,0)) (by (with_reducible repeat (first|refine blk_drewN ?_ _|refine blk_drew ?_|refine blk_alloc ?_ _));exact BK121.out)) : gb122 ≠ gb121));clear BK121;clear HB;have BK121:=n0_;have HB:=n1_;have BK122:=n2_;have GW122:=n3_;have GE122:=n4_;have NB121_122:=n5_;have NB122_121:=n6_;clear n0_ n1_ n2_ n3_ n4_ n5_ n6_;clear hb hbox hg;have hnb8:=NB121_122.out;have hnc8:=NB122_121.out;have hcz9_0:=bcx4 BK121.out 0 rfl;have hcz9_1:=bcx4 BK121.out 1 rfl;have hfz9_0:=blk_frozen BK121.out 0;have hfz9_1:=blk_frozen BK121.out 1;have p123 : 0 ≤ (a1 : Int):=of_decide_eq_true (by first|(with_reducible assumption)|assumption);have q123 : a1 < (l0_1.length : Int):=of_decide_eq_true (by first|(with_reducible assumption)|assumption);obtain ⟨ad123,e123,hx123_0,hx123_1,hx123_2⟩:=at_T57 HR0_1.out a1 p123 q123;cases e123;replace hx123_0:=(HB.out.cell (World.block_lt_of_cell? w _ hx123_0)).trans hx123_0;replace hx123_1:=(HB.out.cell (World.block_lt_of_cell? w _ hx123_1)).trans hx123_1;replace hx123_2:=(HB.out.cell (World.block_lt_of_cell? w _ hx123_2)).trans hx123_2;replace p123:=eq_true p123;replace q123:=eq_true q123)|((with_reducible refine gate_dst (N:=7) rfl ?_);refine box_event ?hg (N:=7) ?hd (cs:=#[.int .i64 0,.int .i64 0,.int .i64 0]) (t:=57) ?hr ?_;(case hd => rfl);(case hg => rfl);(case hr => first|(go_simp;done)|(go_simp;rfl));intro gb124 hg w10 hbox hb;have n0_:=aMx4 (blk_below (g:=gb121) (o:=.cells #[.slice A0_0 l0_0.length c0_0,.slice (some ad123) l0_1.length c0_1] 25 (0,0)) (by (with_reducible repeat (first|refine blk_drewN ?_ _|refine blk_drew ?_|refine blk_alloc ?_ _));exact BK121.out) hb);have n1_:=aMx4 (blk_below (g:=gb122) (o:=.cells #[.int .i64 a2_0,.int .i64 a2_1] 86 (0,0)) (by (with_reducible repeat (first|refine blk_drewN ?_ _|refine blk_drew ?_|refine blk_alloc ?_ _));exact BK122.out) hb);have n2_:=aMx4 (below_step (by repeat (first|(with_reducible first|exact HB.out|apply below_alloc|apply pw_below_drewN|apply below_drew1|refine below_set ?_ GE121.out|refine below_set ?_ GE122.out)|exact HB.out)) hb);have n3_:=aMx4 (hbox);have n4_:=aMx4 ((by rw [hg];exact (below_size (by repeat (first|(with_reducible first|exact HB.out|apply below_alloc|apply pw_below_drewN|apply below_drew1|refine below_set ?_ GE121.out|refine below_set ?_ GE122.out)|exact HB.out))) : w.heap.size ≤ gb124));have n5_:=aMx4 ((by rw [hg];exact (below_size (by repeat (first|(with_reducible first|exact HB.out|apply below_alloc|apply pw_below_drewN|apply below_drew1|refine below_set ?_ GE121.out|refine below_set ?_ GE122.out)|exact HB.out))) : w.heap.size ≤ gb124));have n6_:=aMx4 ((by rw [hg];exact Nat.ne_of_lt (blk_lt (g:=gb121) (o:=.cells #[.slice A0_0 l0_0.length c0_0,.slice (some ad123) l0_1.length c0_1] 25 (0,0)) (by (with_reducible repeat (first|refine blk_drewN ?_ _|refine blk_drew ?_|refine blk_alloc ?_ _));exact BK121.out)) : gb121 ≠ gb124));have n7_:=aMx4 ((by rw [hg];exact Nat.ne_of_gt (blk_lt (g:=gb121) (o:=.cells #[.slice A0_0 l0_0.length c0_0,.slice (some ad123) l0_1.length c0_1] 25 (0,0)) (by (with_reducible repeat (first|refine blk_drewN ?_ _|refine blk_drew ?_|refine blk_alloc ?_ _));exact BK121.out)) : gb124 ≠ gb121));have n8_:=aMx4 ((by rw [hg];exact Nat.ne_of_lt (blk_lt (g:=gb122) (o:=.cells #[.int .i64 a2_0,.int .i64 a2_1] 86 (0,0)) (by (with_reducible repeat (first|refine blk_drewN ?_ _|refine blk_drew ?_|refine blk_alloc ?_ _));exact BK122.out)) : gb122 ≠ gb124));have n9_:=aMx4 ((by rw [hg];exact Nat.ne_of_gt (blk_lt (g:=gb122) (o:=.cells #[.int .i64 a2_0,.int .i64 a2_1] 86 (0,0)) (by (with_reducible repeat (first|refine blk_drewN ?_ _|refine blk_drew ?_|refine blk_alloc ?_ _));exact BK122.out)) : gb124 ≠ gb122));clear BK121;clear BK122;clear HB;have BK121:=n0_;have BK122:=n1_;have HB:=n2_;have BK124:=n3_;have GW124:=n4_;have GE124:=n5_;have NB121_124:=n6_;have NB124_121:=n7_;have NB122_124:=n8_;have NB124_122:=n9_;clear n0_ n1_ n2_ n3_ n4_ n5_ n6_ n7_ n8_ n9_;clear hb hbox hg;have hnb11:=NB124_121.out;have hnc11:=NB121_124.out;have hnb12:=NB124_122.out;have hnc12:=NB122_124.out;have hcz13_0:=bcx4 BK124.out 0 rfl;have hcz13_1:=bcx4 BK124.out 1 rfl;have hcz13_2:=bcx4 BK124.out 2 rfl;have hfz13_0:=blk_frozen BK124.out 0;have hfz13_1:=blk_frozen BK124.out 1;have hfz13_2:=blk_frozen BK124.out 2;have hcz14_0:=bcx4 BK122.out 0 rfl;have hcz14_1:=bcx4 BK122.out 1 rfl;have hfz14_0:=blk_frozen BK122.out 0;have hfz14_1:=blk_frozen BK122.out 1))
   go_ret
   exact ⟨by first | rfl | (simp [errW_none,errW_some]<;>rfl) | (simp [*,errW_none,errW_some]<;>rfl),by repeat (first | (with_reducible first | exact HB.out | apply below_alloc | apply pw_below_drewN | apply below_drew1 | refine below_set ?_ GE121.out | refine below_set ?_ GE122.out | refine below_set ?_ GE124.out) | exact HB.out)⟩
  ·rw [if_neg c5] at H
   exact absurd H (by simp)
 ·rw [if_neg c4] at H
  exact absurd H (by simp)
end Go.Proofs.YtbdpfmpbooikiaaDoor.PIsr
