import Derived.WalkMore
import Derived.Test.YtbdpfmpbooikiaaDoorPIsrx0
namespace Go.Proofs.YtbdpfmpbooikiaaDoor.PIsr
open Go Go.RowKit Go.Proofs.YtbdpfmpbooikiaaDoorW.PrintWords Go.Proofs.YtbdpfmpbooikiaaDoorW.PrintLast Go.Proofs.YtbdpfmpbooikiaaDoorW.PrintMore
attribute [local go_sem] max2_int min2_int max_two min_two max_three min_three max_four min_four
set_option linter.unusedVariables false
set_option linter.unusedSimpArgs false
theorem noGoto_body {P : Program} {fn : Func} {R : Ending → World → Prop} : Exit.noGoto (bodyPost P fn R) = bodyPost P fn R := by
  funext e a w
  cases e <;> rfl
theorem scope_body {P : Program} {fn : Func} {R : Ending → World → Prop} {c : Code} {a : Act} {w : World} (h : c.wp P (bodyPost P fn R) a w) : (Code.scope c).wp P (bodyPost P fn R) a w :=
  wp_scope_straight (by rw [noGoto_body]; exact h)
attribute [local go_sem] idx57_0_0 idx57_1_0 idx57_2_0 idx86_0_0 idx86_1_0
theorem aMx3 {p : Prop} (h : p) : Aside0 p := ⟨h⟩
def lapidarylaw13_long.f (l0_0 : List (S45)) (l0_1 : List (S57)) : Option (Bool) := if (l0_0.length : Int) > 40 then (some true) else (some (decide ((l0_1.length : Int) > 60)))
set_option maxHeartbeats 8000000 in
set_option maxRecDepth 100000 in
theorem lapidarylaw13_long.calls (A0_0 : Option Addr) (c0_0 : Nat) (l0_0 : List (S45)) (A0_1 : Option Addr) (c0_1 : Nat) (l0_1 : List (S57)) (r : Bool) (w : World) (hr0_0 : Kd.C k45 w A0_0 l0_0.length l0_0) (hc0_0 : l0_0.length ≤ c0_0) (hr0_1 : Kd.C k57 w A0_1 l0_1.length l0_1) (hc0_1 : l0_1.length ≤ c0_1) (h : lapidarylaw13_long.f l0_0 l0_1 = some r) :
  Calls Tryd.prog 11 #[.agg #[.slice A0_0 l0_0.length c0_0,.slice A0_1 l0_1.length c0_1]] w fun e w' => e = .returned (.bool r) ∧ Below w.heap.size w w':=by
 have hu25:=Tryd.underlying25
 have HR0_0:=aMx3 hr0_0
 have HC0_0:=aMx3 hc0_0
 clear hr0_0 hc0_0
 have HR0_1:=aMx3 hr0_1
 have HC0_1:=aMx3 hc0_1
 clear hr0_1 hc0_1
 have HB:=aMx3 (Below.refl w.heap.size w)
 have H : (if (l0_0.length : Int) > 40 then (some true) else (some (decide ((l0_1.length : Int) > 60)))) = some r:=h
 clear h
 by_cases c2 : (l0_0.length : Int) > 40
 ·rw [if_pos c2] at H
  have c2b0 : decide (40 < (l0_0.length : Int)) = true:=decide_eq_true c2
  have c2b1 : decide (40 < l0_0.length) = true:=decide_eq_true (by omega)
  clear c2
  obtain rfl:=Option.some.inj H
  go_enter Tryd.func11,Tryd.ntmps11
  go_wp2_with (first|((with_reducible refine gate_dst (N:=1) rfl ?_);(try (refine gate_guard (by rfl) ?_;dsimp only));refine box_event ?hg (N:=1) ?hd (cs:=#[.slice A0_0 l0_0.length c0_0,.slice A0_1 l0_1.length c0_1]) (t:=25) ?hr ?_;(case hd => rfl);(case hg => rfl);(case hr => first|(go_simp;done)|(go_simp;rfl));intro gb101 hg w3 hbox hb;have n0_:=aMx3 (below_step (by repeat (with_reducible first|exact HB.out|apply below_alloc|apply pw_below_drewN|apply below_drew1)) hb);have n1_:=aMx3 (hbox);have n2_:=aMx3 ((by rw [hg];exact (below_size (by repeat (with_reducible first|exact HB.out|apply below_alloc|apply pw_below_drewN|apply below_drew1))) : w.heap.size ≤ gb101));have n3_:=aMx3 ((by rw [hg];exact (below_size (by repeat (with_reducible first|exact HB.out|apply below_alloc|apply pw_below_drewN|apply below_drew1))) : w.heap.size ≤ gb101));clear HB;have HB:=n0_;have BK101:=n1_;have GW101:=n2_;have GE101:=n3_;clear n0_ n1_ n2_ n3_;clear hb hbox hg;have hcz4_0 : w3.cell? ⟨gb101,0,none⟩ = some (.slice A0_0 l0_0.length c0_0):=(blk_cell BK101.out 0).trans rfl;have hcz4_1 : w3.cell? ⟨gb101,1,none⟩ = some (.slice A0_1 l0_1.length c0_1):=(blk_cell BK101.out 1).trans rfl;have hfz4_0:=blk_frozen BK101.out 0;have hfz4_1:=blk_frozen BK101.out 1))
  go_ret
  exact ⟨by first | rfl | (simp [errW_none,errW_some]<;>rfl) | (simp [*,errW_none,errW_some]<;>rfl),by repeat (first | (with_reducible first | exact HB.out | apply below_alloc | apply pw_below_drewN | apply below_drew1 | refine below_set ?_ GE101.out) | exact HB.out)⟩
 ·rw [if_neg c2] at H
  have c2b0 : decide (40 < (l0_0.length : Int)) = false:=decide_eq_false c2
  have c2b1 : decide (40 < l0_0.length) = false:=decide_eq_false (by omega)
  clear c2
  obtain rfl:=Option.some.inj H
  go_enter Tryd.func11,Tryd.ntmps11
  go_wp2_with (first|((with_reducible refine gate_dst (N:=1) rfl ?_);(try (refine gate_guard (by rfl) ?_;dsimp only));refine box_event ?hg (N:=1) ?hd (cs:=#[.slice A0_0 l0_0.length c0_0,.slice A0_1 l0_1.length c0_1]) (t:=25) ?hr ?_;(case hd => rfl);(case hg => rfl);(case hr => first|(go_simp;done)|(go_simp;rfl));intro gb101 hg w5 hbox hb;have n0_:=aMx3 (below_step (by repeat (with_reducible first|exact HB.out|apply below_alloc|apply pw_below_drewN|apply below_drew1)) hb);have n1_:=aMx3 (hbox);have n2_:=aMx3 ((by rw [hg];exact (below_size (by repeat (with_reducible first|exact HB.out|apply below_alloc|apply pw_below_drewN|apply below_drew1))) : w.heap.size ≤ gb101));have n3_:=aMx3 ((by rw [hg];exact (below_size (by repeat (with_reducible first|exact HB.out|apply below_alloc|apply pw_below_drewN|apply below_drew1))) : w.heap.size ≤ gb101));clear HB;have HB:=n0_;have BK101:=n1_;have GW101:=n2_;have GE101:=n3_;clear n0_ n1_ n2_ n3_;clear hb hbox hg;have hcz6_0 : w5.cell? ⟨gb101,0,none⟩ = some (.slice A0_0 l0_0.length c0_0):=(blk_cell BK101.out 0).trans rfl;have hcz6_1 : w5.cell? ⟨gb101,1,none⟩ = some (.slice A0_1 l0_1.length c0_1):=(blk_cell BK101.out 1).trans rfl;have hfz6_0:=blk_frozen BK101.out 0;have hfz6_1:=blk_frozen BK101.out 1))
  go_ret
  exact ⟨by first | rfl | (simp [errW_none,errW_some]<;>rfl) | (simp [*,errW_none,errW_some]<;>rfl),by repeat (first | (with_reducible first | exact HB.out | apply below_alloc | apply pw_below_drewN | apply below_drew1 | refine below_set ?_ GE101.out) | exact HB.out)⟩
def iso_Back.l0 : Nat → List Int → List Int → List Bool → Bool → List Int → Int → Int → Option (List Int × Bool)
  | 0, _, _, _, _, _, _, _ => none
  | k + 1, x0, x4, x5, x6, x15, x16, x17 => if x17 < x16 then (if 0 ≤ x17 then (if x17 < (x15.length : Int) then (if (rd x15 x17) < 0 then (some (([] : List Int), false)) else (if (rd x15 x17) ≥ (x0.length : Int) then (some (([] : List Int), false)) else (if 0 ≤ (rd x15 x17) then (if (rd x15 x17) < (x5.length : Int) then (if rdOf false x5 (rd x15 x17) = true then (some (([] : List Int), false)) else (if (rd x15 x17) < (x4.length : Int) then (iso_Back.l0 k x0 (x4.set ((rd x15 x17) : Int).toNat x17) (x5.set ((rd x15 x17) : Int).toNat true) x6 x15 x16 (wrap64 (x17 + 1))) else (none))) else (none)) else (none)))) else (none)) else (none)) else (if x6 = true then (some (x4, true)) else (some (([] : List Int), false)))
def iso_Back.f (k : Nat) (l0 : List Int) : Option (List Int × Bool) := if 0 ≤ (l0.length : Int) then (if ((l0.length : Int) : Int).toNat ≤ 35184372088832 then (if ((l0.length : Int) : Int).toNat ≤ 281474976710656 then (iso_Back.l0 k l0 (List.replicate ((l0.length : Int) : Int).toNat 0) (List.replicate ((l0.length : Int) : Int).toNat false) true l0 (l0.length : Int) 0) else (none)) else (none)) else (none)
set_option maxHeartbeats 8000000 in
set_option maxRecDepth 100000 in
theorem iso_Back.calls (k : Nat) (A0 : Option Addr) (c0 : Nat) (l0 : List Int) (r1 : List Int) (r2 : Bool) (w : World) (hr0 : Kd.C (Kd.int .i64) w A0 l0.length l0) (hc0 : l0.length ≤ c0) (h : iso_Back.f k l0 = some (r1, r2)) :
  Calls Tryd.prog 18 #[.slice A0 l0.length c0] w fun e w' => ∃ v0_ : Value,e = .returned (.tuple #[v0_,.bool r2]) ∧ Kd.R (Kd.int .i64) 3 w' w.heap.size (fun _ => True) v0_ r1 ∧ Below w.heap.size w w':=by
 have HR0:=aMx3 hr0
 have HC0:=aMx3 hc0
 clear hr0 hc0
 have HB:=aMx3 (Below.refl w.heap.size w)
 have H : (if 0 ≤ (l0.length : Int) then (if ((l0.length : Int) : Int).toNat ≤ 35184372088832 then (if ((l0.length : Int) : Int).toNat ≤ 281474976710656 then (iso_Back.l0 k l0 (List.replicate ((l0.length : Int) : Int).toNat 0) (List.replicate ((l0.length : Int) : Int).toNat false) true l0 (l0.length : Int) 0) else (none)) else (none)) else (none)) = some (r1,r2):=h
 clear h
 by_cases c2 : 0 ≤ (l0.length : Int)
 ·rw [if_pos c2] at H
  have c2b0:=eq_true c2
  have c2b1 : decide (0 ≤ (l0.length : Int)) = true:=decide_eq_true c2
  clear c2
  by_cases c3 : ((l0.length : Int) : Int).toNat ≤ 35184372088832
  ·rw [if_pos c3] at H
   have c3b0:=eq_true c3
   have c3b1 : decide (((l0.length : Int) : Int).toNat ≤ 35184372088832) = true:=decide_eq_true c3
   clear c3
   obtain ⟨y102,hy102⟩ : ∃ y_ : List Int,y_ = (List.replicate ((l0.length : Int) : Int).toNat 0):=⟨_,rfl⟩
   replace H : (if ((l0.length : Int) : Int).toNat ≤ 281474976710656 then (iso_Back.l0 k l0 y102 (List.replicate ((l0.length : Int) : Int).toNat false) true l0 (l0.length : Int) 0) else (none)) = some (r1,r2):=by first | (rw [hy102];with_reducible exact H) | (have H2_:=(Option.bind_some _ _).symm.trans H;rw [hy102];with_reducible exact H2_) | (have H2_:=(Option.bind_some _ _).symm.trans H;with_reducible exact H2_) | with_reducible exact H | (rw [hy102];exact H) | exact H
   have Ny102:=aMx3 hy102
   clear hy102
   by_cases c4 : ((l0.length : Int) : Int).toNat ≤ 281474976710656
   ·rw [if_pos c4] at H
    have c4b0:=eq_true c4
    have c4b1 : decide (((l0.length : Int) : Int).toNat ≤ 281474976710656) = true:=decide_eq_true c4
    clear c4
    obtain ⟨y105,hy105⟩ : ∃ y_ : List Bool,y_ = (List.replicate ((l0.length : Int) : Int).toNat false):=⟨_,rfl⟩
    replace H : (iso_Back.l0 k l0 y102 y105 true l0 (l0.length : Int) 0) = some (r1,r2):=by first | (rw [hy105];with_reducible exact H) | (have H2_:=(Option.bind_some _ _).symm.trans H;rw [hy105];with_reducible exact H2_) | (have H2_:=(Option.bind_some _ _).symm.trans H;with_reducible exact H2_) | with_reducible exact H | (rw [hy105];exact H) | exact H
    have Ny105:=aMx3 hy105
    clear hy105
    have H':=aMx3 H
    clear H
    go_enter Tryd.func18,Tryd.ntmps18
    go_wp2
    apply scope_body
    go_wp2_with (first|((with_reducible refine gate_dst (N:=11) rfl ?_);(try (refine gate_guard (by rfl) ?_;dsimp only));refine Kd.R_make (Kd.int .i64) _ 3 rfl (N:=11) rfl 26 _ _ rfl (l0.length : Int) rfl rfl Tryd.underlying26 (.int .i64 0) 8 info3 rfl (by decide) (by omega) 0 (ok:=fun _ => True) (okp:=fun _ => True) rfl (fun _ hk => hk) trivial (of_decide_eq_true (by first|(with_reducible assumption)|assumption)) (Nat.le_trans (Nat.mul_le_mul_right _ (of_decide_eq_true (by first|(with_reducible assumption)|assumption) : (l0.length : Int).toNat ≤ 35184372088832)) (by omega)) (Below.refl _ _) (Nat.le_refl _) ?_;intro v103 w5 ho6 hb hg_ hnew_;clear hg_ hnew_;(first|rw [← Ny102.out] at ho6|(simp only [Int.reduceToNat] at ho6;rw [← Ny102.out] at ho6));have n0_:=aMx3 (Kd.R_lower ho6 (below_size (by repeat (with_reducible first|exact HB.out|apply below_alloc|apply pw_below_drewN|apply below_drew1))));have n1_:=aMx3 (below_step (by repeat (with_reducible first|exact HB.out|apply below_alloc|apply pw_below_drewN|apply below_drew1)) hb);clear HB;have HO104:=n0_;have HB:=n1_;clear n0_ n1_;clear hb ho6)|((with_reducible refine gate_dst (N:=14) rfl ?_);(try (refine gate_guard (by rfl) ?_;dsimp only));refine Kd.R_make Kd.bool _ 4 rfl (N:=14) rfl 61 _ _ rfl (l0.length : Int) rfl rfl Tryd.underlying61 (.bool false) 1 info4 rfl (by decide) (by omega) false (ok:=fun _ => True) (okp:=fun _ => True) rfl (fun _ hk => hk) trivial (of_decide_eq_true (by first|(with_reducible assumption)|assumption)) (Nat.le_trans (Nat.mul_le_mul_right _ (of_decide_eq_true (by first|(with_reducible assumption)|assumption) : (l0.length : Int).toNat ≤ 281474976710656)) (by omega)) (Below.refl _ _) (Nat.le_refl _) ?_;intro v106 w7 ho8 hb hg_ hnew_;clear hg_ hnew_;(first|rw [← Ny105.out] at ho8|(simp only [Int.reduceToNat] at ho8;rw [← Ny105.out] at ho8));have n0_:=aMx3 (Kd.R_below (by (with_reducible repeat (first|apply Kd.R_alloc|apply Kd.R_drewN|apply Kd.R_drew));exact HO104.out) hb);have n1_:=aMx3 (Kd.R_lower ho8 (below_size (by repeat (with_reducible first|exact HB.out|apply below_alloc|apply pw_below_drewN|apply below_drew1))));have n2_:=aMx3 (below_step (by repeat (with_reducible first|exact HB.out|apply below_alloc|apply pw_below_drewN|apply below_drew1)) hb);clear HO104;clear HB;have HO104:=n0_;have HO107:=n1_;have HB:=n2_;clear n0_ n1_ n2_;clear hb ho8))
    (try go_step3)
    (try go_wp2)
    go_loopg [6,17] k (fun kq v6 v17 w' => ∃ (x4_1 : List Int) (x5_1 : List Bool) (x6_1 : Bool) (x17_1 : Int),v6 = .bool x6_1 ∧ v17 = .int .i64 x17_1 ∧ Aside0 (iso_Back.l0 kq l0 x4_1 x5_1 x6_1 l0 (l0.length : Int) x17_1 = some (r1,r2)) ∧ Aside0 (kq ≤ k) ∧ Aside0 (Kd.R (Kd.int .i64) 3 w' w.heap.size (fun _ => True) v103 x4_1) ∧ Aside0 (Kd.R Kd.bool 4 w' w.heap.size (fun _ => True) v106 x5_1) ∧ Aside0 (Below w.heap.size w w'))
    case atStart => exact ⟨(y102),(y105),(true),(0),(by first | rfl | (simp;done) | (simp [*];done) | (simp [wrap64];done)),(by first | rfl | (simp;done) | (simp [*];done) | (simp [wrap64];done)),H',⟨Nat.le_refl _⟩,⟨by (with_reducible repeat (first | apply Kd.R_alloc | apply Kd.R_drewN | apply Kd.R_drew));exact HO104.out⟩,⟨by (with_reducible repeat (first | apply Kd.R_alloc | apply Kd.R_drewN | apply Kd.R_drew));exact HO107.out⟩,⟨by repeat (first | (with_reducible first | exact HB.out | apply below_alloc | apply pw_below_drewN | apply below_drew1) | exact HB.out)⟩⟩
    case round =>
     clear H'
     (try clear c1);(try clear c2);(try clear c2b0);(try clear c2b1);(try clear p2);(try clear c3);(try clear c3b0);(try clear c3b1);(try clear c4);(try clear c4b0);(try clear c4b1)
     obtain ⟨x4_1,x5_1,x6_1,x17_1,rfl,rfl,HA,HK1,HO_4,HO_5,HB⟩:=hrel
     cases gk with
     | zero => exact absurd HA.out (by simp [iso_Back.l0])
     | succ k1 =>
      have H:=HA.out
      clear HA
      simp only [iso_Back.l0] at H
      by_cases c9 : x17_1 < (l0.length : Int)
      ·rw [if_pos c9] at H
       have c9b0 : decide (x17_1 < (l0.length : Int)) = true:=decide_eq_true c9
       clear c9
       by_cases c10 : 0 ≤ x17_1
       ·rw [if_pos c10] at H
        have c10b0 : decide (0 ≤ x17_1) = true:=decide_eq_true c10
        clear c10
        by_cases c11 : x17_1 < (l0.length : Int)
        ·rw [if_pos c11] at H
         have c11b0 : decide (x17_1 < (l0.length : Int)) = true:=decide_eq_true c11
         clear c11
         by_cases c12 : (rd l0 x17_1) < 0
         ·rw [if_pos c12] at H
          have c12b0 : decide ((rd l0 x17_1) < 0) = true:=decide_eq_true c12
          clear c12
          simp only [Option.some.injEq,Prod.mk.injEq] at H
          obtain ⟨rfl,rfl⟩:=H
          have p108 : 0 ≤ (x17_1 : Int):=of_decide_eq_true (by first | (with_reducible assumption) | assumption)
          have q108 : x17_1 < (l0.length : Int):=of_decide_eq_true (by first | (with_reducible assumption) | assumption)
          obtain ⟨ad108,e108,hx108_0⟩:=Kd.at_int HR0.out x17_1 p108 q108
          cases e108
          replace hx108_0:=(HB.out.cell (World.block_lt_of_cell? w _ hx108_0)).trans hx108_0
          replace p108:=eq_true p108
          replace q108:=eq_true q108
          (go_wp2;all_goals (repeat (go_step3;go_wp2)))
          go_ret2
          exact ⟨_,by first | rfl | (simp [errW_none,errW_some]<;>rfl) | (simp [*,errW_none,errW_some]<;>rfl),by first | exact Kd.R_nil _ _ _ _ _ | exact Kd.N_nil _ _ _ _ _ | exact Kd.V_nil _ _ _ _ _ | exact Kd.Q_nil _ _ _ _ _ | exact Kd.S_nil _ _ _ _ _,by repeat (first | (with_reducible first | exact HB.out | apply below_alloc | apply pw_below_drewN | apply below_drew1) | exact HB.out)⟩
         ·rw [if_neg c12] at H
          have c12b0 : decide ((rd l0 x17_1) < 0) = false:=decide_eq_false c12
          clear c12
          by_cases c13 : (rd l0 x17_1) ≥ (l0.length : Int)
          ·rw [if_pos c13] at H
           have c13b0 : decide ((l0.length : Int) ≤ (rd l0 x17_1)) = true:=decide_eq_true c13
           clear c13
           simp only [Option.some.injEq,Prod.mk.injEq] at H
           obtain ⟨rfl,rfl⟩:=H
           have p108 : 0 ≤ (x17_1 : Int):=of_decide_eq_true (by first | (with_reducible assumption) | assumption)
           have q108 : x17_1 < (l0.length : Int):=of_decide_eq_true (by first | (with_reducible assumption) | assumption)
           obtain ⟨ad108,e108,hx108_0⟩:=Kd.at_int HR0.out x17_1 p108 q108
           cases e108
           replace hx108_0:=(HB.out.cell (World.block_lt_of_cell? w _ hx108_0)).trans hx108_0
           replace p108:=eq_true p108
           replace q108:=eq_true q108
           (go_wp2;all_goals (repeat (go_step3;go_wp2)))
           go_ret2
           exact ⟨_,by first | rfl | (simp [errW_none,errW_some]<;>rfl) | (simp [*,errW_none,errW_some]<;>rfl),by first | exact Kd.R_nil _ _ _ _ _ | exact Kd.N_nil _ _ _ _ _ | exact Kd.V_nil _ _ _ _ _ | exact Kd.Q_nil _ _ _ _ _ | exact Kd.S_nil _ _ _ _ _,by repeat (first | (with_reducible first | exact HB.out | apply below_alloc | apply pw_below_drewN | apply below_drew1) | exact HB.out)⟩
          ·rw [if_neg c13] at H
           have c13b0 : decide ((l0.length : Int) ≤ (rd l0 x17_1)) = false:=decide_eq_false c13
           clear c13
           by_cases c14 : 0 ≤ (rd l0 x17_1)
           ·rw [if_pos c14] at H
            have c14b0 : decide (0 ≤ (rd l0 x17_1)) = true:=decide_eq_true c14
            clear c14
            by_cases c15 : (rd l0 x17_1) < (x5_1.length : Int)
            ·rw [if_pos c15] at H
             have c15b0 : decide ((rd l0 x17_1) < (x5_1.length : Int)) = true:=decide_eq_true c15
             clear c15
             obtain ⟨bq16,hbq16⟩ : ∃ b_ : Bool,b_ = (rdOf false x5_1 (rd l0 x17_1)):=⟨_,rfl⟩
             replace H : (if bq16 = true then (some (([] : List Int),false)) else (if (rd l0 x17_1) < (x4_1.length : Int) then (iso_Back.l0 k1 l0 (x4_1.set ((rd l0 x17_1) : Int).toNat x17_1) (x5_1.set ((rd l0 x17_1) : Int).toNat true) x6_1 l0 (l0.length : Int) (wrap64 (x17_1+1))) else (none))) = some (r1,r2):=by rw [← hbq16] at H;exact H
             have Nbq16:=aMx3 hbq16
             clear hbq16
             by_cases c17 : bq16 = true
             ·subst c17
              have H1 : (some (([] : List Int),false)) = some (r1,r2):=by rw [if_pos rfl] at H;exact H
              clear H
              have H:=H1
              clear H1
              simp only [Option.some.injEq,Prod.mk.injEq] at H
              obtain ⟨rfl,rfl⟩:=H
              have p108 : 0 ≤ (x17_1 : Int):=of_decide_eq_true (by first | (with_reducible assumption) | assumption)
              have q108 : x17_1 < (l0.length : Int):=of_decide_eq_true (by first | (with_reducible assumption) | assumption)
              obtain ⟨ad108,e108,hx108_0⟩:=Kd.at_int HR0.out x17_1 p108 q108
              cases e108
              replace hx108_0:=(HB.out.cell (World.block_lt_of_cell? w _ hx108_0)).trans hx108_0
              replace p108:=eq_true p108
              replace q108:=eq_true q108
              obtain ⟨Ao18,co18,eo18⟩:=Kd.R_slice HO_5.out
              subst eo18
              have p109 : 0 ≤ ((rd l0 x17_1) : Int):=of_decide_eq_true (by first | (with_reducible assumption) | assumption)
              have q109 : (rd l0 x17_1) < (x5_1.length : Int):=of_decide_eq_true (by first | (with_reducible assumption) | assumption)
              obtain ⟨ad109,e109,hx109_0⟩:=Kd.at_bool (Kd.R_reads' HO_5.out).2.2 (rd l0 x17_1) p109 q109
              (try rw [← Nbq16.out] at hx109_0)
              cases e109
              replace p109:=eq_true p109
              replace q109:=eq_true q109
              (go_wp2;all_goals (repeat (go_step3;go_wp2)))
              go_ret2
              exact ⟨_,by first | rfl | (simp [errW_none,errW_some]<;>rfl) | (simp [*,errW_none,errW_some]<;>rfl),by first | exact Kd.R_nil _ _ _ _ _ | exact Kd.N_nil _ _ _ _ _ | exact Kd.V_nil _ _ _ _ _ | exact Kd.Q_nil _ _ _ _ _ | exact Kd.S_nil _ _ _ _ _,by repeat (first | (with_reducible first | exact HB.out | apply below_alloc | apply pw_below_drewN | apply below_drew1) | exact HB.out)⟩
             ·replace c17:=Bool.eq_false_iff.mpr c17
              subst c17
              have H1 : (if (rd l0 x17_1) < (x4_1.length : Int) then (iso_Back.l0 k1 l0 (x4_1.set ((rd l0 x17_1) : Int).toNat x17_1) (x5_1.set ((rd l0 x17_1) : Int).toNat true) x6_1 l0 (l0.length : Int) (wrap64 (x17_1+1))) else (none)) = some (r1,r2):=by rw [if_neg (show ¬ (false = true) by decide)] at H;exact H
              clear H
              have H:=H1
              clear H1
              obtain ⟨y110,hy110⟩ : ∃ y_ : List Bool,y_ = (x5_1.set ((rd l0 x17_1) : Int).toNat true):=⟨_,rfl⟩
              replace H : (if (rd l0 x17_1) < (x4_1.length : Int) then (iso_Back.l0 k1 l0 (x4_1.set ((rd l0 x17_1) : Int).toNat x17_1) y110 x6_1 l0 (l0.length : Int) (wrap64 (x17_1+1))) else (none)) = some (r1,r2):=by first | (rw [hy110];with_reducible exact H) | (have H2_:=(Option.bind_some _ _).symm.trans H;rw [hy110];with_reducible exact H2_) | (have H2_:=(Option.bind_some _ _).symm.trans H;with_reducible exact H2_) | with_reducible exact H | (rw [hy110];exact H) | exact H
              have Ny110:=aMx3 hy110
              clear hy110
              by_cases c20 : (rd l0 x17_1) < (x4_1.length : Int)
              ·rw [if_pos c20] at H
               have c20b0 : decide ((rd l0 x17_1) < (x4_1.length : Int)) = true:=decide_eq_true c20
               clear c20
               obtain ⟨y111,hy111⟩ : ∃ y_ : List Int,y_ = (x4_1.set ((rd l0 x17_1) : Int).toNat x17_1):=⟨_,rfl⟩
               replace H : (iso_Back.l0 k1 l0 y111 y110 x6_1 l0 (l0.length : Int) (wrap64 (x17_1+1))) = some (r1,r2):=by first | (rw [hy111];with_reducible exact H) | (have H2_:=(Option.bind_some _ _).symm.trans H;rw [hy111];with_reducible exact H2_) | (have H2_:=(Option.bind_some _ _).symm.trans H;with_reducible exact H2_) | with_reducible exact H | (rw [hy111];exact H) | exact H
               have Ny111:=aMx3 hy111
               clear hy111
               have H':=aMx3 H
               clear H
               have p108 : 0 ≤ (x17_1 : Int):=of_decide_eq_true (by first | (with_reducible assumption) | assumption)
               have q108 : x17_1 < (l0.length : Int):=of_decide_eq_true (by first | (with_reducible assumption) | assumption)
               obtain ⟨ad108,e108,hx108_0⟩:=Kd.at_int HR0.out x17_1 p108 q108
               cases e108
               replace hx108_0:=(HB.out.cell (World.block_lt_of_cell? w _ hx108_0)).trans hx108_0
               replace p108:=eq_true p108
               replace q108:=eq_true q108
               obtain ⟨Ao22,co22,eo22⟩:=Kd.R_slice HO_5.out
               subst eo22
               have p109 : 0 ≤ ((rd l0 x17_1) : Int):=of_decide_eq_true (by first | (with_reducible assumption) | assumption)
               have q109 : (rd l0 x17_1) < (x5_1.length : Int):=of_decide_eq_true (by first | (with_reducible assumption) | assumption)
               obtain ⟨ad109,e109,hx109_0⟩:=Kd.at_bool (Kd.R_reads' HO_5.out).2.2 (rd l0 x17_1) p109 q109
               (try rw [← Nbq16.out] at hx109_0)
               cases e109
               replace p109:=eq_true p109
               replace q109:=eq_true q109
               have p19 : 0 ≤ ((rd l0 x17_1) : Int):=of_decide_eq_true (by first | (with_reducible assumption) | assumption)
               have q19 : ((rd l0 x17_1) : Int) < ((x5_1.length : Int) : Int):=of_decide_eq_true (by first | (with_reducible assumption) | assumption)
               obtain ⟨go19,co19,eo19,gb19,gl19,cl19,HG19⟩:=Kd.R_form HO_5.out (by omega)
               (first | cases eo19 | (injection eo19 with ea_ en_ ec_;(first | subst ea_ | (injection ea_ with ea_;subst ea_));subst ec_;clear en_))
               have GB19:=aMx3 gb19
               have GG19:=aMx3 HG19
               clear gb19 gl19 HG19
               (first | simp only [add_plain] at hx109_0 | skip)
               obtain ⟨hx19_0,hf19_0⟩:=Kd.R_celln false HO_5.out ((rd l0 x17_1) : Int) p19 q19
               replace p19:=eq_true p19
               replace q19:=eq_true q19
               have HP23:=Kd.R_putg HO_5.out ((rd l0 x17_1) : Int) true
               go_wp2_with (first|((with_reducible refine gate_store (t:=4) (p:=41) rfl ?_);refine store_event (t:=4) (p:=41) (v:=?vo_w24) (w1:=(wr.setCell ⟨go19,((rd l0 x17_1) : Int).toNat,none⟩ (.bool true))) ?hg ?ho ?hn ?hr ?_;(case ho => rfl);(case hg => rfl);(case hn => rfl);(case hr => first|(go_simp;done)|(go_simp;rfl));intro w24 hw;have hg : wr.grownBy w24 (some go19):=(by rw [hw];exact HP23.2);have hp_ : Kd.R Kd.bool 4 w24 w.heap.size (fun _ => True) (.slice (some ⟨go19,0,none⟩) x5_1.length co22) y110:=(by rw [hw,Ny110.out];exact HP23.1);clear HP23;have n0_:=aMx3 (Kd.R_over' (v:=(.slice (some ⟨go19,0,none⟩) x5_1.length co22)) (by (with_reducible repeat (first|apply Kd.R_alloc|apply Kd.R_drewN|apply Kd.R_drew));exact HO_4.out) (Kd.R_typed HO_5.out) (by decide) hg);have n1_:=aMx3 (hp_);have n2_:=aMx3 ((by rw [hw];exact below_set (HB.out) GB19.out : Below w.heap.size w w24));clear HO_4;clear HO_5;clear HB;have HO_4:=n0_;have HO_5:=n1_;have HB:=n2_;clear n0_ n1_ n2_;clear hg hw hp_;have p21 : 0 ≤ ((rd l0 x17_1) : Int):=of_decide_eq_true (by first|(with_reducible assumption)|assumption);have q21 : ((rd l0 x17_1) : Int) < ((x4_1.length : Int) : Int):=of_decide_eq_true (by first|(with_reducible assumption)|assumption);obtain ⟨go21,co21,eo21,gb21,gl21,cl21,HG21⟩:=Kd.R_form HO_4.out (by omega);(first|cases eo21|(injection eo21 with ea_ en_ ec_;(first|subst ea_|(injection ea_ with ea_;subst ea_));subst ec_;clear en_));have GB21:=aMx3 gb21;have GG21:=aMx3 HG21;clear gb21 gl21 HG21;obtain ⟨hx21_0,hf21_0⟩:=Kd.R_celln 0 HO_4.out ((rd l0 x17_1) : Int) p21 q21;replace p21:=eq_true p21;replace q21:=eq_true q21;obtain ⟨hy25_,hz25_⟩:=Kd.R_celln 0 HO_4.out ((rd l0 x17_1) : Int) (of_decide_eq_true (by first|(with_reducible assumption)|assumption)) (of_decide_eq_true (by first|(with_reducible assumption)|assumption));have HP25:=Kd.R_putg HO_4.out ((rd l0 x17_1) : Int) x17_1)|((with_reducible refine gate_store (t:=3) (p:=42) rfl ?_);refine store_event (t:=3) (p:=42) (v:=?vo_w26) (w1:=(w24.setCell ⟨go21,((rd l0 x17_1) : Int).toNat,none⟩ (.int .i64 x17_1))) ?hg ?ho ?hn ?hr ?_;(case ho => rfl);(case hg => rfl);(case hn => rfl);(case hr => first|(go_simp;done)|(go_simp;rfl));intro w26 hw;have hg : w24.grownBy w26 (some go21):=(by rw [hw];exact HP25.2);have hp_ : Kd.R (Kd.int .i64) 3 w26 w.heap.size (fun _ => True) (.slice (some ⟨go21,0,none⟩) x4_1.length co21) y111:=(by rw [hw,Ny111.out];exact HP25.1);clear HP25;have n0_:=aMx3 (hp_);have n1_:=aMx3 (Kd.R_over' (v:=(.slice (some ⟨go21,0,none⟩) x4_1.length co21)) (by (with_reducible repeat (first|apply Kd.R_alloc|apply Kd.R_drewN|apply Kd.R_drew));exact HO_5.out) (Kd.R_typed HO_4.out) (by decide) hg);have n2_:=aMx3 ((by rw [hw];exact below_set (HB.out) GB21.out : Below w.heap.size w w26));clear HO_4;clear HO_5;clear HB;have HO_4:=n0_;have HO_5:=n1_;have HB:=n2_;clear n0_ n1_ n2_;clear hg hw hp_))
               go_roundg k1
               case measure => have:=HK1.out;omega
               case rel => exact ⟨(y111),(y110),(x6_1),(wrap64 (x17_1+1)),(by first | rfl | (simp;done) | (simp [*];done) | (simp [wrap64];done)),(by first | rfl | (simp;done) | (simp [*];done) | (simp [wrap64];done)),H',⟨by have:=HK1.out;omega⟩,⟨by (with_reducible repeat (first | apply Kd.R_alloc | apply Kd.R_drewN | apply Kd.R_drew));exact HO_4.out⟩,⟨by (with_reducible repeat (first | apply Kd.R_alloc | apply Kd.R_drewN | apply Kd.R_drew));exact HO_5.out⟩,⟨by repeat (first | (with_reducible first | exact HB.out | apply below_alloc | apply pw_below_drewN | apply below_drew1) | exact HB.out)⟩⟩
              ·rw [if_neg c20] at H
               exact absurd H (by simp)
            ·rw [if_neg c15] at H
             exact absurd H (by simp)
           ·rw [if_neg c14] at H
            exact absurd H (by simp)
        ·rw [if_neg c11] at H
         exact absurd H (by simp)
       ·rw [if_neg c10] at H
        exact absurd H (by simp)
      ·rw [if_neg c9] at H
       have c9b0 : decide (x17_1 < (l0.length : Int)) = false:=decide_eq_false c9
       clear c9
       by_cases c27 : x6_1 = true
       ·subst c27
        have H1 : (some (x4_1,true)) = some (r1,r2):=by rw [if_pos rfl] at H;exact H
        clear H
        have H:=H1
        clear H1
        simp only [Option.some.injEq,Prod.mk.injEq] at H
        obtain ⟨rfl,rfl⟩:=H
        (go_wp2;all_goals (repeat (go_step3;go_wp2)))
        go_ret2
        exact ⟨_,by first | rfl | (simp [errW_none,errW_some]<;>rfl) | (simp [*,errW_none,errW_some]<;>rfl),by (with_reducible repeat (first | apply Kd.R_alloc | apply Kd.R_drewN | apply Kd.R_drew));exact HO_4.out,by repeat (first | (with_reducible first | exact HB.out | apply below_alloc | apply pw_below_drewN | apply below_drew1) | exact HB.out)⟩
       ·replace c27:=Bool.eq_false_iff.mpr c27
        subst c27
        have H1 : (some (([] : List Int),false)) = some (r1,r2):=by rw [if_neg (show ¬ (false = true) by decide)] at H;exact H
        clear H
        have H:=H1
        clear H1
        simp only [Option.some.injEq,Prod.mk.injEq] at H
        obtain ⟨rfl,rfl⟩:=H
        (go_wp2;all_goals (repeat (go_step3;go_wp2)))
        go_ret2
        exact ⟨_,by first | rfl | (simp [errW_none,errW_some]<;>rfl) | (simp [*,errW_none,errW_some]<;>rfl),by first | exact Kd.R_nil _ _ _ _ _ | exact Kd.N_nil _ _ _ _ _ | exact Kd.V_nil _ _ _ _ _ | exact Kd.Q_nil _ _ _ _ _ | exact Kd.S_nil _ _ _ _ _,by repeat (first | (with_reducible first | exact HB.out | apply below_alloc | apply pw_below_drewN | apply below_drew1) | exact HB.out)⟩
   ·rw [if_neg c4] at H
    exact absurd H (by simp)
  ·rw [if_neg c3] at H
   exact absurd H (by simp)
 ·rw [if_neg c2] at H
  exact absurd H (by simp)
def mesh_coord.f (a0 : Int) : Option (Bool) := if a0 ≥ (-2147483648) then (some (decide (a0 ≤ 2147483647))) else (some false)
set_option maxHeartbeats 8000000 in
set_option maxRecDepth 100000 in
theorem mesh_coord.calls (a0 : Int) (r : Bool) (w : World) (h : mesh_coord.f a0 = some r) :
  Calls Tryd.prog 49 #[.int .i64 a0] w fun e w' => e = .returned (.bool r) ∧ Drawn0 w w':=by
 have H : (if a0 ≥ (-2147483648) then (some (decide (a0 ≤ 2147483647))) else (some false)) = some r:=h
 clear h
 by_cases c2 : a0 ≥ (-2147483648)
 ·rw [if_pos c2] at H
  have c2b0 : decide ((-2147483648) ≤ a0) = true:=decide_eq_true c2
  clear c2
  obtain rfl:=Option.some.inj H
  go_enter Tryd.func49,Tryd.ntmps49
  go_wp2
  go_ret
  exact ⟨by first | rfl | (simp;done) | (simp [*];done) | (simp [wrap64];done),by repeat (first | exact Drawn0.refl _ | apply Drawn0.step)⟩
 ·rw [if_neg c2] at H
  have c2b0 : decide ((-2147483648) ≤ a0) = false:=decide_eq_false c2
  clear c2
  obtain rfl:=Option.some.inj H
  go_enter Tryd.func49,Tryd.ntmps49
  go_wp2
  go_ret
  exact ⟨by first | rfl | (simp;done) | (simp [*];done) | (simp [wrap64];done),by repeat (first | exact Drawn0.refl _ | apply Drawn0.step)⟩
end Go.Proofs.YtbdpfmpbooikiaaDoor.PIsr
