import Derived.Test.YtomknjmgcbbjlaaDoorPWlkx0
namespace Go.Proofs.YtomknjmgcbbjlaaDoor.PWlk
open Go Go.RowKit Go.Proofs.YtomknjmgcbbjlaaDoorW.PrintWords Go.Proofs.YtomknjmgcbbjlaaDoorW.PrintLast Go.Proofs.YtomknjmgcbbjlaaDoorW.PrintMore
attribute [local go_sem] max2_int min2_int max_two min_two max_three min_three max_four min_four
set_option linter.unusedVariables false
set_option maxRecDepth 100000
set_option linter.unusedSimpArgs false
attribute [local go_sem] idx47_0_0 idx47_1_0 idx47_2_0 idx107_0_0 idx107_1_0
theorem aMx7 {p : Prop} (h : p) : Aside0 p := ⟨h⟩
mutual
def lapidaryref10_joined.l0 : Nat → Int → Int → Int → Int → Int → Int → Int → Int → Option (Bool)
  | 0, _, _, _, _, _, _, _, _ => none
  | k + 1, x2, x7, x153000, x153001, x153002, x154000, x154001, x154002 => if x7 < 3 then (lapidaryref10_joined.l1 k x2 x7 0 x153000 x153001 x153002 x154000 x154001 x154002) else (some false)
def lapidaryref10_joined.l1 : Nat → Int → Int → Int → Int → Int → Int → Int → Int → Int → Option (Bool)
  | 0, _, _, _, _, _, _, _, _, _ => none
  | k + 1, x2, x7, x8, x153000, x153001, x153002, x154000, x154001, x154002 => if x8 < 3 then (if x7 = 0 then (if x153000 = x2 then (if x8 = 0 then (if x154000 = x153001 then (if x154001 = x153000 then (some true) else (lapidaryref10_joined.l1 k x2 x7 (wrap64 (x8 + 1)) x153000 x153001 x153002 x154000 x154001 x154002)) else (lapidaryref10_joined.l1 k x2 x7 (wrap64 (x8 + 1)) x153000 x153001 x153002 x154000 x154001 x154002)) else (if x8 = 1 then (if x154001 = x153001 then (if x154002 = x153000 then (some true) else (lapidaryref10_joined.l1 k x2 x7 (wrap64 (x8 + 1)) x153000 x153001 x153002 x154000 x154001 x154002)) else (lapidaryref10_joined.l1 k x2 x7 (wrap64 (x8 + 1)) x153000 x153001 x153002 x154000 x154001 x154002)) else (if x8 = 2 then (if x154002 = x153001 then (if x154000 = x153000 then (some true) else (lapidaryref10_joined.l1 k x2 x7 (wrap64 (x8 + 1)) x153000 x153001 x153002 x154000 x154001 x154002)) else (lapidaryref10_joined.l1 k x2 x7 (wrap64 (x8 + 1)) x153000 x153001 x153002 x154000 x154001 x154002)) else (none)))) else (if x153001 = x2 then (if x8 = 0 then (if x154000 = x153001 then (if x154001 = x153000 then (some true) else (lapidaryref10_joined.l1 k x2 x7 (wrap64 (x8 + 1)) x153000 x153001 x153002 x154000 x154001 x154002)) else (lapidaryref10_joined.l1 k x2 x7 (wrap64 (x8 + 1)) x153000 x153001 x153002 x154000 x154001 x154002)) else (if x8 = 1 then (if x154001 = x153001 then (if x154002 = x153000 then (some true) else (lapidaryref10_joined.l1 k x2 x7 (wrap64 (x8 + 1)) x153000 x153001 x153002 x154000 x154001 x154002)) else (lapidaryref10_joined.l1 k x2 x7 (wrap64 (x8 + 1)) x153000 x153001 x153002 x154000 x154001 x154002)) else (if x8 = 2 then (if x154002 = x153001 then (if x154000 = x153000 then (some true) else (lapidaryref10_joined.l1 k x2 x7 (wrap64 (x8 + 1)) x153000 x153001 x153002 x154000 x154001 x154002)) else (lapidaryref10_joined.l1 k x2 x7 (wrap64 (x8 + 1)) x153000 x153001 x153002 x154000 x154001 x154002)) else (none)))) else (lapidaryref10_joined.l1 k x2 x7 (wrap64 (x8 + 1)) x153000 x153001 x153002 x154000 x154001 x154002))) else (if x7 = 1 then (if x153001 = x2 then (if x8 = 0 then (if x154000 = x153002 then (if x154001 = x153001 then (some true) else (lapidaryref10_joined.l1 k x2 x7 (wrap64 (x8 + 1)) x153000 x153001 x153002 x154000 x154001 x154002)) else (lapidaryref10_joined.l1 k x2 x7 (wrap64 (x8 + 1)) x153000 x153001 x153002 x154000 x154001 x154002)) else (if x8 = 1 then (if x154001 = x153002 then (if x154002 = x153001 then (some true) else (lapidaryref10_joined.l1 k x2 x7 (wrap64 (x8 + 1)) x153000 x153001 x153002 x154000 x154001 x154002)) else (lapidaryref10_joined.l1 k x2 x7 (wrap64 (x8 + 1)) x153000 x153001 x153002 x154000 x154001 x154002)) else (if x8 = 2 then (if x154002 = x153002 then (if x154000 = x153001 then (some true) else (lapidaryref10_joined.l1 k x2 x7 (wrap64 (x8 + 1)) x153000 x153001 x153002 x154000 x154001 x154002)) else (lapidaryref10_joined.l1 k x2 x7 (wrap64 (x8 + 1)) x153000 x153001 x153002 x154000 x154001 x154002)) else (none)))) else (if x153002 = x2 then (if x8 = 0 then (if x154000 = x153002 then (if x154001 = x153001 then (some true) else (lapidaryref10_joined.l1 k x2 x7 (wrap64 (x8 + 1)) x153000 x153001 x153002 x154000 x154001 x154002)) else (lapidaryref10_joined.l1 k x2 x7 (wrap64 (x8 + 1)) x153000 x153001 x153002 x154000 x154001 x154002)) else (if x8 = 1 then (if x154001 = x153002 then (if x154002 = x153001 then (some true) else (lapidaryref10_joined.l1 k x2 x7 (wrap64 (x8 + 1)) x153000 x153001 x153002 x154000 x154001 x154002)) else (lapidaryref10_joined.l1 k x2 x7 (wrap64 (x8 + 1)) x153000 x153001 x153002 x154000 x154001 x154002)) else (if x8 = 2 then (if x154002 = x153002 then (if x154000 = x153001 then (some true) else (lapidaryref10_joined.l1 k x2 x7 (wrap64 (x8 + 1)) x153000 x153001 x153002 x154000 x154001 x154002)) else (lapidaryref10_joined.l1 k x2 x7 (wrap64 (x8 + 1)) x153000 x153001 x153002 x154000 x154001 x154002)) else (none)))) else (lapidaryref10_joined.l1 k x2 x7 (wrap64 (x8 + 1)) x153000 x153001 x153002 x154000 x154001 x154002))) else (if x7 = 2 then (if x153002 = x2 then (if x8 = 0 then (if x154000 = x153000 then (if x154001 = x153002 then (some true) else (lapidaryref10_joined.l1 k x2 x7 (wrap64 (x8 + 1)) x153000 x153001 x153002 x154000 x154001 x154002)) else (lapidaryref10_joined.l1 k x2 x7 (wrap64 (x8 + 1)) x153000 x153001 x153002 x154000 x154001 x154002)) else (if x8 = 1 then (if x154001 = x153000 then (if x154002 = x153002 then (some true) else (lapidaryref10_joined.l1 k x2 x7 (wrap64 (x8 + 1)) x153000 x153001 x153002 x154000 x154001 x154002)) else (lapidaryref10_joined.l1 k x2 x7 (wrap64 (x8 + 1)) x153000 x153001 x153002 x154000 x154001 x154002)) else (if x8 = 2 then (if x154002 = x153000 then (if x154000 = x153002 then (some true) else (lapidaryref10_joined.l1 k x2 x7 (wrap64 (x8 + 1)) x153000 x153001 x153002 x154000 x154001 x154002)) else (lapidaryref10_joined.l1 k x2 x7 (wrap64 (x8 + 1)) x153000 x153001 x153002 x154000 x154001 x154002)) else (none)))) else (if x153000 = x2 then (if x8 = 0 then (if x154000 = x153000 then (if x154001 = x153002 then (some true) else (lapidaryref10_joined.l1 k x2 x7 (wrap64 (x8 + 1)) x153000 x153001 x153002 x154000 x154001 x154002)) else (lapidaryref10_joined.l1 k x2 x7 (wrap64 (x8 + 1)) x153000 x153001 x153002 x154000 x154001 x154002)) else (if x8 = 1 then (if x154001 = x153000 then (if x154002 = x153002 then (some true) else (lapidaryref10_joined.l1 k x2 x7 (wrap64 (x8 + 1)) x153000 x153001 x153002 x154000 x154001 x154002)) else (lapidaryref10_joined.l1 k x2 x7 (wrap64 (x8 + 1)) x153000 x153001 x153002 x154000 x154001 x154002)) else (if x8 = 2 then (if x154002 = x153000 then (if x154000 = x153002 then (some true) else (lapidaryref10_joined.l1 k x2 x7 (wrap64 (x8 + 1)) x153000 x153001 x153002 x154000 x154001 x154002)) else (lapidaryref10_joined.l1 k x2 x7 (wrap64 (x8 + 1)) x153000 x153001 x153002 x154000 x154001 x154002)) else (none)))) else (lapidaryref10_joined.l1 k x2 x7 (wrap64 (x8 + 1)) x153000 x153001 x153002 x154000 x154001 x154002))) else (none)))) else (lapidaryref10_joined.l0 k x2 (wrap64 (x7 + 1)) x153000 x153001 x153002 x154000 x154001 x154002)
end
def lapidaryref10_joined.f (k : Nat) (a0_0 : Int) (a0_1 : Int) (a0_2 : Int) (a1_0 : Int) (a1_1 : Int) (a1_2 : Int) (a2 : Int) : Option (Bool) := lapidaryref10_joined.l0 k a2 0 a0_0 a0_1 a0_2 a1_0 a1_1 a1_2
theorem lapidaryref10_joined.mono_l : ∀ k, (∀ y0 y1 y2 y3 y4 y5 y6 y7, LeO (lapidaryref10_joined.l0 k y0 y1 y2 y3 y4 y5 y6 y7) (lapidaryref10_joined.l0 (k + 1) y0 y1 y2 y3 y4 y5 y6 y7)) ∧ (∀ y0 y1 y2 y3 y4 y5 y6 y7 y8, LeO (lapidaryref10_joined.l1 k y0 y1 y2 y3 y4 y5 y6 y7 y8) (lapidaryref10_joined.l1 (k + 1) y0 y1 y2 y3 y4 y5 y6 y7 y8))
  | 0 => ⟨fun _ _ _ _ _ _ _ _ r h => by simp [lapidaryref10_joined.l0] at h, fun _ _ _ _ _ _ _ _ _ r h => by simp [lapidaryref10_joined.l1] at h⟩
  | k + 1 => by
    obtain ⟨ih0, ih1⟩ := lapidaryref10_joined.mono_l k
    refine ⟨?_, ?_⟩
    · intro y0 y1 y2 y3 y4 y5 y6 y7
      unfold lapidaryref10_joined.l0
      repeat' first
      | (with_reducible exact ih0 _ _ _ _ _ _ _ _)
      | (with_reducible exact ih1 _ _ _ _ _ _ _ _ _)
      | (with_reducible exact LeO.refl _)
      | (with_reducible exact LeO.none _)
      | (with_reducible refine LeO.ite ?_ ?_)
      | (with_reducible refine LeO.bind ?_ (fun _ => ?_))
      | exact ih0 _ _ _ _ _ _ _ _
      | exact ih1 _ _ _ _ _ _ _ _ _
      | exact LeO.none _
      | refine LeO.ite ?_ ?_
      | refine LeO.bind ?_ (fun _ => ?_)
    · intro y0 y1 y2 y3 y4 y5 y6 y7 y8
      unfold lapidaryref10_joined.l1
      repeat' first
      | (with_reducible exact ih0 _ _ _ _ _ _ _ _)
      | (with_reducible exact ih1 _ _ _ _ _ _ _ _ _)
      | (with_reducible exact LeO.refl _)
      | (with_reducible exact LeO.none _)
      | (with_reducible refine LeO.ite ?_ ?_)
      | (with_reducible refine LeO.bind ?_ (fun _ => ?_))
      | exact ih0 _ _ _ _ _ _ _ _
      | exact ih1 _ _ _ _ _ _ _ _ _
      | exact LeO.none _
      | refine LeO.ite ?_ ?_
      | refine LeO.bind ?_ (fun _ => ?_)
theorem lapidaryref10_joined.mono : ∀ a0 a1 a2 a3 a4 a5 a6 k, LeO (lapidaryref10_joined.f k a0 a1 a2 a3 a4 a5 a6) (lapidaryref10_joined.f (k + 1) a0 a1 a2 a3 a4 a5 a6) := by
  intro a0 a1 a2 a3 a4 a5 a6 k
  obtain ⟨ih0, ih1⟩ := lapidaryref10_joined.mono_l k
  unfold lapidaryref10_joined.f
  repeat' first
      | (with_reducible exact ih0 _ _ _ _ _ _ _ _)
      | (with_reducible exact ih1 _ _ _ _ _ _ _ _ _)
      | (with_reducible exact LeO.refl _)
      | (with_reducible exact LeO.none _)
      | (with_reducible refine LeO.ite ?_ ?_)
      | (with_reducible refine LeO.bind ?_ (fun _ => ?_))
      | exact ih0 _ _ _ _ _ _ _ _
      | exact ih1 _ _ _ _ _ _ _ _ _
      | exact LeO.none _
      | refine LeO.ite ?_ ?_
      | refine LeO.bind ?_ (fun _ => ?_)
set_option maxHeartbeats 8000000 in
set_option maxRecDepth 100000 in
theorem lapidaryref10_joined.calls (k : Nat) (a0_0 : Int) (a0_1 : Int) (a0_2 : Int) (a1_0 : Int) (a1_1 : Int) (a1_2 : Int) (a2 : Int) (r : Bool) (w : World) (h : lapidaryref10_joined.f k a0_0 a0_1 a0_2 a1_0 a1_1 a1_2 a2 = some r) :
  Calls Tryd.prog 80 #[.agg #[.int .i64 a0_0,.int .i64 a0_1,.int .i64 a0_2],.agg #[.int .i64 a1_0,.int .i64 a1_1,.int .i64 a1_2],.int .i64 a2] w fun e w' => e = .returned (.bool r) ∧ Below w.heap.size w w':=by
 have hu47:=Tryd.underlying47
 have HB:=aMx7 (Below.refl w.heap.size w)
 have H : (lapidaryref10_joined.l0 k a2 0 a0_0 a0_1 a0_2 a1_0 a1_1 a1_2) = some r:=h
 clear h
 have H':=aMx7 H
 clear H
 go_enter Tryd.func80,Tryd.ntmps80
 go_wp2_with (first|((with_reducible refine gate_dst (N:=3) rfl ?_);refine box_event ?hg (N:=3) ?hd (cs:=#[.int .i64 a0_0,.int .i64 a0_1,.int .i64 a0_2]) (t:=47) ?hr ?_;(case hd => rfl);(case hg => rfl);(case hr => first|(go_simp;done)|(go_simp;rfl));intro gb152 hg w4 hbox hb;have n0_:=aMx7 (below_step (by repeat (with_reducible first|exact HB.out|apply below_alloc|apply pw_below_drewN|apply below_drew1)) hb);have n1_:=aMx7 (hbox);have n2_:=aMx7 ((by rw [hg];exact (below_size (by repeat (with_reducible first|exact HB.out|apply below_alloc|apply pw_below_drewN|apply below_drew1))) : w.heap.size ≤ gb152));have n3_:=aMx7 ((by rw [hg];exact (below_size (by repeat (with_reducible first|exact HB.out|apply below_alloc|apply pw_below_drewN|apply below_drew1))) : w.heap.size ≤ gb152));clear HB;have HB:=n0_;have BK152:=n1_;have GW152:=n2_;have GE152:=n3_;clear n0_ n1_ n2_ n3_;clear hb hbox hg)|((with_reducible refine gate_dst (N:=4) rfl ?_);refine box_event ?hg (N:=4) ?hd (cs:=#[.int .i64 a1_0,.int .i64 a1_1,.int .i64 a1_2]) (t:=47) ?hr ?_;(case hd => rfl);(case hg => rfl);(case hr => first|(go_simp;done)|(go_simp;rfl));intro gb153 hg w5 hbox hb;have n0_:=aMx7 (blk_below (g:=gb152) (o:=.cells #[.int .i64 a0_0,.int .i64 a0_1,.int .i64 a0_2] 47 (0,0)) (by (with_reducible repeat (first|refine blk_drewN ?_ _|refine blk_drew ?_|refine blk_alloc ?_ _));exact BK152.out) hb);have n1_:=aMx7 (below_step (by repeat (first|(with_reducible first|exact HB.out|apply below_alloc|apply pw_below_drewN|apply below_drew1|refine below_set ?_ GE152.out)|exact HB.out)) hb);have n2_:=aMx7 (hbox);have n3_:=aMx7 ((by rw [hg];exact (below_size (by repeat (first|(with_reducible first|exact HB.out|apply below_alloc|apply pw_below_drewN|apply below_drew1|refine below_set ?_ GE152.out)|exact HB.out))) : w.heap.size ≤ gb153));have n4_:=aMx7 ((by rw [hg];exact (below_size (by repeat (first|(with_reducible first|exact HB.out|apply below_alloc|apply pw_below_drewN|apply below_drew1|refine below_set ?_ GE152.out)|exact HB.out))) : w.heap.size ≤ gb153));have n5_:=aMx7 ((by rw [hg];exact Nat.ne_of_lt (blk_lt (g:=gb152) (o:=.cells #[.int .i64 a0_0,.int .i64 a0_1,.int .i64 a0_2] 47 (0,0)) (by (with_reducible repeat (first|refine blk_drewN ?_ _|refine blk_drew ?_|refine blk_alloc ?_ _));exact BK152.out)) : gb152 ≠ gb153));have n6_:=aMx7 ((by rw [hg];exact Nat.ne_of_gt (blk_lt (g:=gb152) (o:=.cells #[.int .i64 a0_0,.int .i64 a0_1,.int .i64 a0_2] 47 (0,0)) (by (with_reducible repeat (first|refine blk_drewN ?_ _|refine blk_drew ?_|refine blk_alloc ?_ _));exact BK152.out)) : gb153 ≠ gb152));clear BK152;clear HB;have BK152:=n0_;have HB:=n1_;have BK153:=n2_;have GW153:=n3_;have GE153:=n4_;have NB152_153:=n5_;have NB153_152:=n6_;clear n0_ n1_ n2_ n3_ n4_ n5_ n6_;clear hb hbox hg))
 go_loopg [7] k (fun kq v7 w' => ∃ (x7_1 : Int),v7 = .int .i64 x7_1 ∧ Aside0 (lapidaryref10_joined.l0 kq a2 x7_1 a0_0 a0_1 a0_2 a1_0 a1_1 a1_2 = some r) ∧ Aside0 (kq ≤ k) ∧ Aside0 (w'.heap[gb152]? = some (.cells #[.int .i64 a0_0,.int .i64 a0_1,.int .i64 a0_2] 47 (0,0))) ∧ Aside0 (w'.heap[gb153]? = some (.cells #[.int .i64 a1_0,.int .i64 a1_1,.int .i64 a1_2] 47 (0,0))) ∧ Aside0 (Below w.heap.size w w'))
 case atStart => exact ⟨(0),(by first | rfl | (simp;done) | (simp [*];done) | (simp [wrap64];done)),H',⟨Nat.le_refl _⟩,⟨by (with_reducible repeat (first | refine blk_drewN ?_ _ | refine blk_drew ?_ | refine blk_alloc ?_ _));exact BK152.out⟩,⟨by (with_reducible repeat (first | refine blk_drewN ?_ _ | refine blk_drew ?_ | refine blk_alloc ?_ _));exact BK153.out⟩,⟨by repeat (first | (with_reducible first | exact HB.out | apply below_alloc | apply pw_below_drewN | apply below_drew1 | refine below_set ?_ GE152.out | refine below_set ?_ GE153.out) | exact HB.out)⟩⟩
 case round =>
  clear H'
  try clear p2
  obtain ⟨x7_1,rfl,HA,HK1,BK152,BK153,HB⟩:=hrel
  cases gk with
  | zero => exact absurd HA.out (by simp [lapidaryref10_joined.l0])
  | succ k1 =>
   have H:=HA.out
   clear HA
   simp only [lapidaryref10_joined.l0] at H
   by_cases c6 : x7_1 < 3
   ·rw [if_pos c6] at H
    have c6b0 : decide (x7_1 < 3) = true:=decide_eq_true c6
    clear c6
    have H':=aMx7 H
    clear H
    go_wp2
    go_loopg [8] k1 (fun kq v8 w' => ∃ (x8_2 : Int),v8 = .int .i64 x8_2 ∧ Aside0 (lapidaryref10_joined.l1 kq a2 x7_1 x8_2 a0_0 a0_1 a0_2 a1_0 a1_1 a1_2 = some r) ∧ Aside0 (kq ≤ k1) ∧ Aside0 (w'.heap[gb152]? = some (.cells #[.int .i64 a0_0,.int .i64 a0_1,.int .i64 a0_2] 47 (0,0))) ∧ Aside0 (w'.heap[gb153]? = some (.cells #[.int .i64 a1_0,.int .i64 a1_1,.int .i64 a1_2] 47 (0,0))) ∧ Aside0 (Below w.heap.size w w'))
    case atStart => exact ⟨(0),(by first | rfl | (simp;done) | (simp [*];done) | (simp [wrap64];done)),H',⟨Nat.le_refl _⟩,⟨by (with_reducible repeat (first | refine blk_drewN ?_ _ | refine blk_drew ?_ | refine blk_alloc ?_ _));exact BK152.out⟩,⟨by (with_reducible repeat (first | refine blk_drewN ?_ _ | refine blk_drew ?_ | refine blk_alloc ?_ _));exact BK153.out⟩,⟨by repeat (first | (with_reducible first | exact HB.out | apply below_alloc | apply pw_below_drewN | apply below_drew1 | refine below_set ?_ GE152.out | refine below_set ?_ GE153.out) | exact HB.out)⟩⟩
    case round =>
     clear H'
     (try clear p2);(try clear c6);(try clear c6b0);(try clear p2)
     obtain ⟨x8_2,rfl,HA,HK2,BK152,BK153,HB⟩:=hrel
     cases gk with
     | zero => exact absurd HA.out (by simp [lapidaryref10_joined.l1])
     | succ k2 =>
      have H:=HA.out
      clear HA
      simp only [lapidaryref10_joined.l1] at H
      by_cases c7 : x8_2 < 3
      ·rw [if_pos c7] at H
       have c7b0 : decide (x8_2 < 3) = true:=decide_eq_true c7
       clear c7
       by_cases c8 : x7_1 = 0
       ·rw [if_pos c8] at H
        subst c8
        by_cases c9 : a0_0 = a2
        ·rw [if_pos c9] at H
         have c9b0 : (a0_0 == a2) = true:=beq_iff_eq.mpr c9
         have c9b1 : (a0_0 != a2) = false:=bne_eq_false_iff_eq.mpr c9
         clear c9
         by_cases c10 : x8_2 = 0
         ·rw [if_pos c10] at H
          subst c10
          by_cases c11 : a1_0 = a0_1
          ·rw [if_pos c11] at H
           have c11b0 : (a1_0 == a0_1) = true:=beq_iff_eq.mpr c11
           have c11b1 : (a1_0 != a0_1) = false:=bne_eq_false_iff_eq.mpr c11
           clear c11
           by_cases c12 : a1_1 = a0_0
           ·rw [if_pos c12] at H
            have c12b0 : (a1_1 == a0_0) = true:=beq_iff_eq.mpr c12
            have c12b1 : (a1_1 != a0_0) = false:=bne_eq_false_iff_eq.mpr c12
            clear c12
            obtain rfl:=Option.some.inj H
            have hnb13:=NB152_153.out
            have hnc13:=NB153_152.out
            have hcz14_0 : wr.cell? ⟨gb152,0,none⟩ = some (.int .i64 a0_0):=(blk_cell BK152.out 0).trans rfl
            have hcz14_1 : wr.cell? ⟨gb152,1,none⟩ = some (.int .i64 a0_1):=(blk_cell BK152.out 1).trans rfl
            have hcz14_2 : wr.cell? ⟨gb152,2,none⟩ = some (.int .i64 a0_2):=(blk_cell BK152.out 2).trans rfl
            have hfz14_0:=blk_frozen BK152.out 0
            have hfz14_1:=blk_frozen BK152.out 1
            have hfz14_2:=blk_frozen BK152.out 2
            have hcz15_0 : wr.cell? ⟨gb153,0,none⟩ = some (.int .i64 a1_0):=(blk_cell BK153.out 0).trans rfl
            have hcz15_1 : wr.cell? ⟨gb153,1,none⟩ = some (.int .i64 a1_1):=(blk_cell BK153.out 1).trans rfl
            have hcz15_2 : wr.cell? ⟨gb153,2,none⟩ = some (.int .i64 a1_2):=(blk_cell BK153.out 2).trans rfl
            have hfz15_0:=blk_frozen BK153.out 0
            have hfz15_1:=blk_frozen BK153.out 1
            have hfz15_2:=blk_frozen BK153.out 2
            go_wp2
            go_ret
            exact ⟨by first | rfl | (simp [errW_none,errW_some]<;>rfl) | (simp [*,errW_none,errW_some]<;>rfl),by repeat (first | (with_reducible first | exact HB.out | apply below_alloc | apply pw_below_drewN | apply below_drew1 | refine below_set ?_ GE152.out | refine below_set ?_ GE153.out) | exact HB.out)⟩
           ·rw [if_neg c12] at H
            have c12b0 : (a1_1 == a0_0) = false:=beq_eq_false_iff_ne.mpr c12
            have c12b1 : (a1_1 != a0_0) = true:=bne_iff_ne.mpr c12
            have H':=aMx7 H
            clear H
            have hnb16:=NB152_153.out
            have hnc16:=NB153_152.out
            have hcz17_0 : wr.cell? ⟨gb152,0,none⟩ = some (.int .i64 a0_0):=(blk_cell BK152.out 0).trans rfl
            have hcz17_1 : wr.cell? ⟨gb152,1,none⟩ = some (.int .i64 a0_1):=(blk_cell BK152.out 1).trans rfl
            have hcz17_2 : wr.cell? ⟨gb152,2,none⟩ = some (.int .i64 a0_2):=(blk_cell BK152.out 2).trans rfl
            have hfz17_0:=blk_frozen BK152.out 0
            have hfz17_1:=blk_frozen BK152.out 1
            have hfz17_2:=blk_frozen BK152.out 2
            have hcz18_0 : wr.cell? ⟨gb153,0,none⟩ = some (.int .i64 a1_0):=(blk_cell BK153.out 0).trans rfl
            have hcz18_1 : wr.cell? ⟨gb153,1,none⟩ = some (.int .i64 a1_1):=(blk_cell BK153.out 1).trans rfl
            have hcz18_2 : wr.cell? ⟨gb153,2,none⟩ = some (.int .i64 a1_2):=(blk_cell BK153.out 2).trans rfl
            have hfz18_0:=blk_frozen BK153.out 0
            have hfz18_1:=blk_frozen BK153.out 1
            have hfz18_2:=blk_frozen BK153.out 2
            go_wp2
            go_roundg k2
            case measure => have:=HK1.out;have:=HK2.out;omega
            case rel => exact ⟨(wrap64 (0+1)),(by first | rfl | (simp;done) | (simp [*];done) | (simp [wrap64];done)),H',⟨by have:=HK1.out;have:=HK2.out;omega⟩,⟨by (with_reducible repeat (first | refine blk_drewN ?_ _ | refine blk_drew ?_ | refine blk_alloc ?_ _));exact BK152.out⟩,⟨by (with_reducible repeat (first | refine blk_drewN ?_ _ | refine blk_drew ?_ | refine blk_alloc ?_ _));exact BK153.out⟩,⟨by repeat (first | (with_reducible first | exact HB.out | apply below_alloc | apply pw_below_drewN | apply below_drew1 | refine below_set ?_ GE152.out | refine below_set ?_ GE153.out) | exact HB.out)⟩⟩
          ·rw [if_neg c11] at H
           have c11b0 : (a1_0 == a0_1) = false:=beq_eq_false_iff_ne.mpr c11
           have c11b1 : (a1_0 != a0_1) = true:=bne_iff_ne.mpr c11
           have H':=aMx7 H
           clear H
           have hnb19:=NB152_153.out
           have hnc19:=NB153_152.out
           have hcz20_0 : wr.cell? ⟨gb152,0,none⟩ = some (.int .i64 a0_0):=(blk_cell BK152.out 0).trans rfl
           have hcz20_1 : wr.cell? ⟨gb152,1,none⟩ = some (.int .i64 a0_1):=(blk_cell BK152.out 1).trans rfl
           have hcz20_2 : wr.cell? ⟨gb152,2,none⟩ = some (.int .i64 a0_2):=(blk_cell BK152.out 2).trans rfl
           have hfz20_0:=blk_frozen BK152.out 0
           have hfz20_1:=blk_frozen BK152.out 1
           have hfz20_2:=blk_frozen BK152.out 2
           have hcz21_0 : wr.cell? ⟨gb153,0,none⟩ = some (.int .i64 a1_0):=(blk_cell BK153.out 0).trans rfl
           have hcz21_1 : wr.cell? ⟨gb153,1,none⟩ = some (.int .i64 a1_1):=(blk_cell BK153.out 1).trans rfl
           have hcz21_2 : wr.cell? ⟨gb153,2,none⟩ = some (.int .i64 a1_2):=(blk_cell BK153.out 2).trans rfl
           have hfz21_0:=blk_frozen BK153.out 0
           have hfz21_1:=blk_frozen BK153.out 1
           have hfz21_2:=blk_frozen BK153.out 2
           go_wp2
           go_roundg k2
           case measure => have:=HK1.out;have:=HK2.out;omega
           case rel => exact ⟨(wrap64 (0+1)),(by first | rfl | (simp;done) | (simp [*];done) | (simp [wrap64];done)),H',⟨by have:=HK1.out;have:=HK2.out;omega⟩,⟨by (with_reducible repeat (first | refine blk_drewN ?_ _ | refine blk_drew ?_ | refine blk_alloc ?_ _));exact BK152.out⟩,⟨by (with_reducible repeat (first | refine blk_drewN ?_ _ | refine blk_drew ?_ | refine blk_alloc ?_ _));exact BK153.out⟩,⟨by repeat (first | (with_reducible first | exact HB.out | apply below_alloc | apply pw_below_drewN | apply below_drew1 | refine below_set ?_ GE152.out | refine below_set ?_ GE153.out) | exact HB.out)⟩⟩
         ·rw [if_neg c10] at H
          by_cases c22 : x8_2 = 1
          ·rw [if_pos c22] at H
           subst c22
           by_cases c23 : a1_1 = a0_1
           ·rw [if_pos c23] at H
            have c23b0 : (a1_1 == a0_1) = true:=beq_iff_eq.mpr c23
            have c23b1 : (a1_1 != a0_1) = false:=bne_eq_false_iff_eq.mpr c23
            clear c23
            by_cases c24 : a1_2 = a0_0
            ·rw [if_pos c24] at H
             have c24b0 : (a1_2 == a0_0) = true:=beq_iff_eq.mpr c24
             have c24b1 : (a1_2 != a0_0) = false:=bne_eq_false_iff_eq.mpr c24
             clear c24
             obtain rfl:=Option.some.inj H
             have hnb25:=NB152_153.out
             have hnc25:=NB153_152.out
             have hcz26_0 : wr.cell? ⟨gb152,0,none⟩ = some (.int .i64 a0_0):=(blk_cell BK152.out 0).trans rfl
             have hcz26_1 : wr.cell? ⟨gb152,1,none⟩ = some (.int .i64 a0_1):=(blk_cell BK152.out 1).trans rfl
             have hcz26_2 : wr.cell? ⟨gb152,2,none⟩ = some (.int .i64 a0_2):=(blk_cell BK152.out 2).trans rfl
             have hfz26_0:=blk_frozen BK152.out 0
             have hfz26_1:=blk_frozen BK152.out 1
             have hfz26_2:=blk_frozen BK152.out 2
             have hcz27_0 : wr.cell? ⟨gb153,0,none⟩ = some (.int .i64 a1_0):=(blk_cell BK153.out 0).trans rfl
             have hcz27_1 : wr.cell? ⟨gb153,1,none⟩ = some (.int .i64 a1_1):=(blk_cell BK153.out 1).trans rfl
             have hcz27_2 : wr.cell? ⟨gb153,2,none⟩ = some (.int .i64 a1_2):=(blk_cell BK153.out 2).trans rfl
             have hfz27_0:=blk_frozen BK153.out 0
             have hfz27_1:=blk_frozen BK153.out 1
             have hfz27_2:=blk_frozen BK153.out 2
             go_wp2
             go_ret
             exact ⟨by first | rfl | (simp [errW_none,errW_some]<;>rfl) | (simp [*,errW_none,errW_some]<;>rfl),by repeat (first | (with_reducible first | exact HB.out | apply below_alloc | apply pw_below_drewN | apply below_drew1 | refine below_set ?_ GE152.out | refine below_set ?_ GE153.out) | exact HB.out)⟩
            ·rw [if_neg c24] at H
             have c24b0 : (a1_2 == a0_0) = false:=beq_eq_false_iff_ne.mpr c24
             have c24b1 : (a1_2 != a0_0) = true:=bne_iff_ne.mpr c24
             have H':=aMx7 H
             clear H
             have hnb28:=NB152_153.out
             have hnc28:=NB153_152.out
             have hcz29_0 : wr.cell? ⟨gb152,0,none⟩ = some (.int .i64 a0_0):=(blk_cell BK152.out 0).trans rfl
             have hcz29_1 : wr.cell? ⟨gb152,1,none⟩ = some (.int .i64 a0_1):=(blk_cell BK152.out 1).trans rfl
             have hcz29_2 : wr.cell? ⟨gb152,2,none⟩ = some (.int .i64 a0_2):=(blk_cell BK152.out 2).trans rfl
             have hfz29_0:=blk_frozen BK152.out 0
             have hfz29_1:=blk_frozen BK152.out 1
             have hfz29_2:=blk_frozen BK152.out 2
             have hcz30_0 : wr.cell? ⟨gb153,0,none⟩ = some (.int .i64 a1_0):=(blk_cell BK153.out 0).trans rfl
             have hcz30_1 : wr.cell? ⟨gb153,1,none⟩ = some (.int .i64 a1_1):=(blk_cell BK153.out 1).trans rfl
             have hcz30_2 : wr.cell? ⟨gb153,2,none⟩ = some (.int .i64 a1_2):=(blk_cell BK153.out 2).trans rfl
             have hfz30_0:=blk_frozen BK153.out 0
             have hfz30_1:=blk_frozen BK153.out 1
             have hfz30_2:=blk_frozen BK153.out 2
             go_wp2
             go_roundg k2
             case measure => have:=HK1.out;have:=HK2.out;omega
             case rel => exact ⟨(wrap64 (1+1)),(by first | rfl | (simp;done) | (simp [*];done) | (simp [wrap64];done)),H',⟨by have:=HK1.out;have:=HK2.out;omega⟩,⟨by (with_reducible repeat (first | refine blk_drewN ?_ _ | refine blk_drew ?_ | refine blk_alloc ?_ _));exact BK152.out⟩,⟨by (with_reducible repeat (first | refine blk_drewN ?_ _ | refine blk_drew ?_ | refine blk_alloc ?_ _));exact BK153.out⟩,⟨by repeat (first | (with_reducible first | exact HB.out | apply below_alloc | apply pw_below_drewN | apply below_drew1 | refine below_set ?_ GE152.out | refine below_set ?_ GE153.out) | exact HB.out)⟩⟩
           ·rw [if_neg c23] at H
            have c23b0 : (a1_1 == a0_1) = false:=beq_eq_false_iff_ne.mpr c23
            have c23b1 : (a1_1 != a0_1) = true:=bne_iff_ne.mpr c23
            have H':=aMx7 H
            clear H
            have hnb31:=NB152_153.out
            have hnc31:=NB153_152.out
            have hcz32_0 : wr.cell? ⟨gb152,0,none⟩ = some (.int .i64 a0_0):=(blk_cell BK152.out 0).trans rfl
            have hcz32_1 : wr.cell? ⟨gb152,1,none⟩ = some (.int .i64 a0_1):=(blk_cell BK152.out 1).trans rfl
            have hcz32_2 : wr.cell? ⟨gb152,2,none⟩ = some (.int .i64 a0_2):=(blk_cell BK152.out 2).trans rfl
            have hfz32_0:=blk_frozen BK152.out 0
            have hfz32_1:=blk_frozen BK152.out 1
            have hfz32_2:=blk_frozen BK152.out 2
            have hcz33_0 : wr.cell? ⟨gb153,0,none⟩ = some (.int .i64 a1_0):=(blk_cell BK153.out 0).trans rfl
            have hcz33_1 : wr.cell? ⟨gb153,1,none⟩ = some (.int .i64 a1_1):=(blk_cell BK153.out 1).trans rfl
            have hcz33_2 : wr.cell? ⟨gb153,2,none⟩ = some (.int .i64 a1_2):=(blk_cell BK153.out 2).trans rfl
            have hfz33_0:=blk_frozen BK153.out 0
            have hfz33_1:=blk_frozen BK153.out 1
            have hfz33_2:=blk_frozen BK153.out 2
            go_wp2
            go_roundg k2
            case measure => have:=HK1.out;have:=HK2.out;omega
            case rel => exact ⟨(wrap64 (1+1)),(by first | rfl | (simp;done) | (simp [*];done) | (simp [wrap64];done)),H',⟨by have:=HK1.out;have:=HK2.out;omega⟩,⟨by (with_reducible repeat (first | refine blk_drewN ?_ _ | refine blk_drew ?_ | refine blk_alloc ?_ _));exact BK152.out⟩,⟨by (with_reducible repeat (first | refine blk_drewN ?_ _ | refine blk_drew ?_ | refine blk_alloc ?_ _));exact BK153.out⟩,⟨by repeat (first | (with_reducible first | exact HB.out | apply below_alloc | apply pw_below_drewN | apply below_drew1 | refine below_set ?_ GE152.out | refine below_set ?_ GE153.out) | exact HB.out)⟩⟩
          ·rw [if_neg c22] at H
           by_cases c34 : x8_2 = 2
           ·rw [if_pos c34] at H
            subst c34
            by_cases c35 : a1_2 = a0_1
            ·rw [if_pos c35] at H
             have c35b0 : (a1_2 == a0_1) = true:=beq_iff_eq.mpr c35
             have c35b1 : (a1_2 != a0_1) = false:=bne_eq_false_iff_eq.mpr c35
             clear c35
             by_cases c36 : a1_0 = a0_0
             ·rw [if_pos c36] at H
              have c36b0 : (a1_0 == a0_0) = true:=beq_iff_eq.mpr c36
              have c36b1 : (a1_0 != a0_0) = false:=bne_eq_false_iff_eq.mpr c36
              clear c36
              obtain rfl:=Option.some.inj H
              have hnb37:=NB152_153.out
              have hnc37:=NB153_152.out
              have hcz38_0 : wr.cell? ⟨gb152,0,none⟩ = some (.int .i64 a0_0):=(blk_cell BK152.out 0).trans rfl
              have hcz38_1 : wr.cell? ⟨gb152,1,none⟩ = some (.int .i64 a0_1):=(blk_cell BK152.out 1).trans rfl
              have hcz38_2 : wr.cell? ⟨gb152,2,none⟩ = some (.int .i64 a0_2):=(blk_cell BK152.out 2).trans rfl
              have hfz38_0:=blk_frozen BK152.out 0
              have hfz38_1:=blk_frozen BK152.out 1
              have hfz38_2:=blk_frozen BK152.out 2
              have hcz39_0 : wr.cell? ⟨gb153,0,none⟩ = some (.int .i64 a1_0):=(blk_cell BK153.out 0).trans rfl
              have hcz39_1 : wr.cell? ⟨gb153,1,none⟩ = some (.int .i64 a1_1):=(blk_cell BK153.out 1).trans rfl
              have hcz39_2 : wr.cell? ⟨gb153,2,none⟩ = some (.int .i64 a1_2):=(blk_cell BK153.out 2).trans rfl
              have hfz39_0:=blk_frozen BK153.out 0
              have hfz39_1:=blk_frozen BK153.out 1
              have hfz39_2:=blk_frozen BK153.out 2
              go_wp2
              go_ret
              exact ⟨by first | rfl | (simp [errW_none,errW_some]<;>rfl) | (simp [*,errW_none,errW_some]<;>rfl),by repeat (first | (with_reducible first | exact HB.out | apply below_alloc | apply pw_below_drewN | apply below_drew1 | refine below_set ?_ GE152.out | refine below_set ?_ GE153.out) | exact HB.out)⟩
             ·rw [if_neg c36] at H
              have c36b0 : (a1_0 == a0_0) = false:=beq_eq_false_iff_ne.mpr c36
              have c36b1 : (a1_0 != a0_0) = true:=bne_iff_ne.mpr c36
              have H':=aMx7 H
              clear H
              have hnb40:=NB152_153.out
              have hnc40:=NB153_152.out
              have hcz41_0 : wr.cell? ⟨gb152,0,none⟩ = some (.int .i64 a0_0):=(blk_cell BK152.out 0).trans rfl
              have hcz41_1 : wr.cell? ⟨gb152,1,none⟩ = some (.int .i64 a0_1):=(blk_cell BK152.out 1).trans rfl
              have hcz41_2 : wr.cell? ⟨gb152,2,none⟩ = some (.int .i64 a0_2):=(blk_cell BK152.out 2).trans rfl
              have hfz41_0:=blk_frozen BK152.out 0
              have hfz41_1:=blk_frozen BK152.out 1
              have hfz41_2:=blk_frozen BK152.out 2
              have hcz42_0 : wr.cell? ⟨gb153,0,none⟩ = some (.int .i64 a1_0):=(blk_cell BK153.out 0).trans rfl
              have hcz42_1 : wr.cell? ⟨gb153,1,none⟩ = some (.int .i64 a1_1):=(blk_cell BK153.out 1).trans rfl
              have hcz42_2 : wr.cell? ⟨gb153,2,none⟩ = some (.int .i64 a1_2):=(blk_cell BK153.out 2).trans rfl
              have hfz42_0:=blk_frozen BK153.out 0
              have hfz42_1:=blk_frozen BK153.out 1
              have hfz42_2:=blk_frozen BK153.out 2
              go_wp2
              go_roundg k2
              case measure => have:=HK1.out;have:=HK2.out;omega
              case rel => exact ⟨(wrap64 (2+1)),(by first | rfl | (simp;done) | (simp [*];done) | (simp [wrap64];done)),H',⟨by have:=HK1.out;have:=HK2.out;omega⟩,⟨by (with_reducible repeat (first | refine blk_drewN ?_ _ | refine blk_drew ?_ | refine blk_alloc ?_ _));exact BK152.out⟩,⟨by (with_reducible repeat (first | refine blk_drewN ?_ _ | refine blk_drew ?_ | refine blk_alloc ?_ _));exact BK153.out⟩,⟨by repeat (first | (with_reducible first | exact HB.out | apply below_alloc | apply pw_below_drewN | apply below_drew1 | refine below_set ?_ GE152.out | refine below_set ?_ GE153.out) | exact HB.out)⟩⟩
            ·rw [if_neg c35] at H
             have c35b0 : (a1_2 == a0_1) = false:=beq_eq_false_iff_ne.mpr c35
             have c35b1 : (a1_2 != a0_1) = true:=bne_iff_ne.mpr c35
             have H':=aMx7 H
             clear H
             have hnb43:=NB152_153.out
             have hnc43:=NB153_152.out
             have hcz44_0 : wr.cell? ⟨gb152,0,none⟩ = some (.int .i64 a0_0):=(blk_cell BK152.out 0).trans rfl
             have hcz44_1 : wr.cell? ⟨gb152,1,none⟩ = some (.int .i64 a0_1):=(blk_cell BK152.out 1).trans rfl
             have hcz44_2 : wr.cell? ⟨gb152,2,none⟩ = some (.int .i64 a0_2):=(blk_cell BK152.out 2).trans rfl
             have hfz44_0:=blk_frozen BK152.out 0
             have hfz44_1:=blk_frozen BK152.out 1
             have hfz44_2:=blk_frozen BK152.out 2
             have hcz45_0 : wr.cell? ⟨gb153,0,none⟩ = some (.int .i64 a1_0):=(blk_cell BK153.out 0).trans rfl
             have hcz45_1 : wr.cell? ⟨gb153,1,none⟩ = some (.int .i64 a1_1):=(blk_cell BK153.out 1).trans rfl
             have hcz45_2 : wr.cell? ⟨gb153,2,none⟩ = some (.int .i64 a1_2):=(blk_cell BK153.out 2).trans rfl
             have hfz45_0:=blk_frozen BK153.out 0
             have hfz45_1:=blk_frozen BK153.out 1
             have hfz45_2:=blk_frozen BK153.out 2
             go_wp2
             go_roundg k2
             case measure => have:=HK1.out;have:=HK2.out;omega
             case rel => exact ⟨(wrap64 (2+1)),(by first | rfl | (simp;done) | (simp [*];done) | (simp [wrap64];done)),H',⟨by have:=HK1.out;have:=HK2.out;omega⟩,⟨by (with_reducible repeat (first | refine blk_drewN ?_ _ | refine blk_drew ?_ | refine blk_alloc ?_ _));exact BK152.out⟩,⟨by (with_reducible repeat (first | refine blk_drewN ?_ _ | refine blk_drew ?_ | refine blk_alloc ?_ _));exact BK153.out⟩,⟨by repeat (first | (with_reducible first | exact HB.out | apply below_alloc | apply pw_below_drewN | apply below_drew1 | refine below_set ?_ GE152.out | refine below_set ?_ GE153.out) | exact HB.out)⟩⟩
           ·rw [if_neg c34] at H
            exact absurd H (by simp)
        ·rw [if_neg c9] at H
         have c9b0 : (a0_0 == a2) = false:=beq_eq_false_iff_ne.mpr c9
         have c9b1 : (a0_0 != a2) = true:=bne_iff_ne.mpr c9
         by_cases c46 : a0_1 = a2
         ·rw [if_pos c46] at H
          have c46b0 : (a0_1 == a2) = true:=beq_iff_eq.mpr c46
          have c46b1 : (a0_1 != a2) = false:=bne_eq_false_iff_eq.mpr c46
          clear c46
          by_cases c47 : x8_2 = 0
          ·rw [if_pos c47] at H
           subst c47
           by_cases c48 : a1_0 = a0_1
           ·rw [if_pos c48] at H
            have c48b0 : (a1_0 == a0_1) = true:=beq_iff_eq.mpr c48
            have c48b1 : (a1_0 != a0_1) = false:=bne_eq_false_iff_eq.mpr c48
            clear c48
            by_cases c49 : a1_1 = a0_0
            ·rw [if_pos c49] at H
             have c49b0 : (a1_1 == a0_0) = true:=beq_iff_eq.mpr c49
             have c49b1 : (a1_1 != a0_0) = false:=bne_eq_false_iff_eq.mpr c49
             clear c49
             obtain rfl:=Option.some.inj H
             have hnb50:=NB152_153.out
             have hnc50:=NB153_152.out
             have hcz51_0 : wr.cell? ⟨gb152,0,none⟩ = some (.int .i64 a0_0):=(blk_cell BK152.out 0).trans rfl
             have hcz51_1 : wr.cell? ⟨gb152,1,none⟩ = some (.int .i64 a0_1):=(blk_cell BK152.out 1).trans rfl
             have hcz51_2 : wr.cell? ⟨gb152,2,none⟩ = some (.int .i64 a0_2):=(blk_cell BK152.out 2).trans rfl
             have hfz51_0:=blk_frozen BK152.out 0
             have hfz51_1:=blk_frozen BK152.out 1
             have hfz51_2:=blk_frozen BK152.out 2
             have hcz52_0 : wr.cell? ⟨gb153,0,none⟩ = some (.int .i64 a1_0):=(blk_cell BK153.out 0).trans rfl
             have hcz52_1 : wr.cell? ⟨gb153,1,none⟩ = some (.int .i64 a1_1):=(blk_cell BK153.out 1).trans rfl
             have hcz52_2 : wr.cell? ⟨gb153,2,none⟩ = some (.int .i64 a1_2):=(blk_cell BK153.out 2).trans rfl
             have hfz52_0:=blk_frozen BK153.out 0
             have hfz52_1:=blk_frozen BK153.out 1
             have hfz52_2:=blk_frozen BK153.out 2
             go_wp2
             go_ret
             exact ⟨by first | rfl | (simp [errW_none,errW_some]<;>rfl) | (simp [*,errW_none,errW_some]<;>rfl),by repeat (first | (with_reducible first | exact HB.out | apply below_alloc | apply pw_below_drewN | apply below_drew1 | refine below_set ?_ GE152.out | refine below_set ?_ GE153.out) | exact HB.out)⟩
            ·rw [if_neg c49] at H
             have c49b0 : (a1_1 == a0_0) = false:=beq_eq_false_iff_ne.mpr c49
             have c49b1 : (a1_1 != a0_0) = true:=bne_iff_ne.mpr c49
             have H':=aMx7 H
             clear H
             have hnb53:=NB152_153.out
             have hnc53:=NB153_152.out
             have hcz54_0 : wr.cell? ⟨gb152,0,none⟩ = some (.int .i64 a0_0):=(blk_cell BK152.out 0).trans rfl
             have hcz54_1 : wr.cell? ⟨gb152,1,none⟩ = some (.int .i64 a0_1):=(blk_cell BK152.out 1).trans rfl
             have hcz54_2 : wr.cell? ⟨gb152,2,none⟩ = some (.int .i64 a0_2):=(blk_cell BK152.out 2).trans rfl
             have hfz54_0:=blk_frozen BK152.out 0
             have hfz54_1:=blk_frozen BK152.out 1
             have hfz54_2:=blk_frozen BK152.out 2
             have hcz55_0 : wr.cell? ⟨gb153,0,none⟩ = some (.int .i64 a1_0):=(blk_cell BK153.out 0).trans rfl
             have hcz55_1 : wr.cell? ⟨gb153,1,none⟩ = some (.int .i64 a1_1):=(blk_cell BK153.out 1).trans rfl
             have hcz55_2 : wr.cell? ⟨gb153,2,none⟩ = some (.int .i64 a1_2):=(blk_cell BK153.out 2).trans rfl
             have hfz55_0:=blk_frozen BK153.out 0
             have hfz55_1:=blk_frozen BK153.out 1
             have hfz55_2:=blk_frozen BK153.out 2
             go_wp2
             go_roundg k2
             case measure => have:=HK1.out;have:=HK2.out;omega
             case rel => exact ⟨(wrap64 (0+1)),(by first | rfl | (simp;done) | (simp [*];done) | (simp [wrap64];done)),H',⟨by have:=HK1.out;have:=HK2.out;omega⟩,⟨by (with_reducible repeat (first | refine blk_drewN ?_ _ | refine blk_drew ?_ | refine blk_alloc ?_ _));exact BK152.out⟩,⟨by (with_reducible repeat (first | refine blk_drewN ?_ _ | refine blk_drew ?_ | refine blk_alloc ?_ _));exact BK153.out⟩,⟨by repeat (first | (with_reducible first | exact HB.out | apply below_alloc | apply pw_below_drewN | apply below_drew1 | refine below_set ?_ GE152.out | refine below_set ?_ GE153.out) | exact HB.out)⟩⟩
           ·rw [if_neg c48] at H
            have c48b0 : (a1_0 == a0_1) = false:=beq_eq_false_iff_ne.mpr c48
            have c48b1 : (a1_0 != a0_1) = true:=bne_iff_ne.mpr c48
            have H':=aMx7 H
            clear H
            have hnb56:=NB152_153.out
            have hnc56:=NB153_152.out
            have hcz57_0 : wr.cell? ⟨gb152,0,none⟩ = some (.int .i64 a0_0):=(blk_cell BK152.out 0).trans rfl
            have hcz57_1 : wr.cell? ⟨gb152,1,none⟩ = some (.int .i64 a0_1):=(blk_cell BK152.out 1).trans rfl
            have hcz57_2 : wr.cell? ⟨gb152,2,none⟩ = some (.int .i64 a0_2):=(blk_cell BK152.out 2).trans rfl
            have hfz57_0:=blk_frozen BK152.out 0
            have hfz57_1:=blk_frozen BK152.out 1
            have hfz57_2:=blk_frozen BK152.out 2
            have hcz58_0 : wr.cell? ⟨gb153,0,none⟩ = some (.int .i64 a1_0):=(blk_cell BK153.out 0).trans rfl
            have hcz58_1 : wr.cell? ⟨gb153,1,none⟩ = some (.int .i64 a1_1):=(blk_cell BK153.out 1).trans rfl
            have hcz58_2 : wr.cell? ⟨gb153,2,none⟩ = some (.int .i64 a1_2):=(blk_cell BK153.out 2).trans rfl
            have hfz58_0:=blk_frozen BK153.out 0
            have hfz58_1:=blk_frozen BK153.out 1
            have hfz58_2:=blk_frozen BK153.out 2
            go_wp2
            go_roundg k2
            case measure => have:=HK1.out;have:=HK2.out;omega
            case rel => exact ⟨(wrap64 (0+1)),(by first | rfl | (simp;done) | (simp [*];done) | (simp [wrap64];done)),H',⟨by have:=HK1.out;have:=HK2.out;omega⟩,⟨by (with_reducible repeat (first | refine blk_drewN ?_ _ | refine blk_drew ?_ | refine blk_alloc ?_ _));exact BK152.out⟩,⟨by (with_reducible repeat (first | refine blk_drewN ?_ _ | refine blk_drew ?_ | refine blk_alloc ?_ _));exact BK153.out⟩,⟨by repeat (first | (with_reducible first | exact HB.out | apply below_alloc | apply pw_below_drewN | apply below_drew1 | refine below_set ?_ GE152.out | refine below_set ?_ GE153.out) | exact HB.out)⟩⟩
          ·rw [if_neg c47] at H
           by_cases c59 : x8_2 = 1
           ·rw [if_pos c59] at H
            subst c59
            by_cases c60 : a1_1 = a0_1
            ·rw [if_pos c60] at H
             have c60b0 : (a1_1 == a0_1) = true:=beq_iff_eq.mpr c60
             have c60b1 : (a1_1 != a0_1) = false:=bne_eq_false_iff_eq.mpr c60
             clear c60
             by_cases c61 : a1_2 = a0_0
             ·rw [if_pos c61] at H
              have c61b0 : (a1_2 == a0_0) = true:=beq_iff_eq.mpr c61
              have c61b1 : (a1_2 != a0_0) = false:=bne_eq_false_iff_eq.mpr c61
              clear c61
              obtain rfl:=Option.some.inj H
              have hnb62:=NB152_153.out
              have hnc62:=NB153_152.out
              have hcz63_0 : wr.cell? ⟨gb152,0,none⟩ = some (.int .i64 a0_0):=(blk_cell BK152.out 0).trans rfl
              have hcz63_1 : wr.cell? ⟨gb152,1,none⟩ = some (.int .i64 a0_1):=(blk_cell BK152.out 1).trans rfl
              have hcz63_2 : wr.cell? ⟨gb152,2,none⟩ = some (.int .i64 a0_2):=(blk_cell BK152.out 2).trans rfl
              have hfz63_0:=blk_frozen BK152.out 0
              have hfz63_1:=blk_frozen BK152.out 1
              have hfz63_2:=blk_frozen BK152.out 2
              have hcz64_0 : wr.cell? ⟨gb153,0,none⟩ = some (.int .i64 a1_0):=(blk_cell BK153.out 0).trans rfl
              have hcz64_1 : wr.cell? ⟨gb153,1,none⟩ = some (.int .i64 a1_1):=(blk_cell BK153.out 1).trans rfl
              have hcz64_2 : wr.cell? ⟨gb153,2,none⟩ = some (.int .i64 a1_2):=(blk_cell BK153.out 2).trans rfl
              have hfz64_0:=blk_frozen BK153.out 0
              have hfz64_1:=blk_frozen BK153.out 1
              have hfz64_2:=blk_frozen BK153.out 2
              go_wp2
              go_ret
              exact ⟨by first | rfl | (simp [errW_none,errW_some]<;>rfl) | (simp [*,errW_none,errW_some]<;>rfl),by repeat (first | (with_reducible first | exact HB.out | apply below_alloc | apply pw_below_drewN | apply below_drew1 | refine below_set ?_ GE152.out | refine below_set ?_ GE153.out) | exact HB.out)⟩
             ·rw [if_neg c61] at H
              have c61b0 : (a1_2 == a0_0) = false:=beq_eq_false_iff_ne.mpr c61
              have c61b1 : (a1_2 != a0_0) = true:=bne_iff_ne.mpr c61
              have H':=aMx7 H
              clear H
              have hnb65:=NB152_153.out
              have hnc65:=NB153_152.out
              have hcz66_0 : wr.cell? ⟨gb152,0,none⟩ = some (.int .i64 a0_0):=(blk_cell BK152.out 0).trans rfl
              have hcz66_1 : wr.cell? ⟨gb152,1,none⟩ = some (.int .i64 a0_1):=(blk_cell BK152.out 1).trans rfl
              have hcz66_2 : wr.cell? ⟨gb152,2,none⟩ = some (.int .i64 a0_2):=(blk_cell BK152.out 2).trans rfl
              have hfz66_0:=blk_frozen BK152.out 0
              have hfz66_1:=blk_frozen BK152.out 1
              have hfz66_2:=blk_frozen BK152.out 2
              have hcz67_0 : wr.cell? ⟨gb153,0,none⟩ = some (.int .i64 a1_0):=(blk_cell BK153.out 0).trans rfl
              have hcz67_1 : wr.cell? ⟨gb153,1,none⟩ = some (.int .i64 a1_1):=(blk_cell BK153.out 1).trans rfl
              have hcz67_2 : wr.cell? ⟨gb153,2,none⟩ = some (.int .i64 a1_2):=(blk_cell BK153.out 2).trans rfl
              have hfz67_0:=blk_frozen BK153.out 0
              have hfz67_1:=blk_frozen BK153.out 1
              have hfz67_2:=blk_frozen BK153.out 2
              go_wp2
              go_roundg k2
              case measure => have:=HK1.out;have:=HK2.out;omega
              case rel => exact ⟨(wrap64 (1+1)),(by first | rfl | (simp;done) | (simp [*];done) | (simp [wrap64];done)),H',⟨by have:=HK1.out;have:=HK2.out;omega⟩,⟨by (with_reducible repeat (first | refine blk_drewN ?_ _ | refine blk_drew ?_ | refine blk_alloc ?_ _));exact BK152.out⟩,⟨by (with_reducible repeat (first | refine blk_drewN ?_ _ | refine blk_drew ?_ | refine blk_alloc ?_ _));exact BK153.out⟩,⟨by repeat (first | (with_reducible first | exact HB.out | apply below_alloc | apply pw_below_drewN | apply below_drew1 | refine below_set ?_ GE152.out | refine below_set ?_ GE153.out) | exact HB.out)⟩⟩
            ·rw [if_neg c60] at H
             have c60b0 : (a1_1 == a0_1) = false:=beq_eq_false_iff_ne.mpr c60
             have c60b1 : (a1_1 != a0_1) = true:=bne_iff_ne.mpr c60
             have H':=aMx7 H
             clear H
             have hnb68:=NB152_153.out
             have hnc68:=NB153_152.out
             have hcz69_0 : wr.cell? ⟨gb152,0,none⟩ = some (.int .i64 a0_0):=(blk_cell BK152.out 0).trans rfl
             have hcz69_1 : wr.cell? ⟨gb152,1,none⟩ = some (.int .i64 a0_1):=(blk_cell BK152.out 1).trans rfl
             have hcz69_2 : wr.cell? ⟨gb152,2,none⟩ = some (.int .i64 a0_2):=(blk_cell BK152.out 2).trans rfl
             have hfz69_0:=blk_frozen BK152.out 0
             have hfz69_1:=blk_frozen BK152.out 1
             have hfz69_2:=blk_frozen BK152.out 2
             have hcz70_0 : wr.cell? ⟨gb153,0,none⟩ = some (.int .i64 a1_0):=(blk_cell BK153.out 0).trans rfl
             have hcz70_1 : wr.cell? ⟨gb153,1,none⟩ = some (.int .i64 a1_1):=(blk_cell BK153.out 1).trans rfl
             have hcz70_2 : wr.cell? ⟨gb153,2,none⟩ = some (.int .i64 a1_2):=(blk_cell BK153.out 2).trans rfl
             have hfz70_0:=blk_frozen BK153.out 0
             have hfz70_1:=blk_frozen BK153.out 1
             have hfz70_2:=blk_frozen BK153.out 2
             go_wp2
             go_roundg k2
             case measure => have:=HK1.out;have:=HK2.out;omega
             case rel => exact ⟨(wrap64 (1+1)),(by first | rfl | (simp;done) | (simp [*];done) | (simp [wrap64];done)),H',⟨by have:=HK1.out;have:=HK2.out;omega⟩,⟨by (with_reducible repeat (first | refine blk_drewN ?_ _ | refine blk_drew ?_ | refine blk_alloc ?_ _));exact BK152.out⟩,⟨by (with_reducible repeat (first | refine blk_drewN ?_ _ | refine blk_drew ?_ | refine blk_alloc ?_ _));exact BK153.out⟩,⟨by repeat (first | (with_reducible first | exact HB.out | apply below_alloc | apply pw_below_drewN | apply below_drew1 | refine below_set ?_ GE152.out | refine below_set ?_ GE153.out) | exact HB.out)⟩⟩
           ·rw [if_neg c59] at H
            by_cases c71 : x8_2 = 2
            ·rw [if_pos c71] at H
             subst c71
             by_cases c72 : a1_2 = a0_1
             ·rw [if_pos c72] at H
              have c72b0 : (a1_2 == a0_1) = true:=beq_iff_eq.mpr c72
              have c72b1 : (a1_2 != a0_1) = false:=bne_eq_false_iff_eq.mpr c72
              clear c72
              by_cases c73 : a1_0 = a0_0
              ·rw [if_pos c73] at H
               have c73b0 : (a1_0 == a0_0) = true:=beq_iff_eq.mpr c73
               have c73b1 : (a1_0 != a0_0) = false:=bne_eq_false_iff_eq.mpr c73
               clear c73
               obtain rfl:=Option.some.inj H
               have hnb74:=NB152_153.out
               have hnc74:=NB153_152.out
               have hcz75_0 : wr.cell? ⟨gb152,0,none⟩ = some (.int .i64 a0_0):=(blk_cell BK152.out 0).trans rfl
               have hcz75_1 : wr.cell? ⟨gb152,1,none⟩ = some (.int .i64 a0_1):=(blk_cell BK152.out 1).trans rfl
               have hcz75_2 : wr.cell? ⟨gb152,2,none⟩ = some (.int .i64 a0_2):=(blk_cell BK152.out 2).trans rfl
               have hfz75_0:=blk_frozen BK152.out 0
               have hfz75_1:=blk_frozen BK152.out 1
               have hfz75_2:=blk_frozen BK152.out 2
               have hcz76_0 : wr.cell? ⟨gb153,0,none⟩ = some (.int .i64 a1_0):=(blk_cell BK153.out 0).trans rfl
               have hcz76_1 : wr.cell? ⟨gb153,1,none⟩ = some (.int .i64 a1_1):=(blk_cell BK153.out 1).trans rfl
               have hcz76_2 : wr.cell? ⟨gb153,2,none⟩ = some (.int .i64 a1_2):=(blk_cell BK153.out 2).trans rfl
               have hfz76_0:=blk_frozen BK153.out 0
               have hfz76_1:=blk_frozen BK153.out 1
               have hfz76_2:=blk_frozen BK153.out 2
               go_wp2
               go_ret
               exact ⟨by first | rfl | (simp [errW_none,errW_some]<;>rfl) | (simp [*,errW_none,errW_some]<;>rfl),by repeat (first | (with_reducible first | exact HB.out | apply below_alloc | apply pw_below_drewN | apply below_drew1 | refine below_set ?_ GE152.out | refine below_set ?_ GE153.out) | exact HB.out)⟩
              ·rw [if_neg c73] at H
               have c73b0 : (a1_0 == a0_0) = false:=beq_eq_false_iff_ne.mpr c73
               have c73b1 : (a1_0 != a0_0) = true:=bne_iff_ne.mpr c73
               have H':=aMx7 H
               clear H
               have hnb77:=NB152_153.out
               have hnc77:=NB153_152.out
               have hcz78_0 : wr.cell? ⟨gb152,0,none⟩ = some (.int .i64 a0_0):=(blk_cell BK152.out 0).trans rfl
               have hcz78_1 : wr.cell? ⟨gb152,1,none⟩ = some (.int .i64 a0_1):=(blk_cell BK152.out 1).trans rfl
               have hcz78_2 : wr.cell? ⟨gb152,2,none⟩ = some (.int .i64 a0_2):=(blk_cell BK152.out 2).trans rfl
               have hfz78_0:=blk_frozen BK152.out 0
               have hfz78_1:=blk_frozen BK152.out 1
               have hfz78_2:=blk_frozen BK152.out 2
               have hcz79_0 : wr.cell? ⟨gb153,0,none⟩ = some (.int .i64 a1_0):=(blk_cell BK153.out 0).trans rfl
               have hcz79_1 : wr.cell? ⟨gb153,1,none⟩ = some (.int .i64 a1_1):=(blk_cell BK153.out 1).trans rfl
               have hcz79_2 : wr.cell? ⟨gb153,2,none⟩ = some (.int .i64 a1_2):=(blk_cell BK153.out 2).trans rfl
               have hfz79_0:=blk_frozen BK153.out 0
               have hfz79_1:=blk_frozen BK153.out 1
               have hfz79_2:=blk_frozen BK153.out 2
               go_wp2
               go_roundg k2
               case measure => have:=HK1.out;have:=HK2.out;omega
               case rel => exact ⟨(wrap64 (2+1)),(by first | rfl | (simp;done) | (simp [*];done) | (simp [wrap64];done)),H',⟨by have:=HK1.out;have:=HK2.out;omega⟩,⟨by (with_reducible repeat (first | refine blk_drewN ?_ _ | refine blk_drew ?_ | refine blk_alloc ?_ _));exact BK152.out⟩,⟨by (with_reducible repeat (first | refine blk_drewN ?_ _ | refine blk_drew ?_ | refine blk_alloc ?_ _));exact BK153.out⟩,⟨by repeat (first | (with_reducible first | exact HB.out | apply below_alloc | apply pw_below_drewN | apply below_drew1 | refine below_set ?_ GE152.out | refine below_set ?_ GE153.out) | exact HB.out)⟩⟩
             ·rw [if_neg c72] at H
              have c72b0 : (a1_2 == a0_1) = false:=beq_eq_false_iff_ne.mpr c72
              have c72b1 : (a1_2 != a0_1) = true:=bne_iff_ne.mpr c72
              have H':=aMx7 H
              clear H
              have hnb80:=NB152_153.out
              have hnc80:=NB153_152.out
              have hcz81_0 : wr.cell? ⟨gb152,0,none⟩ = some (.int .i64 a0_0):=(blk_cell BK152.out 0).trans rfl
              have hcz81_1 : wr.cell? ⟨gb152,1,none⟩ = some (.int .i64 a0_1):=(blk_cell BK152.out 1).trans rfl
              have hcz81_2 : wr.cell? ⟨gb152,2,none⟩ = some (.int .i64 a0_2):=(blk_cell BK152.out 2).trans rfl
              have hfz81_0:=blk_frozen BK152.out 0
              have hfz81_1:=blk_frozen BK152.out 1
              have hfz81_2:=blk_frozen BK152.out 2
              have hcz82_0 : wr.cell? ⟨gb153,0,none⟩ = some (.int .i64 a1_0):=(blk_cell BK153.out 0).trans rfl
              have hcz82_1 : wr.cell? ⟨gb153,1,none⟩ = some (.int .i64 a1_1):=(blk_cell BK153.out 1).trans rfl
              have hcz82_2 : wr.cell? ⟨gb153,2,none⟩ = some (.int .i64 a1_2):=(blk_cell BK153.out 2).trans rfl
              have hfz82_0:=blk_frozen BK153.out 0
              have hfz82_1:=blk_frozen BK153.out 1
              have hfz82_2:=blk_frozen BK153.out 2
              go_wp2
              go_roundg k2
              case measure => have:=HK1.out;have:=HK2.out;omega
              case rel => exact ⟨(wrap64 (2+1)),(by first | rfl | (simp;done) | (simp [*];done) | (simp [wrap64];done)),H',⟨by have:=HK1.out;have:=HK2.out;omega⟩,⟨by (with_reducible repeat (first | refine blk_drewN ?_ _ | refine blk_drew ?_ | refine blk_alloc ?_ _));exact BK152.out⟩,⟨by (with_reducible repeat (first | refine blk_drewN ?_ _ | refine blk_drew ?_ | refine blk_alloc ?_ _));exact BK153.out⟩,⟨by repeat (first | (with_reducible first | exact HB.out | apply below_alloc | apply pw_below_drewN | apply below_drew1 | refine below_set ?_ GE152.out | refine below_set ?_ GE153.out) | exact HB.out)⟩⟩
            ·rw [if_neg c71] at H
             exact absurd H (by simp)
         ·rw [if_neg c46] at H
          have c46b0 : (a0_1 == a2) = false:=beq_eq_false_iff_ne.mpr c46
          have c46b1 : (a0_1 != a2) = true:=bne_iff_ne.mpr c46
          have H':=aMx7 H
          clear H
          have hnb83:=NB152_153.out
          have hnc83:=NB153_152.out
          have hcz84_0 : wr.cell? ⟨gb152,0,none⟩ = some (.int .i64 a0_0):=(blk_cell BK152.out 0).trans rfl
          have hcz84_1 : wr.cell? ⟨gb152,1,none⟩ = some (.int .i64 a0_1):=(blk_cell BK152.out 1).trans rfl
          have hcz84_2 : wr.cell? ⟨gb152,2,none⟩ = some (.int .i64 a0_2):=(blk_cell BK152.out 2).trans rfl
          have hfz84_0:=blk_frozen BK152.out 0
          have hfz84_1:=blk_frozen BK152.out 1
          have hfz84_2:=blk_frozen BK152.out 2
          go_wp2
          go_roundg k2
          case measure => have:=HK1.out;have:=HK2.out;omega
          case rel => exact ⟨(wrap64 (x8_2+1)),(by first | rfl | (simp;done) | (simp [*];done) | (simp [wrap64];done)),H',⟨by have:=HK1.out;have:=HK2.out;omega⟩,⟨by (with_reducible repeat (first | refine blk_drewN ?_ _ | refine blk_drew ?_ | refine blk_alloc ?_ _));exact BK152.out⟩,⟨by (with_reducible repeat (first | refine blk_drewN ?_ _ | refine blk_drew ?_ | refine blk_alloc ?_ _));exact BK153.out⟩,⟨by repeat (first | (with_reducible first | exact HB.out | apply below_alloc | apply pw_below_drewN | apply below_drew1 | refine below_set ?_ GE152.out | refine below_set ?_ GE153.out) | exact HB.out)⟩⟩
       ·rw [if_neg c8] at H
        by_cases c85 : x7_1 = 1
        ·rw [if_pos c85] at H
         subst c85
         by_cases c86 : a0_1 = a2
         ·rw [if_pos c86] at H
          have c86b0 : (a0_1 == a2) = true:=beq_iff_eq.mpr c86
          have c86b1 : (a0_1 != a2) = false:=bne_eq_false_iff_eq.mpr c86
          clear c86
          by_cases c87 : x8_2 = 0
          ·rw [if_pos c87] at H
           subst c87
           by_cases c88 : a1_0 = a0_2
           ·rw [if_pos c88] at H
            have c88b0 : (a1_0 == a0_2) = true:=beq_iff_eq.mpr c88
            have c88b1 : (a1_0 != a0_2) = false:=bne_eq_false_iff_eq.mpr c88
            clear c88
            by_cases c89 : a1_1 = a0_1
            ·rw [if_pos c89] at H
             have c89b0 : (a1_1 == a0_1) = true:=beq_iff_eq.mpr c89
             have c89b1 : (a1_1 != a0_1) = false:=bne_eq_false_iff_eq.mpr c89
             clear c89
             obtain rfl:=Option.some.inj H
             have hnb90:=NB152_153.out
             have hnc90:=NB153_152.out
             have hcz91_0 : wr.cell? ⟨gb152,0,none⟩ = some (.int .i64 a0_0):=(blk_cell BK152.out 0).trans rfl
             have hcz91_1 : wr.cell? ⟨gb152,1,none⟩ = some (.int .i64 a0_1):=(blk_cell BK152.out 1).trans rfl
             have hcz91_2 : wr.cell? ⟨gb152,2,none⟩ = some (.int .i64 a0_2):=(blk_cell BK152.out 2).trans rfl
             have hfz91_0:=blk_frozen BK152.out 0
             have hfz91_1:=blk_frozen BK152.out 1
             have hfz91_2:=blk_frozen BK152.out 2
             have hcz92_0 : wr.cell? ⟨gb153,0,none⟩ = some (.int .i64 a1_0):=(blk_cell BK153.out 0).trans rfl
             have hcz92_1 : wr.cell? ⟨gb153,1,none⟩ = some (.int .i64 a1_1):=(blk_cell BK153.out 1).trans rfl
             have hcz92_2 : wr.cell? ⟨gb153,2,none⟩ = some (.int .i64 a1_2):=(blk_cell BK153.out 2).trans rfl
             have hfz92_0:=blk_frozen BK153.out 0
             have hfz92_1:=blk_frozen BK153.out 1
             have hfz92_2:=blk_frozen BK153.out 2
             go_wp2
             go_ret
             exact ⟨by first | rfl | (simp [errW_none,errW_some]<;>rfl) | (simp [*,errW_none,errW_some]<;>rfl),by repeat (first | (with_reducible first | exact HB.out | apply below_alloc | apply pw_below_drewN | apply below_drew1 | refine below_set ?_ GE152.out | refine below_set ?_ GE153.out) | exact HB.out)⟩
            ·rw [if_neg c89] at H
             have c89b0 : (a1_1 == a0_1) = false:=beq_eq_false_iff_ne.mpr c89
             have c89b1 : (a1_1 != a0_1) = true:=bne_iff_ne.mpr c89
             have H':=aMx7 H
             clear H
             have hnb93:=NB152_153.out
             have hnc93:=NB153_152.out
             have hcz94_0 : wr.cell? ⟨gb152,0,none⟩ = some (.int .i64 a0_0):=(blk_cell BK152.out 0).trans rfl
             have hcz94_1 : wr.cell? ⟨gb152,1,none⟩ = some (.int .i64 a0_1):=(blk_cell BK152.out 1).trans rfl
             have hcz94_2 : wr.cell? ⟨gb152,2,none⟩ = some (.int .i64 a0_2):=(blk_cell BK152.out 2).trans rfl
             have hfz94_0:=blk_frozen BK152.out 0
             have hfz94_1:=blk_frozen BK152.out 1
             have hfz94_2:=blk_frozen BK152.out 2
             have hcz95_0 : wr.cell? ⟨gb153,0,none⟩ = some (.int .i64 a1_0):=(blk_cell BK153.out 0).trans rfl
             have hcz95_1 : wr.cell? ⟨gb153,1,none⟩ = some (.int .i64 a1_1):=(blk_cell BK153.out 1).trans rfl
             have hcz95_2 : wr.cell? ⟨gb153,2,none⟩ = some (.int .i64 a1_2):=(blk_cell BK153.out 2).trans rfl
             have hfz95_0:=blk_frozen BK153.out 0
             have hfz95_1:=blk_frozen BK153.out 1
             have hfz95_2:=blk_frozen BK153.out 2
             go_wp2
             go_roundg k2
             case measure => have:=HK1.out;have:=HK2.out;omega
             case rel => exact ⟨(wrap64 (0+1)),(by first | rfl | (simp;done) | (simp [*];done) | (simp [wrap64];done)),H',⟨by have:=HK1.out;have:=HK2.out;omega⟩,⟨by (with_reducible repeat (first | refine blk_drewN ?_ _ | refine blk_drew ?_ | refine blk_alloc ?_ _));exact BK152.out⟩,⟨by (with_reducible repeat (first | refine blk_drewN ?_ _ | refine blk_drew ?_ | refine blk_alloc ?_ _));exact BK153.out⟩,⟨by repeat (first | (with_reducible first | exact HB.out | apply below_alloc | apply pw_below_drewN | apply below_drew1 | refine below_set ?_ GE152.out | refine below_set ?_ GE153.out) | exact HB.out)⟩⟩
           ·rw [if_neg c88] at H
            have c88b0 : (a1_0 == a0_2) = false:=beq_eq_false_iff_ne.mpr c88
            have c88b1 : (a1_0 != a0_2) = true:=bne_iff_ne.mpr c88
            have H':=aMx7 H
            clear H
            have hnb96:=NB152_153.out
            have hnc96:=NB153_152.out
            have hcz97_0 : wr.cell? ⟨gb152,0,none⟩ = some (.int .i64 a0_0):=(blk_cell BK152.out 0).trans rfl
            have hcz97_1 : wr.cell? ⟨gb152,1,none⟩ = some (.int .i64 a0_1):=(blk_cell BK152.out 1).trans rfl
            have hcz97_2 : wr.cell? ⟨gb152,2,none⟩ = some (.int .i64 a0_2):=(blk_cell BK152.out 2).trans rfl
            have hfz97_0:=blk_frozen BK152.out 0
            have hfz97_1:=blk_frozen BK152.out 1
            have hfz97_2:=blk_frozen BK152.out 2
            have hcz98_0 : wr.cell? ⟨gb153,0,none⟩ = some (.int .i64 a1_0):=(blk_cell BK153.out 0).trans rfl
            have hcz98_1 : wr.cell? ⟨gb153,1,none⟩ = some (.int .i64 a1_1):=(blk_cell BK153.out 1).trans rfl
            have hcz98_2 : wr.cell? ⟨gb153,2,none⟩ = some (.int .i64 a1_2):=(blk_cell BK153.out 2).trans rfl
            have hfz98_0:=blk_frozen BK153.out 0
            have hfz98_1:=blk_frozen BK153.out 1
            have hfz98_2:=blk_frozen BK153.out 2
            go_wp2
            go_roundg k2
            case measure => have:=HK1.out;have:=HK2.out;omega
            case rel => exact ⟨(wrap64 (0+1)),(by first | rfl | (simp;done) | (simp [*];done) | (simp [wrap64];done)),H',⟨by have:=HK1.out;have:=HK2.out;omega⟩,⟨by (with_reducible repeat (first | refine blk_drewN ?_ _ | refine blk_drew ?_ | refine blk_alloc ?_ _));exact BK152.out⟩,⟨by (with_reducible repeat (first | refine blk_drewN ?_ _ | refine blk_drew ?_ | refine blk_alloc ?_ _));exact BK153.out⟩,⟨by repeat (first | (with_reducible first | exact HB.out | apply below_alloc | apply pw_below_drewN | apply below_drew1 | refine below_set ?_ GE152.out | refine below_set ?_ GE153.out) | exact HB.out)⟩⟩
          ·rw [if_neg c87] at H
           by_cases c99 : x8_2 = 1
           ·rw [if_pos c99] at H
            subst c99
            by_cases c100 : a1_1 = a0_2
            ·rw [if_pos c100] at H
             have c100b0 : (a1_1 == a0_2) = true:=beq_iff_eq.mpr c100
             have c100b1 : (a1_1 != a0_2) = false:=bne_eq_false_iff_eq.mpr c100
             clear c100
             by_cases c101 : a1_2 = a0_1
             ·rw [if_pos c101] at H
              have c101b0 : (a1_2 == a0_1) = true:=beq_iff_eq.mpr c101
              have c101b1 : (a1_2 != a0_1) = false:=bne_eq_false_iff_eq.mpr c101
              clear c101
              obtain rfl:=Option.some.inj H
              have hnb102:=NB152_153.out
              have hnc102:=NB153_152.out
              have hcz103_0 : wr.cell? ⟨gb152,0,none⟩ = some (.int .i64 a0_0):=(blk_cell BK152.out 0).trans rfl
              have hcz103_1 : wr.cell? ⟨gb152,1,none⟩ = some (.int .i64 a0_1):=(blk_cell BK152.out 1).trans rfl
              have hcz103_2 : wr.cell? ⟨gb152,2,none⟩ = some (.int .i64 a0_2):=(blk_cell BK152.out 2).trans rfl
              have hfz103_0:=blk_frozen BK152.out 0
              have hfz103_1:=blk_frozen BK152.out 1
              have hfz103_2:=blk_frozen BK152.out 2
              have hcz104_0 : wr.cell? ⟨gb153,0,none⟩ = some (.int .i64 a1_0):=(blk_cell BK153.out 0).trans rfl
              have hcz104_1 : wr.cell? ⟨gb153,1,none⟩ = some (.int .i64 a1_1):=(blk_cell BK153.out 1).trans rfl
              have hcz104_2 : wr.cell? ⟨gb153,2,none⟩ = some (.int .i64 a1_2):=(blk_cell BK153.out 2).trans rfl
              have hfz104_0:=blk_frozen BK153.out 0
              have hfz104_1:=blk_frozen BK153.out 1
              have hfz104_2:=blk_frozen BK153.out 2
              go_wp2
              go_ret
              exact ⟨by first | rfl | (simp [errW_none,errW_some]<;>rfl) | (simp [*,errW_none,errW_some]<;>rfl),by repeat (first | (with_reducible first | exact HB.out | apply below_alloc | apply pw_below_drewN | apply below_drew1 | refine below_set ?_ GE152.out | refine below_set ?_ GE153.out) | exact HB.out)⟩
             ·rw [if_neg c101] at H
              have c101b0 : (a1_2 == a0_1) = false:=beq_eq_false_iff_ne.mpr c101
              have c101b1 : (a1_2 != a0_1) = true:=bne_iff_ne.mpr c101
              have H':=aMx7 H
              clear H
              have hnb105:=NB152_153.out
              have hnc105:=NB153_152.out
              have hcz106_0 : wr.cell? ⟨gb152,0,none⟩ = some (.int .i64 a0_0):=(blk_cell BK152.out 0).trans rfl
              have hcz106_1 : wr.cell? ⟨gb152,1,none⟩ = some (.int .i64 a0_1):=(blk_cell BK152.out 1).trans rfl
              have hcz106_2 : wr.cell? ⟨gb152,2,none⟩ = some (.int .i64 a0_2):=(blk_cell BK152.out 2).trans rfl
              have hfz106_0:=blk_frozen BK152.out 0
              have hfz106_1:=blk_frozen BK152.out 1
              have hfz106_2:=blk_frozen BK152.out 2
              have hcz107_0 : wr.cell? ⟨gb153,0,none⟩ = some (.int .i64 a1_0):=(blk_cell BK153.out 0).trans rfl
              have hcz107_1 : wr.cell? ⟨gb153,1,none⟩ = some (.int .i64 a1_1):=(blk_cell BK153.out 1).trans rfl
              have hcz107_2 : wr.cell? ⟨gb153,2,none⟩ = some (.int .i64 a1_2):=(blk_cell BK153.out 2).trans rfl
              have hfz107_0:=blk_frozen BK153.out 0
              have hfz107_1:=blk_frozen BK153.out 1
              have hfz107_2:=blk_frozen BK153.out 2
              go_wp2
              go_roundg k2
              case measure => have:=HK1.out;have:=HK2.out;omega
              case rel => exact ⟨(wrap64 (1+1)),(by first | rfl | (simp;done) | (simp [*];done) | (simp [wrap64];done)),H',⟨by have:=HK1.out;have:=HK2.out;omega⟩,⟨by (with_reducible repeat (first | refine blk_drewN ?_ _ | refine blk_drew ?_ | refine blk_alloc ?_ _));exact BK152.out⟩,⟨by (with_reducible repeat (first | refine blk_drewN ?_ _ | refine blk_drew ?_ | refine blk_alloc ?_ _));exact BK153.out⟩,⟨by repeat (first | (with_reducible first | exact HB.out | apply below_alloc | apply pw_below_drewN | apply below_drew1 | refine below_set ?_ GE152.out | refine below_set ?_ GE153.out) | exact HB.out)⟩⟩
            ·rw [if_neg c100] at H
             have c100b0 : (a1_1 == a0_2) = false:=beq_eq_false_iff_ne.mpr c100
             have c100b1 : (a1_1 != a0_2) = true:=bne_iff_ne.mpr c100
             have H':=aMx7 H
             clear H
             have hnb108:=NB152_153.out
             have hnc108:=NB153_152.out
             have hcz109_0 : wr.cell? ⟨gb152,0,none⟩ = some (.int .i64 a0_0):=(blk_cell BK152.out 0).trans rfl
             have hcz109_1 : wr.cell? ⟨gb152,1,none⟩ = some (.int .i64 a0_1):=(blk_cell BK152.out 1).trans rfl
             have hcz109_2 : wr.cell? ⟨gb152,2,none⟩ = some (.int .i64 a0_2):=(blk_cell BK152.out 2).trans rfl
             have hfz109_0:=blk_frozen BK152.out 0
             have hfz109_1:=blk_frozen BK152.out 1
             have hfz109_2:=blk_frozen BK152.out 2
             have hcz110_0 : wr.cell? ⟨gb153,0,none⟩ = some (.int .i64 a1_0):=(blk_cell BK153.out 0).trans rfl
             have hcz110_1 : wr.cell? ⟨gb153,1,none⟩ = some (.int .i64 a1_1):=(blk_cell BK153.out 1).trans rfl
             have hcz110_2 : wr.cell? ⟨gb153,2,none⟩ = some (.int .i64 a1_2):=(blk_cell BK153.out 2).trans rfl
             have hfz110_0:=blk_frozen BK153.out 0
             have hfz110_1:=blk_frozen BK153.out 1
             have hfz110_2:=blk_frozen BK153.out 2
             go_wp2
             go_roundg k2
             case measure => have:=HK1.out;have:=HK2.out;omega
             case rel => exact ⟨(wrap64 (1+1)),(by first | rfl | (simp;done) | (simp [*];done) | (simp [wrap64];done)),H',⟨by have:=HK1.out;have:=HK2.out;omega⟩,⟨by (with_reducible repeat (first | refine blk_drewN ?_ _ | refine blk_drew ?_ | refine blk_alloc ?_ _));exact BK152.out⟩,⟨by (with_reducible repeat (first | refine blk_drewN ?_ _ | refine blk_drew ?_ | refine blk_alloc ?_ _));exact BK153.out⟩,⟨by repeat (first | (with_reducible first | exact HB.out | apply below_alloc | apply pw_below_drewN | apply below_drew1 | refine below_set ?_ GE152.out | refine below_set ?_ GE153.out) | exact HB.out)⟩⟩
           ·rw [if_neg c99] at H
            by_cases c111 : x8_2 = 2
            ·rw [if_pos c111] at H
             subst c111
             by_cases c112 : a1_2 = a0_2
             ·rw [if_pos c112] at H
              have c112b0 : (a1_2 == a0_2) = true:=beq_iff_eq.mpr c112
              have c112b1 : (a1_2 != a0_2) = false:=bne_eq_false_iff_eq.mpr c112
              clear c112
              by_cases c113 : a1_0 = a0_1
              ·rw [if_pos c113] at H
               have c113b0 : (a1_0 == a0_1) = true:=beq_iff_eq.mpr c113
               have c113b1 : (a1_0 != a0_1) = false:=bne_eq_false_iff_eq.mpr c113
               clear c113
               obtain rfl:=Option.some.inj H
               have hnb114:=NB152_153.out
               have hnc114:=NB153_152.out
               have hcz115_0 : wr.cell? ⟨gb152,0,none⟩ = some (.int .i64 a0_0):=(blk_cell BK152.out 0).trans rfl
               have hcz115_1 : wr.cell? ⟨gb152,1,none⟩ = some (.int .i64 a0_1):=(blk_cell BK152.out 1).trans rfl
               have hcz115_2 : wr.cell? ⟨gb152,2,none⟩ = some (.int .i64 a0_2):=(blk_cell BK152.out 2).trans rfl
               have hfz115_0:=blk_frozen BK152.out 0
               have hfz115_1:=blk_frozen BK152.out 1
               have hfz115_2:=blk_frozen BK152.out 2
               have hcz116_0 : wr.cell? ⟨gb153,0,none⟩ = some (.int .i64 a1_0):=(blk_cell BK153.out 0).trans rfl
               have hcz116_1 : wr.cell? ⟨gb153,1,none⟩ = some (.int .i64 a1_1):=(blk_cell BK153.out 1).trans rfl
               have hcz116_2 : wr.cell? ⟨gb153,2,none⟩ = some (.int .i64 a1_2):=(blk_cell BK153.out 2).trans rfl
               have hfz116_0:=blk_frozen BK153.out 0
               have hfz116_1:=blk_frozen BK153.out 1
               have hfz116_2:=blk_frozen BK153.out 2
               go_wp2
               go_ret
               exact ⟨by first | rfl | (simp [errW_none,errW_some]<;>rfl) | (simp [*,errW_none,errW_some]<;>rfl),by repeat (first | (with_reducible first | exact HB.out | apply below_alloc | apply pw_below_drewN | apply below_drew1 | refine below_set ?_ GE152.out | refine below_set ?_ GE153.out) | exact HB.out)⟩
              ·rw [if_neg c113] at H
               have c113b0 : (a1_0 == a0_1) = false:=beq_eq_false_iff_ne.mpr c113
               have c113b1 : (a1_0 != a0_1) = true:=bne_iff_ne.mpr c113
               have H':=aMx7 H
               clear H
               have hnb117:=NB152_153.out
               have hnc117:=NB153_152.out
               have hcz118_0 : wr.cell? ⟨gb152,0,none⟩ = some (.int .i64 a0_0):=(blk_cell BK152.out 0).trans rfl
               have hcz118_1 : wr.cell? ⟨gb152,1,none⟩ = some (.int .i64 a0_1):=(blk_cell BK152.out 1).trans rfl
               have hcz118_2 : wr.cell? ⟨gb152,2,none⟩ = some (.int .i64 a0_2):=(blk_cell BK152.out 2).trans rfl
               have hfz118_0:=blk_frozen BK152.out 0
               have hfz118_1:=blk_frozen BK152.out 1
               have hfz118_2:=blk_frozen BK152.out 2
               have hcz119_0 : wr.cell? ⟨gb153,0,none⟩ = some (.int .i64 a1_0):=(blk_cell BK153.out 0).trans rfl
               have hcz119_1 : wr.cell? ⟨gb153,1,none⟩ = some (.int .i64 a1_1):=(blk_cell BK153.out 1).trans rfl
               have hcz119_2 : wr.cell? ⟨gb153,2,none⟩ = some (.int .i64 a1_2):=(blk_cell BK153.out 2).trans rfl
               have hfz119_0:=blk_frozen BK153.out 0
               have hfz119_1:=blk_frozen BK153.out 1
               have hfz119_2:=blk_frozen BK153.out 2
               go_wp2
               go_roundg k2
               case measure => have:=HK1.out;have:=HK2.out;omega
               case rel => exact ⟨(wrap64 (2+1)),(by first | rfl | (simp;done) | (simp [*];done) | (simp [wrap64];done)),H',⟨by have:=HK1.out;have:=HK2.out;omega⟩,⟨by (with_reducible repeat (first | refine blk_drewN ?_ _ | refine blk_drew ?_ | refine blk_alloc ?_ _));exact BK152.out⟩,⟨by (with_reducible repeat (first | refine blk_drewN ?_ _ | refine blk_drew ?_ | refine blk_alloc ?_ _));exact BK153.out⟩,⟨by repeat (first | (with_reducible first | exact HB.out | apply below_alloc | apply pw_below_drewN | apply below_drew1 | refine below_set ?_ GE152.out | refine below_set ?_ GE153.out) | exact HB.out)⟩⟩
             ·rw [if_neg c112] at H
              have c112b0 : (a1_2 == a0_2) = false:=beq_eq_false_iff_ne.mpr c112
              have c112b1 : (a1_2 != a0_2) = true:=bne_iff_ne.mpr c112
              have H':=aMx7 H
              clear H
              have hnb120:=NB152_153.out
              have hnc120:=NB153_152.out
              have hcz121_0 : wr.cell? ⟨gb152,0,none⟩ = some (.int .i64 a0_0):=(blk_cell BK152.out 0).trans rfl
              have hcz121_1 : wr.cell? ⟨gb152,1,none⟩ = some (.int .i64 a0_1):=(blk_cell BK152.out 1).trans rfl
              have hcz121_2 : wr.cell? ⟨gb152,2,none⟩ = some (.int .i64 a0_2):=(blk_cell BK152.out 2).trans rfl
              have hfz121_0:=blk_frozen BK152.out 0
              have hfz121_1:=blk_frozen BK152.out 1
              have hfz121_2:=blk_frozen BK152.out 2
              have hcz122_0 : wr.cell? ⟨gb153,0,none⟩ = some (.int .i64 a1_0):=(blk_cell BK153.out 0).trans rfl
              have hcz122_1 : wr.cell? ⟨gb153,1,none⟩ = some (.int .i64 a1_1):=(blk_cell BK153.out 1).trans rfl
              have hcz122_2 : wr.cell? ⟨gb153,2,none⟩ = some (.int .i64 a1_2):=(blk_cell BK153.out 2).trans rfl
              have hfz122_0:=blk_frozen BK153.out 0
              have hfz122_1:=blk_frozen BK153.out 1
              have hfz122_2:=blk_frozen BK153.out 2
              go_wp2
              go_roundg k2
              case measure => have:=HK1.out;have:=HK2.out;omega
              case rel => exact ⟨(wrap64 (2+1)),(by first | rfl | (simp;done) | (simp [*];done) | (simp [wrap64];done)),H',⟨by have:=HK1.out;have:=HK2.out;omega⟩,⟨by (with_reducible repeat (first | refine blk_drewN ?_ _ | refine blk_drew ?_ | refine blk_alloc ?_ _));exact BK152.out⟩,⟨by (with_reducible repeat (first | refine blk_drewN ?_ _ | refine blk_drew ?_ | refine blk_alloc ?_ _));exact BK153.out⟩,⟨by repeat (first | (with_reducible first | exact HB.out | apply below_alloc | apply pw_below_drewN | apply below_drew1 | refine below_set ?_ GE152.out | refine below_set ?_ GE153.out) | exact HB.out)⟩⟩
            ·rw [if_neg c111] at H
             exact absurd H (by simp)
         ·rw [if_neg c86] at H
          have c86b0 : (a0_1 == a2) = false:=beq_eq_false_iff_ne.mpr c86
          have c86b1 : (a0_1 != a2) = true:=bne_iff_ne.mpr c86
          by_cases c123 : a0_2 = a2
          ·rw [if_pos c123] at H
           have c123b0 : (a0_2 == a2) = true:=beq_iff_eq.mpr c123
           have c123b1 : (a0_2 != a2) = false:=bne_eq_false_iff_eq.mpr c123
           clear c123
           by_cases c124 : x8_2 = 0
           ·rw [if_pos c124] at H
            subst c124
            by_cases c125 : a1_0 = a0_2
            ·rw [if_pos c125] at H
             have c125b0 : (a1_0 == a0_2) = true:=beq_iff_eq.mpr c125
             have c125b1 : (a1_0 != a0_2) = false:=bne_eq_false_iff_eq.mpr c125
             clear c125
             by_cases c126 : a1_1 = a0_1
             ·rw [if_pos c126] at H
              have c126b0 : (a1_1 == a0_1) = true:=beq_iff_eq.mpr c126
              have c126b1 : (a1_1 != a0_1) = false:=bne_eq_false_iff_eq.mpr c126
              clear c126
              obtain rfl:=Option.some.inj H
              have hnb127:=NB152_153.out
              have hnc127:=NB153_152.out
              have hcz128_0 : wr.cell? ⟨gb152,0,none⟩ = some (.int .i64 a0_0):=(blk_cell BK152.out 0).trans rfl
              have hcz128_1 : wr.cell? ⟨gb152,1,none⟩ = some (.int .i64 a0_1):=(blk_cell BK152.out 1).trans rfl
              have hcz128_2 : wr.cell? ⟨gb152,2,none⟩ = some (.int .i64 a0_2):=(blk_cell BK152.out 2).trans rfl
              have hfz128_0:=blk_frozen BK152.out 0
              have hfz128_1:=blk_frozen BK152.out 1
              have hfz128_2:=blk_frozen BK152.out 2
              have hcz129_0 : wr.cell? ⟨gb153,0,none⟩ = some (.int .i64 a1_0):=(blk_cell BK153.out 0).trans rfl
              have hcz129_1 : wr.cell? ⟨gb153,1,none⟩ = some (.int .i64 a1_1):=(blk_cell BK153.out 1).trans rfl
              have hcz129_2 : wr.cell? ⟨gb153,2,none⟩ = some (.int .i64 a1_2):=(blk_cell BK153.out 2).trans rfl
              have hfz129_0:=blk_frozen BK153.out 0
              have hfz129_1:=blk_frozen BK153.out 1
              have hfz129_2:=blk_frozen BK153.out 2
              go_wp2
              go_ret
              exact ⟨by first | rfl | (simp [errW_none,errW_some]<;>rfl) | (simp [*,errW_none,errW_some]<;>rfl),by repeat (first | (with_reducible first | exact HB.out | apply below_alloc | apply pw_below_drewN | apply below_drew1 | refine below_set ?_ GE152.out | refine below_set ?_ GE153.out) | exact HB.out)⟩
             ·rw [if_neg c126] at H
              have c126b0 : (a1_1 == a0_1) = false:=beq_eq_false_iff_ne.mpr c126
              have c126b1 : (a1_1 != a0_1) = true:=bne_iff_ne.mpr c126
              have H':=aMx7 H
              clear H
              have hnb130:=NB152_153.out
              have hnc130:=NB153_152.out
              have hcz131_0 : wr.cell? ⟨gb152,0,none⟩ = some (.int .i64 a0_0):=(blk_cell BK152.out 0).trans rfl
              have hcz131_1 : wr.cell? ⟨gb152,1,none⟩ = some (.int .i64 a0_1):=(blk_cell BK152.out 1).trans rfl
              have hcz131_2 : wr.cell? ⟨gb152,2,none⟩ = some (.int .i64 a0_2):=(blk_cell BK152.out 2).trans rfl
              have hfz131_0:=blk_frozen BK152.out 0
              have hfz131_1:=blk_frozen BK152.out 1
              have hfz131_2:=blk_frozen BK152.out 2
              have hcz132_0 : wr.cell? ⟨gb153,0,none⟩ = some (.int .i64 a1_0):=(blk_cell BK153.out 0).trans rfl
              have hcz132_1 : wr.cell? ⟨gb153,1,none⟩ = some (.int .i64 a1_1):=(blk_cell BK153.out 1).trans rfl
              have hcz132_2 : wr.cell? ⟨gb153,2,none⟩ = some (.int .i64 a1_2):=(blk_cell BK153.out 2).trans rfl
              have hfz132_0:=blk_frozen BK153.out 0
              have hfz132_1:=blk_frozen BK153.out 1
              have hfz132_2:=blk_frozen BK153.out 2
              go_wp2
              go_roundg k2
              case measure => have:=HK1.out;have:=HK2.out;omega
              case rel => exact ⟨(wrap64 (0+1)),(by first | rfl | (simp;done) | (simp [*];done) | (simp [wrap64];done)),H',⟨by have:=HK1.out;have:=HK2.out;omega⟩,⟨by (with_reducible repeat (first | refine blk_drewN ?_ _ | refine blk_drew ?_ | refine blk_alloc ?_ _));exact BK152.out⟩,⟨by (with_reducible repeat (first | refine blk_drewN ?_ _ | refine blk_drew ?_ | refine blk_alloc ?_ _));exact BK153.out⟩,⟨by repeat (first | (with_reducible first | exact HB.out | apply below_alloc | apply pw_below_drewN | apply below_drew1 | refine below_set ?_ GE152.out | refine below_set ?_ GE153.out) | exact HB.out)⟩⟩
            ·rw [if_neg c125] at H
             have c125b0 : (a1_0 == a0_2) = false:=beq_eq_false_iff_ne.mpr c125
             have c125b1 : (a1_0 != a0_2) = true:=bne_iff_ne.mpr c125
             have H':=aMx7 H
             clear H
             have hnb133:=NB152_153.out
             have hnc133:=NB153_152.out
             have hcz134_0 : wr.cell? ⟨gb152,0,none⟩ = some (.int .i64 a0_0):=(blk_cell BK152.out 0).trans rfl
             have hcz134_1 : wr.cell? ⟨gb152,1,none⟩ = some (.int .i64 a0_1):=(blk_cell BK152.out 1).trans rfl
             have hcz134_2 : wr.cell? ⟨gb152,2,none⟩ = some (.int .i64 a0_2):=(blk_cell BK152.out 2).trans rfl
             have hfz134_0:=blk_frozen BK152.out 0
             have hfz134_1:=blk_frozen BK152.out 1
             have hfz134_2:=blk_frozen BK152.out 2
             have hcz135_0 : wr.cell? ⟨gb153,0,none⟩ = some (.int .i64 a1_0):=(blk_cell BK153.out 0).trans rfl
             have hcz135_1 : wr.cell? ⟨gb153,1,none⟩ = some (.int .i64 a1_1):=(blk_cell BK153.out 1).trans rfl
             have hcz135_2 : wr.cell? ⟨gb153,2,none⟩ = some (.int .i64 a1_2):=(blk_cell BK153.out 2).trans rfl
             have hfz135_0:=blk_frozen BK153.out 0
             have hfz135_1:=blk_frozen BK153.out 1
             have hfz135_2:=blk_frozen BK153.out 2
             go_wp2
             go_roundg k2
             case measure => have:=HK1.out;have:=HK2.out;omega
             case rel => exact ⟨(wrap64 (0+1)),(by first | rfl | (simp;done) | (simp [*];done) | (simp [wrap64];done)),H',⟨by have:=HK1.out;have:=HK2.out;omega⟩,⟨by (with_reducible repeat (first | refine blk_drewN ?_ _ | refine blk_drew ?_ | refine blk_alloc ?_ _));exact BK152.out⟩,⟨by (with_reducible repeat (first | refine blk_drewN ?_ _ | refine blk_drew ?_ | refine blk_alloc ?_ _));exact BK153.out⟩,⟨by repeat (first | (with_reducible first | exact HB.out | apply below_alloc | apply pw_below_drewN | apply below_drew1 | refine below_set ?_ GE152.out | refine below_set ?_ GE153.out) | exact HB.out)⟩⟩
           ·rw [if_neg c124] at H
            by_cases c136 : x8_2 = 1
            ·rw [if_pos c136] at H
             subst c136
             by_cases c137 : a1_1 = a0_2
             ·rw [if_pos c137] at H
              have c137b0 : (a1_1 == a0_2) = true:=beq_iff_eq.mpr c137
              have c137b1 : (a1_1 != a0_2) = false:=bne_eq_false_iff_eq.mpr c137
              clear c137
              by_cases c138 : a1_2 = a0_1
              ·rw [if_pos c138] at H
               have c138b0 : (a1_2 == a0_1) = true:=beq_iff_eq.mpr c138
               have c138b1 : (a1_2 != a0_1) = false:=bne_eq_false_iff_eq.mpr c138
               clear c138
               obtain rfl:=Option.some.inj H
               have hnb139:=NB152_153.out
               have hnc139:=NB153_152.out
               have hcz140_0 : wr.cell? ⟨gb152,0,none⟩ = some (.int .i64 a0_0):=(blk_cell BK152.out 0).trans rfl
               have hcz140_1 : wr.cell? ⟨gb152,1,none⟩ = some (.int .i64 a0_1):=(blk_cell BK152.out 1).trans rfl
               have hcz140_2 : wr.cell? ⟨gb152,2,none⟩ = some (.int .i64 a0_2):=(blk_cell BK152.out 2).trans rfl
               have hfz140_0:=blk_frozen BK152.out 0
               have hfz140_1:=blk_frozen BK152.out 1
               have hfz140_2:=blk_frozen BK152.out 2
               have hcz141_0 : wr.cell? ⟨gb153,0,none⟩ = some (.int .i64 a1_0):=(blk_cell BK153.out 0).trans rfl
               have hcz141_1 : wr.cell? ⟨gb153,1,none⟩ = some (.int .i64 a1_1):=(blk_cell BK153.out 1).trans rfl
               have hcz141_2 : wr.cell? ⟨gb153,2,none⟩ = some (.int .i64 a1_2):=(blk_cell BK153.out 2).trans rfl
               have hfz141_0:=blk_frozen BK153.out 0
               have hfz141_1:=blk_frozen BK153.out 1
               have hfz141_2:=blk_frozen BK153.out 2
               go_wp2
               go_ret
               exact ⟨by first | rfl | (simp [errW_none,errW_some]<;>rfl) | (simp [*,errW_none,errW_some]<;>rfl),by repeat (first | (with_reducible first | exact HB.out | apply below_alloc | apply pw_below_drewN | apply below_drew1 | refine below_set ?_ GE152.out | refine below_set ?_ GE153.out) | exact HB.out)⟩
              ·rw [if_neg c138] at H
               have c138b0 : (a1_2 == a0_1) = false:=beq_eq_false_iff_ne.mpr c138
               have c138b1 : (a1_2 != a0_1) = true:=bne_iff_ne.mpr c138
               have H':=aMx7 H
               clear H
               have hnb142:=NB152_153.out
               have hnc142:=NB153_152.out
               have hcz143_0 : wr.cell? ⟨gb152,0,none⟩ = some (.int .i64 a0_0):=(blk_cell BK152.out 0).trans rfl
               have hcz143_1 : wr.cell? ⟨gb152,1,none⟩ = some (.int .i64 a0_1):=(blk_cell BK152.out 1).trans rfl
               have hcz143_2 : wr.cell? ⟨gb152,2,none⟩ = some (.int .i64 a0_2):=(blk_cell BK152.out 2).trans rfl
               have hfz143_0:=blk_frozen BK152.out 0
               have hfz143_1:=blk_frozen BK152.out 1
               have hfz143_2:=blk_frozen BK152.out 2
               have hcz144_0 : wr.cell? ⟨gb153,0,none⟩ = some (.int .i64 a1_0):=(blk_cell BK153.out 0).trans rfl
               have hcz144_1 : wr.cell? ⟨gb153,1,none⟩ = some (.int .i64 a1_1):=(blk_cell BK153.out 1).trans rfl
               have hcz144_2 : wr.cell? ⟨gb153,2,none⟩ = some (.int .i64 a1_2):=(blk_cell BK153.out 2).trans rfl
               have hfz144_0:=blk_frozen BK153.out 0
               have hfz144_1:=blk_frozen BK153.out 1
               have hfz144_2:=blk_frozen BK153.out 2
               go_wp2
               go_roundg k2
               case measure => have:=HK1.out;have:=HK2.out;omega
               case rel => exact ⟨(wrap64 (1+1)),(by first | rfl | (simp;done) | (simp [*];done) | (simp [wrap64];done)),H',⟨by have:=HK1.out;have:=HK2.out;omega⟩,⟨by (with_reducible repeat (first | refine blk_drewN ?_ _ | refine blk_drew ?_ | refine blk_alloc ?_ _));exact BK152.out⟩,⟨by (with_reducible repeat (first | refine blk_drewN ?_ _ | refine blk_drew ?_ | refine blk_alloc ?_ _));exact BK153.out⟩,⟨by repeat (first | (with_reducible first | exact HB.out | apply below_alloc | apply pw_below_drewN | apply below_drew1 | refine below_set ?_ GE152.out | refine below_set ?_ GE153.out) | exact HB.out)⟩⟩
             ·rw [if_neg c137] at H
              have c137b0 : (a1_1 == a0_2) = false:=beq_eq_false_iff_ne.mpr c137
              have c137b1 : (a1_1 != a0_2) = true:=bne_iff_ne.mpr c137
              have H':=aMx7 H
              clear H
              have hnb145:=NB152_153.out
              have hnc145:=NB153_152.out
              have hcz146_0 : wr.cell? ⟨gb152,0,none⟩ = some (.int .i64 a0_0):=(blk_cell BK152.out 0).trans rfl
              have hcz146_1 : wr.cell? ⟨gb152,1,none⟩ = some (.int .i64 a0_1):=(blk_cell BK152.out 1).trans rfl
              have hcz146_2 : wr.cell? ⟨gb152,2,none⟩ = some (.int .i64 a0_2):=(blk_cell BK152.out 2).trans rfl
              have hfz146_0:=blk_frozen BK152.out 0
              have hfz146_1:=blk_frozen BK152.out 1
              have hfz146_2:=blk_frozen BK152.out 2
              have hcz147_0 : wr.cell? ⟨gb153,0,none⟩ = some (.int .i64 a1_0):=(blk_cell BK153.out 0).trans rfl
              have hcz147_1 : wr.cell? ⟨gb153,1,none⟩ = some (.int .i64 a1_1):=(blk_cell BK153.out 1).trans rfl
              have hcz147_2 : wr.cell? ⟨gb153,2,none⟩ = some (.int .i64 a1_2):=(blk_cell BK153.out 2).trans rfl
              have hfz147_0:=blk_frozen BK153.out 0
              have hfz147_1:=blk_frozen BK153.out 1
              have hfz147_2:=blk_frozen BK153.out 2
              go_wp2
              go_roundg k2
              case measure => have:=HK1.out;have:=HK2.out;omega
              case rel => exact ⟨(wrap64 (1+1)),(by first | rfl | (simp;done) | (simp [*];done) | (simp [wrap64];done)),H',⟨by have:=HK1.out;have:=HK2.out;omega⟩,⟨by (with_reducible repeat (first | refine blk_drewN ?_ _ | refine blk_drew ?_ | refine blk_alloc ?_ _));exact BK152.out⟩,⟨by (with_reducible repeat (first | refine blk_drewN ?_ _ | refine blk_drew ?_ | refine blk_alloc ?_ _));exact BK153.out⟩,⟨by repeat (first | (with_reducible first | exact HB.out | apply below_alloc | apply pw_below_drewN | apply below_drew1 | refine below_set ?_ GE152.out | refine below_set ?_ GE153.out) | exact HB.out)⟩⟩
            ·rw [if_neg c136] at H
             by_cases c148 : x8_2 = 2
             ·rw [if_pos c148] at H
              subst c148
              by_cases c149 : a1_2 = a0_2
              ·rw [if_pos c149] at H
               have c149b0 : (a1_2 == a0_2) = true:=beq_iff_eq.mpr c149
               have c149b1 : (a1_2 != a0_2) = false:=bne_eq_false_iff_eq.mpr c149
               clear c149
               by_cases c150 : a1_0 = a0_1
               ·rw [if_pos c150] at H
                have c150b0 : (a1_0 == a0_1) = true:=beq_iff_eq.mpr c150
                have c150b1 : (a1_0 != a0_1) = false:=bne_eq_false_iff_eq.mpr c150
                clear c150
                obtain rfl:=Option.some.inj H
                have hnb151:=NB152_153.out
                have hnc151:=NB153_152.out
                have hcz152_0 : wr.cell? ⟨gb152,0,none⟩ = some (.int .i64 a0_0):=(blk_cell BK152.out 0).trans rfl
                have hcz152_1 : wr.cell? ⟨gb152,1,none⟩ = some (.int .i64 a0_1):=(blk_cell BK152.out 1).trans rfl
                have hcz152_2 : wr.cell? ⟨gb152,2,none⟩ = some (.int .i64 a0_2):=(blk_cell BK152.out 2).trans rfl
                have hfz152_0:=blk_frozen BK152.out 0
                have hfz152_1:=blk_frozen BK152.out 1
                have hfz152_2:=blk_frozen BK152.out 2
                have hcz153_0 : wr.cell? ⟨gb153,0,none⟩ = some (.int .i64 a1_0):=(blk_cell BK153.out 0).trans rfl
                have hcz153_1 : wr.cell? ⟨gb153,1,none⟩ = some (.int .i64 a1_1):=(blk_cell BK153.out 1).trans rfl
                have hcz153_2 : wr.cell? ⟨gb153,2,none⟩ = some (.int .i64 a1_2):=(blk_cell BK153.out 2).trans rfl
                have hfz153_0:=blk_frozen BK153.out 0
                have hfz153_1:=blk_frozen BK153.out 1
                have hfz153_2:=blk_frozen BK153.out 2
                go_wp2
                go_ret
                exact ⟨by first | rfl | (simp [errW_none,errW_some]<;>rfl) | (simp [*,errW_none,errW_some]<;>rfl),by repeat (first | (with_reducible first | exact HB.out | apply below_alloc | apply pw_below_drewN | apply below_drew1 | refine below_set ?_ GE152.out | refine below_set ?_ GE153.out) | exact HB.out)⟩
               ·rw [if_neg c150] at H
                have c150b0 : (a1_0 == a0_1) = false:=beq_eq_false_iff_ne.mpr c150
                have c150b1 : (a1_0 != a0_1) = true:=bne_iff_ne.mpr c150
                have H':=aMx7 H
                clear H
                have hnb154:=NB152_153.out
                have hnc154:=NB153_152.out
                have hcz155_0 : wr.cell? ⟨gb152,0,none⟩ = some (.int .i64 a0_0):=(blk_cell BK152.out 0).trans rfl
                have hcz155_1 : wr.cell? ⟨gb152,1,none⟩ = some (.int .i64 a0_1):=(blk_cell BK152.out 1).trans rfl
                have hcz155_2 : wr.cell? ⟨gb152,2,none⟩ = some (.int .i64 a0_2):=(blk_cell BK152.out 2).trans rfl
                have hfz155_0:=blk_frozen BK152.out 0
                have hfz155_1:=blk_frozen BK152.out 1
                have hfz155_2:=blk_frozen BK152.out 2
                have hcz156_0 : wr.cell? ⟨gb153,0,none⟩ = some (.int .i64 a1_0):=(blk_cell BK153.out 0).trans rfl
                have hcz156_1 : wr.cell? ⟨gb153,1,none⟩ = some (.int .i64 a1_1):=(blk_cell BK153.out 1).trans rfl
                have hcz156_2 : wr.cell? ⟨gb153,2,none⟩ = some (.int .i64 a1_2):=(blk_cell BK153.out 2).trans rfl
                have hfz156_0:=blk_frozen BK153.out 0
                have hfz156_1:=blk_frozen BK153.out 1
                have hfz156_2:=blk_frozen BK153.out 2
                go_wp2
                go_roundg k2
                case measure => have:=HK1.out;have:=HK2.out;omega
                case rel => exact ⟨(wrap64 (2+1)),(by first | rfl | (simp;done) | (simp [*];done) | (simp [wrap64];done)),H',⟨by have:=HK1.out;have:=HK2.out;omega⟩,⟨by (with_reducible repeat (first | refine blk_drewN ?_ _ | refine blk_drew ?_ | refine blk_alloc ?_ _));exact BK152.out⟩,⟨by (with_reducible repeat (first | refine blk_drewN ?_ _ | refine blk_drew ?_ | refine blk_alloc ?_ _));exact BK153.out⟩,⟨by repeat (first | (with_reducible first | exact HB.out | apply below_alloc | apply pw_below_drewN | apply below_drew1 | refine below_set ?_ GE152.out | refine below_set ?_ GE153.out) | exact HB.out)⟩⟩
              ·rw [if_neg c149] at H
               have c149b0 : (a1_2 == a0_2) = false:=beq_eq_false_iff_ne.mpr c149
               have c149b1 : (a1_2 != a0_2) = true:=bne_iff_ne.mpr c149
               have H':=aMx7 H
               clear H
               have hnb157:=NB152_153.out
               have hnc157:=NB153_152.out
               have hcz158_0 : wr.cell? ⟨gb152,0,none⟩ = some (.int .i64 a0_0):=(blk_cell BK152.out 0).trans rfl
               have hcz158_1 : wr.cell? ⟨gb152,1,none⟩ = some (.int .i64 a0_1):=(blk_cell BK152.out 1).trans rfl
               have hcz158_2 : wr.cell? ⟨gb152,2,none⟩ = some (.int .i64 a0_2):=(blk_cell BK152.out 2).trans rfl
               have hfz158_0:=blk_frozen BK152.out 0
               have hfz158_1:=blk_frozen BK152.out 1
               have hfz158_2:=blk_frozen BK152.out 2
               have hcz159_0 : wr.cell? ⟨gb153,0,none⟩ = some (.int .i64 a1_0):=(blk_cell BK153.out 0).trans rfl
               have hcz159_1 : wr.cell? ⟨gb153,1,none⟩ = some (.int .i64 a1_1):=(blk_cell BK153.out 1).trans rfl
               have hcz159_2 : wr.cell? ⟨gb153,2,none⟩ = some (.int .i64 a1_2):=(blk_cell BK153.out 2).trans rfl
               have hfz159_0:=blk_frozen BK153.out 0
               have hfz159_1:=blk_frozen BK153.out 1
               have hfz159_2:=blk_frozen BK153.out 2
               go_wp2
               go_roundg k2
               case measure => have:=HK1.out;have:=HK2.out;omega
               case rel => exact ⟨(wrap64 (2+1)),(by first | rfl | (simp;done) | (simp [*];done) | (simp [wrap64];done)),H',⟨by have:=HK1.out;have:=HK2.out;omega⟩,⟨by (with_reducible repeat (first | refine blk_drewN ?_ _ | refine blk_drew ?_ | refine blk_alloc ?_ _));exact BK152.out⟩,⟨by (with_reducible repeat (first | refine blk_drewN ?_ _ | refine blk_drew ?_ | refine blk_alloc ?_ _));exact BK153.out⟩,⟨by repeat (first | (with_reducible first | exact HB.out | apply below_alloc | apply pw_below_drewN | apply below_drew1 | refine below_set ?_ GE152.out | refine below_set ?_ GE153.out) | exact HB.out)⟩⟩
             ·rw [if_neg c148] at H
              exact absurd H (by simp)
          ·rw [if_neg c123] at H
           have c123b0 : (a0_2 == a2) = false:=beq_eq_false_iff_ne.mpr c123
           have c123b1 : (a0_2 != a2) = true:=bne_iff_ne.mpr c123
           have H':=aMx7 H
           clear H
           have hnb160:=NB152_153.out
           have hnc160:=NB153_152.out
           have hcz161_0 : wr.cell? ⟨gb152,0,none⟩ = some (.int .i64 a0_0):=(blk_cell BK152.out 0).trans rfl
           have hcz161_1 : wr.cell? ⟨gb152,1,none⟩ = some (.int .i64 a0_1):=(blk_cell BK152.out 1).trans rfl
           have hcz161_2 : wr.cell? ⟨gb152,2,none⟩ = some (.int .i64 a0_2):=(blk_cell BK152.out 2).trans rfl
           have hfz161_0:=blk_frozen BK152.out 0
           have hfz161_1:=blk_frozen BK152.out 1
           have hfz161_2:=blk_frozen BK152.out 2
           go_wp2
           go_roundg k2
           case measure => have:=HK1.out;have:=HK2.out;omega
           case rel => exact ⟨(wrap64 (x8_2+1)),(by first | rfl | (simp;done) | (simp [*];done) | (simp [wrap64];done)),H',⟨by have:=HK1.out;have:=HK2.out;omega⟩,⟨by (with_reducible repeat (first | refine blk_drewN ?_ _ | refine blk_drew ?_ | refine blk_alloc ?_ _));exact BK152.out⟩,⟨by (with_reducible repeat (first | refine blk_drewN ?_ _ | refine blk_drew ?_ | refine blk_alloc ?_ _));exact BK153.out⟩,⟨by repeat (first | (with_reducible first | exact HB.out | apply below_alloc | apply pw_below_drewN | apply below_drew1 | refine below_set ?_ GE152.out | refine below_set ?_ GE153.out) | exact HB.out)⟩⟩
        ·rw [if_neg c85] at H
         by_cases c162 : x7_1 = 2
         ·rw [if_pos c162] at H
          subst c162
          by_cases c163 : a0_2 = a2
          ·rw [if_pos c163] at H
           have c163b0 : (a0_2 == a2) = true:=beq_iff_eq.mpr c163
           have c163b1 : (a0_2 != a2) = false:=bne_eq_false_iff_eq.mpr c163
           clear c163
           by_cases c164 : x8_2 = 0
           ·rw [if_pos c164] at H
            subst c164
            by_cases c165 : a1_0 = a0_0
            ·rw [if_pos c165] at H
             have c165b0 : (a1_0 == a0_0) = true:=beq_iff_eq.mpr c165
             have c165b1 : (a1_0 != a0_0) = false:=bne_eq_false_iff_eq.mpr c165
             clear c165
             by_cases c166 : a1_1 = a0_2
             ·rw [if_pos c166] at H
              have c166b0 : (a1_1 == a0_2) = true:=beq_iff_eq.mpr c166
              have c166b1 : (a1_1 != a0_2) = false:=bne_eq_false_iff_eq.mpr c166
              clear c166
              obtain rfl:=Option.some.inj H
              have hnb167:=NB152_153.out
              have hnc167:=NB153_152.out
              have hcz168_0 : wr.cell? ⟨gb152,0,none⟩ = some (.int .i64 a0_0):=(blk_cell BK152.out 0).trans rfl
              have hcz168_1 : wr.cell? ⟨gb152,1,none⟩ = some (.int .i64 a0_1):=(blk_cell BK152.out 1).trans rfl
              have hcz168_2 : wr.cell? ⟨gb152,2,none⟩ = some (.int .i64 a0_2):=(blk_cell BK152.out 2).trans rfl
              have hfz168_0:=blk_frozen BK152.out 0
              have hfz168_1:=blk_frozen BK152.out 1
              have hfz168_2:=blk_frozen BK152.out 2
              have hcz169_0 : wr.cell? ⟨gb153,0,none⟩ = some (.int .i64 a1_0):=(blk_cell BK153.out 0).trans rfl
              have hcz169_1 : wr.cell? ⟨gb153,1,none⟩ = some (.int .i64 a1_1):=(blk_cell BK153.out 1).trans rfl
              have hcz169_2 : wr.cell? ⟨gb153,2,none⟩ = some (.int .i64 a1_2):=(blk_cell BK153.out 2).trans rfl
              have hfz169_0:=blk_frozen BK153.out 0
              have hfz169_1:=blk_frozen BK153.out 1
              have hfz169_2:=blk_frozen BK153.out 2
              go_wp2
              go_ret
              exact ⟨by first | rfl | (simp [errW_none,errW_some]<;>rfl) | (simp [*,errW_none,errW_some]<;>rfl),by repeat (first | (with_reducible first | exact HB.out | apply below_alloc | apply pw_below_drewN | apply below_drew1 | refine below_set ?_ GE152.out | refine below_set ?_ GE153.out) | exact HB.out)⟩
             ·rw [if_neg c166] at H
              have c166b0 : (a1_1 == a0_2) = false:=beq_eq_false_iff_ne.mpr c166
              have c166b1 : (a1_1 != a0_2) = true:=bne_iff_ne.mpr c166
              have H':=aMx7 H
              clear H
              have hnb170:=NB152_153.out
              have hnc170:=NB153_152.out
              have hcz171_0 : wr.cell? ⟨gb152,0,none⟩ = some (.int .i64 a0_0):=(blk_cell BK152.out 0).trans rfl
              have hcz171_1 : wr.cell? ⟨gb152,1,none⟩ = some (.int .i64 a0_1):=(blk_cell BK152.out 1).trans rfl
              have hcz171_2 : wr.cell? ⟨gb152,2,none⟩ = some (.int .i64 a0_2):=(blk_cell BK152.out 2).trans rfl
              have hfz171_0:=blk_frozen BK152.out 0
              have hfz171_1:=blk_frozen BK152.out 1
              have hfz171_2:=blk_frozen BK152.out 2
              have hcz172_0 : wr.cell? ⟨gb153,0,none⟩ = some (.int .i64 a1_0):=(blk_cell BK153.out 0).trans rfl
              have hcz172_1 : wr.cell? ⟨gb153,1,none⟩ = some (.int .i64 a1_1):=(blk_cell BK153.out 1).trans rfl
              have hcz172_2 : wr.cell? ⟨gb153,2,none⟩ = some (.int .i64 a1_2):=(blk_cell BK153.out 2).trans rfl
              have hfz172_0:=blk_frozen BK153.out 0
              have hfz172_1:=blk_frozen BK153.out 1
              have hfz172_2:=blk_frozen BK153.out 2
              go_wp2
              go_roundg k2
              case measure => have:=HK1.out;have:=HK2.out;omega
              case rel => exact ⟨(wrap64 (0+1)),(by first | rfl | (simp;done) | (simp [*];done) | (simp [wrap64];done)),H',⟨by have:=HK1.out;have:=HK2.out;omega⟩,⟨by (with_reducible repeat (first | refine blk_drewN ?_ _ | refine blk_drew ?_ | refine blk_alloc ?_ _));exact BK152.out⟩,⟨by (with_reducible repeat (first | refine blk_drewN ?_ _ | refine blk_drew ?_ | refine blk_alloc ?_ _));exact BK153.out⟩,⟨by repeat (first | (with_reducible first | exact HB.out | apply below_alloc | apply pw_below_drewN | apply below_drew1 | refine below_set ?_ GE152.out | refine below_set ?_ GE153.out) | exact HB.out)⟩⟩
            ·rw [if_neg c165] at H
             have c165b0 : (a1_0 == a0_0) = false:=beq_eq_false_iff_ne.mpr c165
             have c165b1 : (a1_0 != a0_0) = true:=bne_iff_ne.mpr c165
             have H':=aMx7 H
             clear H
             have hnb173:=NB152_153.out
             have hnc173:=NB153_152.out
             have hcz174_0 : wr.cell? ⟨gb152,0,none⟩ = some (.int .i64 a0_0):=(blk_cell BK152.out 0).trans rfl
             have hcz174_1 : wr.cell? ⟨gb152,1,none⟩ = some (.int .i64 a0_1):=(blk_cell BK152.out 1).trans rfl
             have hcz174_2 : wr.cell? ⟨gb152,2,none⟩ = some (.int .i64 a0_2):=(blk_cell BK152.out 2).trans rfl
             have hfz174_0:=blk_frozen BK152.out 0
             have hfz174_1:=blk_frozen BK152.out 1
             have hfz174_2:=blk_frozen BK152.out 2
             have hcz175_0 : wr.cell? ⟨gb153,0,none⟩ = some (.int .i64 a1_0):=(blk_cell BK153.out 0).trans rfl
             have hcz175_1 : wr.cell? ⟨gb153,1,none⟩ = some (.int .i64 a1_1):=(blk_cell BK153.out 1).trans rfl
             have hcz175_2 : wr.cell? ⟨gb153,2,none⟩ = some (.int .i64 a1_2):=(blk_cell BK153.out 2).trans rfl
             have hfz175_0:=blk_frozen BK153.out 0
             have hfz175_1:=blk_frozen BK153.out 1
             have hfz175_2:=blk_frozen BK153.out 2
             go_wp2
             go_roundg k2
             case measure => have:=HK1.out;have:=HK2.out;omega
             case rel => exact ⟨(wrap64 (0+1)),(by first | rfl | (simp;done) | (simp [*];done) | (simp [wrap64];done)),H',⟨by have:=HK1.out;have:=HK2.out;omega⟩,⟨by (with_reducible repeat (first | refine blk_drewN ?_ _ | refine blk_drew ?_ | refine blk_alloc ?_ _));exact BK152.out⟩,⟨by (with_reducible repeat (first | refine blk_drewN ?_ _ | refine blk_drew ?_ | refine blk_alloc ?_ _));exact BK153.out⟩,⟨by repeat (first | (with_reducible first | exact HB.out | apply below_alloc | apply pw_below_drewN | apply below_drew1 | refine below_set ?_ GE152.out | refine below_set ?_ GE153.out) | exact HB.out)⟩⟩
           ·rw [if_neg c164] at H
            by_cases c176 : x8_2 = 1
            ·rw [if_pos c176] at H
             subst c176
             by_cases c177 : a1_1 = a0_0
             ·rw [if_pos c177] at H
              have c177b0 : (a1_1 == a0_0) = true:=beq_iff_eq.mpr c177
              have c177b1 : (a1_1 != a0_0) = false:=bne_eq_false_iff_eq.mpr c177
              clear c177
              by_cases c178 : a1_2 = a0_2
              ·rw [if_pos c178] at H
               have c178b0 : (a1_2 == a0_2) = true:=beq_iff_eq.mpr c178
               have c178b1 : (a1_2 != a0_2) = false:=bne_eq_false_iff_eq.mpr c178
               clear c178
               obtain rfl:=Option.some.inj H
               have hnb179:=NB152_153.out
               have hnc179:=NB153_152.out
               have hcz180_0 : wr.cell? ⟨gb152,0,none⟩ = some (.int .i64 a0_0):=(blk_cell BK152.out 0).trans rfl
               have hcz180_1 : wr.cell? ⟨gb152,1,none⟩ = some (.int .i64 a0_1):=(blk_cell BK152.out 1).trans rfl
               have hcz180_2 : wr.cell? ⟨gb152,2,none⟩ = some (.int .i64 a0_2):=(blk_cell BK152.out 2).trans rfl
               have hfz180_0:=blk_frozen BK152.out 0
               have hfz180_1:=blk_frozen BK152.out 1
               have hfz180_2:=blk_frozen BK152.out 2
               have hcz181_0 : wr.cell? ⟨gb153,0,none⟩ = some (.int .i64 a1_0):=(blk_cell BK153.out 0).trans rfl
               have hcz181_1 : wr.cell? ⟨gb153,1,none⟩ = some (.int .i64 a1_1):=(blk_cell BK153.out 1).trans rfl
               have hcz181_2 : wr.cell? ⟨gb153,2,none⟩ = some (.int .i64 a1_2):=(blk_cell BK153.out 2).trans rfl
               have hfz181_0:=blk_frozen BK153.out 0
               have hfz181_1:=blk_frozen BK153.out 1
               have hfz181_2:=blk_frozen BK153.out 2
               go_wp2
               go_ret
               exact ⟨by first | rfl | (simp [errW_none,errW_some]<;>rfl) | (simp [*,errW_none,errW_some]<;>rfl),by repeat (first | (with_reducible first | exact HB.out | apply below_alloc | apply pw_below_drewN | apply below_drew1 | refine below_set ?_ GE152.out | refine below_set ?_ GE153.out) | exact HB.out)⟩
              ·rw [if_neg c178] at H
               have c178b0 : (a1_2 == a0_2) = false:=beq_eq_false_iff_ne.mpr c178
               have c178b1 : (a1_2 != a0_2) = true:=bne_iff_ne.mpr c178
               have H':=aMx7 H
               clear H
               have hnb182:=NB152_153.out
               have hnc182:=NB153_152.out
               have hcz183_0 : wr.cell? ⟨gb152,0,none⟩ = some (.int .i64 a0_0):=(blk_cell BK152.out 0).trans rfl
               have hcz183_1 : wr.cell? ⟨gb152,1,none⟩ = some (.int .i64 a0_1):=(blk_cell BK152.out 1).trans rfl
               have hcz183_2 : wr.cell? ⟨gb152,2,none⟩ = some (.int .i64 a0_2):=(blk_cell BK152.out 2).trans rfl
               have hfz183_0:=blk_frozen BK152.out 0
               have hfz183_1:=blk_frozen BK152.out 1
               have hfz183_2:=blk_frozen BK152.out 2
               have hcz184_0 : wr.cell? ⟨gb153,0,none⟩ = some (.int .i64 a1_0):=(blk_cell BK153.out 0).trans rfl
               have hcz184_1 : wr.cell? ⟨gb153,1,none⟩ = some (.int .i64 a1_1):=(blk_cell BK153.out 1).trans rfl
               have hcz184_2 : wr.cell? ⟨gb153,2,none⟩ = some (.int .i64 a1_2):=(blk_cell BK153.out 2).trans rfl
               have hfz184_0:=blk_frozen BK153.out 0
               have hfz184_1:=blk_frozen BK153.out 1
               have hfz184_2:=blk_frozen BK153.out 2
               go_wp2
               go_roundg k2
               case measure => have:=HK1.out;have:=HK2.out;omega
               case rel => exact ⟨(wrap64 (1+1)),(by first | rfl | (simp;done) | (simp [*];done) | (simp [wrap64];done)),H',⟨by have:=HK1.out;have:=HK2.out;omega⟩,⟨by (with_reducible repeat (first | refine blk_drewN ?_ _ | refine blk_drew ?_ | refine blk_alloc ?_ _));exact BK152.out⟩,⟨by (with_reducible repeat (first | refine blk_drewN ?_ _ | refine blk_drew ?_ | refine blk_alloc ?_ _));exact BK153.out⟩,⟨by repeat (first | (with_reducible first | exact HB.out | apply below_alloc | apply pw_below_drewN | apply below_drew1 | refine below_set ?_ GE152.out | refine below_set ?_ GE153.out) | exact HB.out)⟩⟩
             ·rw [if_neg c177] at H
              have c177b0 : (a1_1 == a0_0) = false:=beq_eq_false_iff_ne.mpr c177
              have c177b1 : (a1_1 != a0_0) = true:=bne_iff_ne.mpr c177
              have H':=aMx7 H
              clear H
              have hnb185:=NB152_153.out
              have hnc185:=NB153_152.out
              have hcz186_0 : wr.cell? ⟨gb152,0,none⟩ = some (.int .i64 a0_0):=(blk_cell BK152.out 0).trans rfl
              have hcz186_1 : wr.cell? ⟨gb152,1,none⟩ = some (.int .i64 a0_1):=(blk_cell BK152.out 1).trans rfl
              have hcz186_2 : wr.cell? ⟨gb152,2,none⟩ = some (.int .i64 a0_2):=(blk_cell BK152.out 2).trans rfl
              have hfz186_0:=blk_frozen BK152.out 0
              have hfz186_1:=blk_frozen BK152.out 1
              have hfz186_2:=blk_frozen BK152.out 2
              have hcz187_0 : wr.cell? ⟨gb153,0,none⟩ = some (.int .i64 a1_0):=(blk_cell BK153.out 0).trans rfl
              have hcz187_1 : wr.cell? ⟨gb153,1,none⟩ = some (.int .i64 a1_1):=(blk_cell BK153.out 1).trans rfl
              have hcz187_2 : wr.cell? ⟨gb153,2,none⟩ = some (.int .i64 a1_2):=(blk_cell BK153.out 2).trans rfl
              have hfz187_0:=blk_frozen BK153.out 0
              have hfz187_1:=blk_frozen BK153.out 1
              have hfz187_2:=blk_frozen BK153.out 2
              go_wp2
              go_roundg k2
              case measure => have:=HK1.out;have:=HK2.out;omega
              case rel => exact ⟨(wrap64 (1+1)),(by first | rfl | (simp;done) | (simp [*];done) | (simp [wrap64];done)),H',⟨by have:=HK1.out;have:=HK2.out;omega⟩,⟨by (with_reducible repeat (first | refine blk_drewN ?_ _ | refine blk_drew ?_ | refine blk_alloc ?_ _));exact BK152.out⟩,⟨by (with_reducible repeat (first | refine blk_drewN ?_ _ | refine blk_drew ?_ | refine blk_alloc ?_ _));exact BK153.out⟩,⟨by repeat (first | (with_reducible first | exact HB.out | apply below_alloc | apply pw_below_drewN | apply below_drew1 | refine below_set ?_ GE152.out | refine below_set ?_ GE153.out) | exact HB.out)⟩⟩
            ·rw [if_neg c176] at H
             by_cases c188 : x8_2 = 2
             ·rw [if_pos c188] at H
              subst c188
              by_cases c189 : a1_2 = a0_0
              ·rw [if_pos c189] at H
               have c189b0 : (a1_2 == a0_0) = true:=beq_iff_eq.mpr c189
               have c189b1 : (a1_2 != a0_0) = false:=bne_eq_false_iff_eq.mpr c189
               clear c189
               by_cases c190 : a1_0 = a0_2
               ·rw [if_pos c190] at H
                have c190b0 : (a1_0 == a0_2) = true:=beq_iff_eq.mpr c190
                have c190b1 : (a1_0 != a0_2) = false:=bne_eq_false_iff_eq.mpr c190
                clear c190
                obtain rfl:=Option.some.inj H
                have hnb191:=NB152_153.out
                have hnc191:=NB153_152.out
                have hcz192_0 : wr.cell? ⟨gb152,0,none⟩ = some (.int .i64 a0_0):=(blk_cell BK152.out 0).trans rfl
                have hcz192_1 : wr.cell? ⟨gb152,1,none⟩ = some (.int .i64 a0_1):=(blk_cell BK152.out 1).trans rfl
                have hcz192_2 : wr.cell? ⟨gb152,2,none⟩ = some (.int .i64 a0_2):=(blk_cell BK152.out 2).trans rfl
                have hfz192_0:=blk_frozen BK152.out 0
                have hfz192_1:=blk_frozen BK152.out 1
                have hfz192_2:=blk_frozen BK152.out 2
                have hcz193_0 : wr.cell? ⟨gb153,0,none⟩ = some (.int .i64 a1_0):=(blk_cell BK153.out 0).trans rfl
                have hcz193_1 : wr.cell? ⟨gb153,1,none⟩ = some (.int .i64 a1_1):=(blk_cell BK153.out 1).trans rfl
                have hcz193_2 : wr.cell? ⟨gb153,2,none⟩ = some (.int .i64 a1_2):=(blk_cell BK153.out 2).trans rfl
                have hfz193_0:=blk_frozen BK153.out 0
                have hfz193_1:=blk_frozen BK153.out 1
                have hfz193_2:=blk_frozen BK153.out 2
                go_wp2
                go_ret
                exact ⟨by first | rfl | (simp [errW_none,errW_some]<;>rfl) | (simp [*,errW_none,errW_some]<;>rfl),by repeat (first | (with_reducible first | exact HB.out | apply below_alloc | apply pw_below_drewN | apply below_drew1 | refine below_set ?_ GE152.out | refine below_set ?_ GE153.out) | exact HB.out)⟩
               ·rw [if_neg c190] at H
                have c190b0 : (a1_0 == a0_2) = false:=beq_eq_false_iff_ne.mpr c190
                have c190b1 : (a1_0 != a0_2) = true:=bne_iff_ne.mpr c190
                have H':=aMx7 H
                clear H
                have hnb194:=NB152_153.out
                have hnc194:=NB153_152.out
                have hcz195_0 : wr.cell? ⟨gb152,0,none⟩ = some (.int .i64 a0_0):=(blk_cell BK152.out 0).trans rfl
                have hcz195_1 : wr.cell? ⟨gb152,1,none⟩ = some (.int .i64 a0_1):=(blk_cell BK152.out 1).trans rfl
                have hcz195_2 : wr.cell? ⟨gb152,2,none⟩ = some (.int .i64 a0_2):=(blk_cell BK152.out 2).trans rfl
                have hfz195_0:=blk_frozen BK152.out 0
                have hfz195_1:=blk_frozen BK152.out 1
                have hfz195_2:=blk_frozen BK152.out 2
                have hcz196_0 : wr.cell? ⟨gb153,0,none⟩ = some (.int .i64 a1_0):=(blk_cell BK153.out 0).trans rfl
                have hcz196_1 : wr.cell? ⟨gb153,1,none⟩ = some (.int .i64 a1_1):=(blk_cell BK153.out 1).trans rfl
                have hcz196_2 : wr.cell? ⟨gb153,2,none⟩ = some (.int .i64 a1_2):=(blk_cell BK153.out 2).trans rfl
                have hfz196_0:=blk_frozen BK153.out 0
                have hfz196_1:=blk_frozen BK153.out 1
                have hfz196_2:=blk_frozen BK153.out 2
                go_wp2
                go_roundg k2
                case measure => have:=HK1.out;have:=HK2.out;omega
                case rel => exact ⟨(wrap64 (2+1)),(by first | rfl | (simp;done) | (simp [*];done) | (simp [wrap64];done)),H',⟨by have:=HK1.out;have:=HK2.out;omega⟩,⟨by (with_reducible repeat (first | refine blk_drewN ?_ _ | refine blk_drew ?_ | refine blk_alloc ?_ _));exact BK152.out⟩,⟨by (with_reducible repeat (first | refine blk_drewN ?_ _ | refine blk_drew ?_ | refine blk_alloc ?_ _));exact BK153.out⟩,⟨by repeat (first | (with_reducible first | exact HB.out | apply below_alloc | apply pw_below_drewN | apply below_drew1 | refine below_set ?_ GE152.out | refine below_set ?_ GE153.out) | exact HB.out)⟩⟩
              ·rw [if_neg c189] at H
               have c189b0 : (a1_2 == a0_0) = false:=beq_eq_false_iff_ne.mpr c189
               have c189b1 : (a1_2 != a0_0) = true:=bne_iff_ne.mpr c189
               have H':=aMx7 H
               clear H
               have hnb197:=NB152_153.out
               have hnc197:=NB153_152.out
               have hcz198_0 : wr.cell? ⟨gb152,0,none⟩ = some (.int .i64 a0_0):=(blk_cell BK152.out 0).trans rfl
               have hcz198_1 : wr.cell? ⟨gb152,1,none⟩ = some (.int .i64 a0_1):=(blk_cell BK152.out 1).trans rfl
               have hcz198_2 : wr.cell? ⟨gb152,2,none⟩ = some (.int .i64 a0_2):=(blk_cell BK152.out 2).trans rfl
               have hfz198_0:=blk_frozen BK152.out 0
               have hfz198_1:=blk_frozen BK152.out 1
               have hfz198_2:=blk_frozen BK152.out 2
               have hcz199_0 : wr.cell? ⟨gb153,0,none⟩ = some (.int .i64 a1_0):=(blk_cell BK153.out 0).trans rfl
               have hcz199_1 : wr.cell? ⟨gb153,1,none⟩ = some (.int .i64 a1_1):=(blk_cell BK153.out 1).trans rfl
               have hcz199_2 : wr.cell? ⟨gb153,2,none⟩ = some (.int .i64 a1_2):=(blk_cell BK153.out 2).trans rfl
               have hfz199_0:=blk_frozen BK153.out 0
               have hfz199_1:=blk_frozen BK153.out 1
               have hfz199_2:=blk_frozen BK153.out 2
               go_wp2
               go_roundg k2
               case measure => have:=HK1.out;have:=HK2.out;omega
               case rel => exact ⟨(wrap64 (2+1)),(by first | rfl | (simp;done) | (simp [*];done) | (simp [wrap64];done)),H',⟨by have:=HK1.out;have:=HK2.out;omega⟩,⟨by (with_reducible repeat (first | refine blk_drewN ?_ _ | refine blk_drew ?_ | refine blk_alloc ?_ _));exact BK152.out⟩,⟨by (with_reducible repeat (first | refine blk_drewN ?_ _ | refine blk_drew ?_ | refine blk_alloc ?_ _));exact BK153.out⟩,⟨by repeat (first | (with_reducible first | exact HB.out | apply below_alloc | apply pw_below_drewN | apply below_drew1 | refine below_set ?_ GE152.out | refine below_set ?_ GE153.out) | exact HB.out)⟩⟩
             ·rw [if_neg c188] at H
              exact absurd H (by simp)
          ·rw [if_neg c163] at H
           have c163b0 : (a0_2 == a2) = false:=beq_eq_false_iff_ne.mpr c163
           have c163b1 : (a0_2 != a2) = true:=bne_iff_ne.mpr c163
           by_cases c200 : a0_0 = a2
           ·rw [if_pos c200] at H
            have c200b0 : (a0_0 == a2) = true:=beq_iff_eq.mpr c200
            have c200b1 : (a0_0 != a2) = false:=bne_eq_false_iff_eq.mpr c200
            clear c200
            by_cases c201 : x8_2 = 0
            ·rw [if_pos c201] at H
             subst c201
             by_cases c202 : a1_0 = a0_0
             ·rw [if_pos c202] at H
              have c202b0 : (a1_0 == a0_0) = true:=beq_iff_eq.mpr c202
              have c202b1 : (a1_0 != a0_0) = false:=bne_eq_false_iff_eq.mpr c202
              clear c202
              by_cases c203 : a1_1 = a0_2
              ·rw [if_pos c203] at H
               have c203b0 : (a1_1 == a0_2) = true:=beq_iff_eq.mpr c203
               have c203b1 : (a1_1 != a0_2) = false:=bne_eq_false_iff_eq.mpr c203
               clear c203
               obtain rfl:=Option.some.inj H
               have hnb204:=NB152_153.out
               have hnc204:=NB153_152.out
               have hcz205_0 : wr.cell? ⟨gb152,0,none⟩ = some (.int .i64 a0_0):=(blk_cell BK152.out 0).trans rfl
               have hcz205_1 : wr.cell? ⟨gb152,1,none⟩ = some (.int .i64 a0_1):=(blk_cell BK152.out 1).trans rfl
               have hcz205_2 : wr.cell? ⟨gb152,2,none⟩ = some (.int .i64 a0_2):=(blk_cell BK152.out 2).trans rfl
               have hfz205_0:=blk_frozen BK152.out 0
               have hfz205_1:=blk_frozen BK152.out 1
               have hfz205_2:=blk_frozen BK152.out 2
               have hcz206_0 : wr.cell? ⟨gb153,0,none⟩ = some (.int .i64 a1_0):=(blk_cell BK153.out 0).trans rfl
               have hcz206_1 : wr.cell? ⟨gb153,1,none⟩ = some (.int .i64 a1_1):=(blk_cell BK153.out 1).trans rfl
               have hcz206_2 : wr.cell? ⟨gb153,2,none⟩ = some (.int .i64 a1_2):=(blk_cell BK153.out 2).trans rfl
               have hfz206_0:=blk_frozen BK153.out 0
               have hfz206_1:=blk_frozen BK153.out 1
               have hfz206_2:=blk_frozen BK153.out 2
               go_wp2
               go_ret
               exact ⟨by first | rfl | (simp [errW_none,errW_some]<;>rfl) | (simp [*,errW_none,errW_some]<;>rfl),by repeat (first | (with_reducible first | exact HB.out | apply below_alloc | apply pw_below_drewN | apply below_drew1 | refine below_set ?_ GE152.out | refine below_set ?_ GE153.out) | exact HB.out)⟩
              ·rw [if_neg c203] at H
               have c203b0 : (a1_1 == a0_2) = false:=beq_eq_false_iff_ne.mpr c203
               have c203b1 : (a1_1 != a0_2) = true:=bne_iff_ne.mpr c203
               have H':=aMx7 H
               clear H
               have hnb207:=NB152_153.out
               have hnc207:=NB153_152.out
               have hcz208_0 : wr.cell? ⟨gb152,0,none⟩ = some (.int .i64 a0_0):=(blk_cell BK152.out 0).trans rfl
               have hcz208_1 : wr.cell? ⟨gb152,1,none⟩ = some (.int .i64 a0_1):=(blk_cell BK152.out 1).trans rfl
               have hcz208_2 : wr.cell? ⟨gb152,2,none⟩ = some (.int .i64 a0_2):=(blk_cell BK152.out 2).trans rfl
               have hfz208_0:=blk_frozen BK152.out 0
               have hfz208_1:=blk_frozen BK152.out 1
               have hfz208_2:=blk_frozen BK152.out 2
               have hcz209_0 : wr.cell? ⟨gb153,0,none⟩ = some (.int .i64 a1_0):=(blk_cell BK153.out 0).trans rfl
               have hcz209_1 : wr.cell? ⟨gb153,1,none⟩ = some (.int .i64 a1_1):=(blk_cell BK153.out 1).trans rfl
               have hcz209_2 : wr.cell? ⟨gb153,2,none⟩ = some (.int .i64 a1_2):=(blk_cell BK153.out 2).trans rfl
               have hfz209_0:=blk_frozen BK153.out 0
               have hfz209_1:=blk_frozen BK153.out 1
               have hfz209_2:=blk_frozen BK153.out 2
               go_wp2
               go_roundg k2
               case measure => have:=HK1.out;have:=HK2.out;omega
               case rel => exact ⟨(wrap64 (0+1)),(by first | rfl | (simp;done) | (simp [*];done) | (simp [wrap64];done)),H',⟨by have:=HK1.out;have:=HK2.out;omega⟩,⟨by (with_reducible repeat (first | refine blk_drewN ?_ _ | refine blk_drew ?_ | refine blk_alloc ?_ _));exact BK152.out⟩,⟨by (with_reducible repeat (first | refine blk_drewN ?_ _ | refine blk_drew ?_ | refine blk_alloc ?_ _));exact BK153.out⟩,⟨by repeat (first | (with_reducible first | exact HB.out | apply below_alloc | apply pw_below_drewN | apply below_drew1 | refine below_set ?_ GE152.out | refine below_set ?_ GE153.out) | exact HB.out)⟩⟩
             ·rw [if_neg c202] at H
              have c202b0 : (a1_0 == a0_0) = false:=beq_eq_false_iff_ne.mpr c202
              have c202b1 : (a1_0 != a0_0) = true:=bne_iff_ne.mpr c202
              have H':=aMx7 H
              clear H
              have hnb210:=NB152_153.out
              have hnc210:=NB153_152.out
              have hcz211_0 : wr.cell? ⟨gb152,0,none⟩ = some (.int .i64 a0_0):=(blk_cell BK152.out 0).trans rfl
              have hcz211_1 : wr.cell? ⟨gb152,1,none⟩ = some (.int .i64 a0_1):=(blk_cell BK152.out 1).trans rfl
              have hcz211_2 : wr.cell? ⟨gb152,2,none⟩ = some (.int .i64 a0_2):=(blk_cell BK152.out 2).trans rfl
              have hfz211_0:=blk_frozen BK152.out 0
              have hfz211_1:=blk_frozen BK152.out 1
              have hfz211_2:=blk_frozen BK152.out 2
              have hcz212_0 : wr.cell? ⟨gb153,0,none⟩ = some (.int .i64 a1_0):=(blk_cell BK153.out 0).trans rfl
              have hcz212_1 : wr.cell? ⟨gb153,1,none⟩ = some (.int .i64 a1_1):=(blk_cell BK153.out 1).trans rfl
              have hcz212_2 : wr.cell? ⟨gb153,2,none⟩ = some (.int .i64 a1_2):=(blk_cell BK153.out 2).trans rfl
              have hfz212_0:=blk_frozen BK153.out 0
              have hfz212_1:=blk_frozen BK153.out 1
              have hfz212_2:=blk_frozen BK153.out 2
              go_wp2
              go_roundg k2
              case measure => have:=HK1.out;have:=HK2.out;omega
              case rel => exact ⟨(wrap64 (0+1)),(by first | rfl | (simp;done) | (simp [*];done) | (simp [wrap64];done)),H',⟨by have:=HK1.out;have:=HK2.out;omega⟩,⟨by (with_reducible repeat (first | refine blk_drewN ?_ _ | refine blk_drew ?_ | refine blk_alloc ?_ _));exact BK152.out⟩,⟨by (with_reducible repeat (first | refine blk_drewN ?_ _ | refine blk_drew ?_ | refine blk_alloc ?_ _));exact BK153.out⟩,⟨by repeat (first | (with_reducible first | exact HB.out | apply below_alloc | apply pw_below_drewN | apply below_drew1 | refine below_set ?_ GE152.out | refine below_set ?_ GE153.out) | exact HB.out)⟩⟩
            ·rw [if_neg c201] at H
             by_cases c213 : x8_2 = 1
             ·rw [if_pos c213] at H
              subst c213
              by_cases c214 : a1_1 = a0_0
              ·rw [if_pos c214] at H
               have c214b0 : (a1_1 == a0_0) = true:=beq_iff_eq.mpr c214
               have c214b1 : (a1_1 != a0_0) = false:=bne_eq_false_iff_eq.mpr c214
               clear c214
               by_cases c215 : a1_2 = a0_2
               ·rw [if_pos c215] at H
                have c215b0 : (a1_2 == a0_2) = true:=beq_iff_eq.mpr c215
                have c215b1 : (a1_2 != a0_2) = false:=bne_eq_false_iff_eq.mpr c215
                clear c215
                obtain rfl:=Option.some.inj H
                have hnb216:=NB152_153.out
                have hnc216:=NB153_152.out
                have hcz217_0 : wr.cell? ⟨gb152,0,none⟩ = some (.int .i64 a0_0):=(blk_cell BK152.out 0).trans rfl
                have hcz217_1 : wr.cell? ⟨gb152,1,none⟩ = some (.int .i64 a0_1):=(blk_cell BK152.out 1).trans rfl
                have hcz217_2 : wr.cell? ⟨gb152,2,none⟩ = some (.int .i64 a0_2):=(blk_cell BK152.out 2).trans rfl
                have hfz217_0:=blk_frozen BK152.out 0
                have hfz217_1:=blk_frozen BK152.out 1
                have hfz217_2:=blk_frozen BK152.out 2
                have hcz218_0 : wr.cell? ⟨gb153,0,none⟩ = some (.int .i64 a1_0):=(blk_cell BK153.out 0).trans rfl
                have hcz218_1 : wr.cell? ⟨gb153,1,none⟩ = some (.int .i64 a1_1):=(blk_cell BK153.out 1).trans rfl
                have hcz218_2 : wr.cell? ⟨gb153,2,none⟩ = some (.int .i64 a1_2):=(blk_cell BK153.out 2).trans rfl
                have hfz218_0:=blk_frozen BK153.out 0
                have hfz218_1:=blk_frozen BK153.out 1
                have hfz218_2:=blk_frozen BK153.out 2
                go_wp2
                go_ret
                exact ⟨by first | rfl | (simp [errW_none,errW_some]<;>rfl) | (simp [*,errW_none,errW_some]<;>rfl),by repeat (first | (with_reducible first | exact HB.out | apply below_alloc | apply pw_below_drewN | apply below_drew1 | refine below_set ?_ GE152.out | refine below_set ?_ GE153.out) | exact HB.out)⟩
               ·rw [if_neg c215] at H
                have c215b0 : (a1_2 == a0_2) = false:=beq_eq_false_iff_ne.mpr c215
                have c215b1 : (a1_2 != a0_2) = true:=bne_iff_ne.mpr c215
                have H':=aMx7 H
                clear H
                have hnb219:=NB152_153.out
                have hnc219:=NB153_152.out
                have hcz220_0 : wr.cell? ⟨gb152,0,none⟩ = some (.int .i64 a0_0):=(blk_cell BK152.out 0).trans rfl
                have hcz220_1 : wr.cell? ⟨gb152,1,none⟩ = some (.int .i64 a0_1):=(blk_cell BK152.out 1).trans rfl
                have hcz220_2 : wr.cell? ⟨gb152,2,none⟩ = some (.int .i64 a0_2):=(blk_cell BK152.out 2).trans rfl
                have hfz220_0:=blk_frozen BK152.out 0
                have hfz220_1:=blk_frozen BK152.out 1
                have hfz220_2:=blk_frozen BK152.out 2
                have hcz221_0 : wr.cell? ⟨gb153,0,none⟩ = some (.int .i64 a1_0):=(blk_cell BK153.out 0).trans rfl
                have hcz221_1 : wr.cell? ⟨gb153,1,none⟩ = some (.int .i64 a1_1):=(blk_cell BK153.out 1).trans rfl
                have hcz221_2 : wr.cell? ⟨gb153,2,none⟩ = some (.int .i64 a1_2):=(blk_cell BK153.out 2).trans rfl
                have hfz221_0:=blk_frozen BK153.out 0
                have hfz221_1:=blk_frozen BK153.out 1
                have hfz221_2:=blk_frozen BK153.out 2
                go_wp2
                go_roundg k2
                case measure => have:=HK1.out;have:=HK2.out;omega
                case rel => exact ⟨(wrap64 (1+1)),(by first | rfl | (simp;done) | (simp [*];done) | (simp [wrap64];done)),H',⟨by have:=HK1.out;have:=HK2.out;omega⟩,⟨by (with_reducible repeat (first | refine blk_drewN ?_ _ | refine blk_drew ?_ | refine blk_alloc ?_ _));exact BK152.out⟩,⟨by (with_reducible repeat (first | refine blk_drewN ?_ _ | refine blk_drew ?_ | refine blk_alloc ?_ _));exact BK153.out⟩,⟨by repeat (first | (with_reducible first | exact HB.out | apply below_alloc | apply pw_below_drewN | apply below_drew1 | refine below_set ?_ GE152.out | refine below_set ?_ GE153.out) | exact HB.out)⟩⟩
              ·rw [if_neg c214] at H
               have c214b0 : (a1_1 == a0_0) = false:=beq_eq_false_iff_ne.mpr c214
               have c214b1 : (a1_1 != a0_0) = true:=bne_iff_ne.mpr c214
               have H':=aMx7 H
               clear H
               have hnb222:=NB152_153.out
               have hnc222:=NB153_152.out
               have hcz223_0 : wr.cell? ⟨gb152,0,none⟩ = some (.int .i64 a0_0):=(blk_cell BK152.out 0).trans rfl
               have hcz223_1 : wr.cell? ⟨gb152,1,none⟩ = some (.int .i64 a0_1):=(blk_cell BK152.out 1).trans rfl
               have hcz223_2 : wr.cell? ⟨gb152,2,none⟩ = some (.int .i64 a0_2):=(blk_cell BK152.out 2).trans rfl
               have hfz223_0:=blk_frozen BK152.out 0
               have hfz223_1:=blk_frozen BK152.out 1
               have hfz223_2:=blk_frozen BK152.out 2
               have hcz224_0 : wr.cell? ⟨gb153,0,none⟩ = some (.int .i64 a1_0):=(blk_cell BK153.out 0).trans rfl
               have hcz224_1 : wr.cell? ⟨gb153,1,none⟩ = some (.int .i64 a1_1):=(blk_cell BK153.out 1).trans rfl
               have hcz224_2 : wr.cell? ⟨gb153,2,none⟩ = some (.int .i64 a1_2):=(blk_cell BK153.out 2).trans rfl
               have hfz224_0:=blk_frozen BK153.out 0
               have hfz224_1:=blk_frozen BK153.out 1
               have hfz224_2:=blk_frozen BK153.out 2
               go_wp2
               go_roundg k2
               case measure => have:=HK1.out;have:=HK2.out;omega
               case rel => exact ⟨(wrap64 (1+1)),(by first | rfl | (simp;done) | (simp [*];done) | (simp [wrap64];done)),H',⟨by have:=HK1.out;have:=HK2.out;omega⟩,⟨by (with_reducible repeat (first | refine blk_drewN ?_ _ | refine blk_drew ?_ | refine blk_alloc ?_ _));exact BK152.out⟩,⟨by (with_reducible repeat (first | refine blk_drewN ?_ _ | refine blk_drew ?_ | refine blk_alloc ?_ _));exact BK153.out⟩,⟨by repeat (first | (with_reducible first | exact HB.out | apply below_alloc | apply pw_below_drewN | apply below_drew1 | refine below_set ?_ GE152.out | refine below_set ?_ GE153.out) | exact HB.out)⟩⟩
             ·rw [if_neg c213] at H
              by_cases c225 : x8_2 = 2
              ·rw [if_pos c225] at H
               subst c225
               by_cases c226 : a1_2 = a0_0
               ·rw [if_pos c226] at H
                have c226b0 : (a1_2 == a0_0) = true:=beq_iff_eq.mpr c226
                have c226b1 : (a1_2 != a0_0) = false:=bne_eq_false_iff_eq.mpr c226
                clear c226
                by_cases c227 : a1_0 = a0_2
                ·rw [if_pos c227] at H
                 have c227b0 : (a1_0 == a0_2) = true:=beq_iff_eq.mpr c227
                 have c227b1 : (a1_0 != a0_2) = false:=bne_eq_false_iff_eq.mpr c227
                 clear c227
                 obtain rfl:=Option.some.inj H
                 have hnb228:=NB152_153.out
                 have hnc228:=NB153_152.out
                 have hcz229_0 : wr.cell? ⟨gb152,0,none⟩ = some (.int .i64 a0_0):=(blk_cell BK152.out 0).trans rfl
                 have hcz229_1 : wr.cell? ⟨gb152,1,none⟩ = some (.int .i64 a0_1):=(blk_cell BK152.out 1).trans rfl
                 have hcz229_2 : wr.cell? ⟨gb152,2,none⟩ = some (.int .i64 a0_2):=(blk_cell BK152.out 2).trans rfl
                 have hfz229_0:=blk_frozen BK152.out 0
                 have hfz229_1:=blk_frozen BK152.out 1
                 have hfz229_2:=blk_frozen BK152.out 2
                 have hcz230_0 : wr.cell? ⟨gb153,0,none⟩ = some (.int .i64 a1_0):=(blk_cell BK153.out 0).trans rfl
                 have hcz230_1 : wr.cell? ⟨gb153,1,none⟩ = some (.int .i64 a1_1):=(blk_cell BK153.out 1).trans rfl
                 have hcz230_2 : wr.cell? ⟨gb153,2,none⟩ = some (.int .i64 a1_2):=(blk_cell BK153.out 2).trans rfl
                 have hfz230_0:=blk_frozen BK153.out 0
                 have hfz230_1:=blk_frozen BK153.out 1
                 have hfz230_2:=blk_frozen BK153.out 2
                 go_wp2
                 go_ret
                 exact ⟨by first | rfl | (simp [errW_none,errW_some]<;>rfl) | (simp [*,errW_none,errW_some]<;>rfl),by repeat (first | (with_reducible first | exact HB.out | apply below_alloc | apply pw_below_drewN | apply below_drew1 | refine below_set ?_ GE152.out | refine below_set ?_ GE153.out) | exact HB.out)⟩
                ·rw [if_neg c227] at H
                 have c227b0 : (a1_0 == a0_2) = false:=beq_eq_false_iff_ne.mpr c227
                 have c227b1 : (a1_0 != a0_2) = true:=bne_iff_ne.mpr c227
                 have H':=aMx7 H
                 clear H
                 have hnb231:=NB152_153.out
                 have hnc231:=NB153_152.out
                 have hcz232_0 : wr.cell? ⟨gb152,0,none⟩ = some (.int .i64 a0_0):=(blk_cell BK152.out 0).trans rfl
                 have hcz232_1 : wr.cell? ⟨gb152,1,none⟩ = some (.int .i64 a0_1):=(blk_cell BK152.out 1).trans rfl
                 have hcz232_2 : wr.cell? ⟨gb152,2,none⟩ = some (.int .i64 a0_2):=(blk_cell BK152.out 2).trans rfl
                 have hfz232_0:=blk_frozen BK152.out 0
                 have hfz232_1:=blk_frozen BK152.out 1
                 have hfz232_2:=blk_frozen BK152.out 2
                 have hcz233_0 : wr.cell? ⟨gb153,0,none⟩ = some (.int .i64 a1_0):=(blk_cell BK153.out 0).trans rfl
                 have hcz233_1 : wr.cell? ⟨gb153,1,none⟩ = some (.int .i64 a1_1):=(blk_cell BK153.out 1).trans rfl
                 have hcz233_2 : wr.cell? ⟨gb153,2,none⟩ = some (.int .i64 a1_2):=(blk_cell BK153.out 2).trans rfl
                 have hfz233_0:=blk_frozen BK153.out 0
                 have hfz233_1:=blk_frozen BK153.out 1
                 have hfz233_2:=blk_frozen BK153.out 2
                 go_wp2
                 go_roundg k2
                 case measure => have:=HK1.out;have:=HK2.out;omega
                 case rel => exact ⟨(wrap64 (2+1)),(by first | rfl | (simp;done) | (simp [*];done) | (simp [wrap64];done)),H',⟨by have:=HK1.out;have:=HK2.out;omega⟩,⟨by (with_reducible repeat (first | refine blk_drewN ?_ _ | refine blk_drew ?_ | refine blk_alloc ?_ _));exact BK152.out⟩,⟨by (with_reducible repeat (first | refine blk_drewN ?_ _ | refine blk_drew ?_ | refine blk_alloc ?_ _));exact BK153.out⟩,⟨by repeat (first | (with_reducible first | exact HB.out | apply below_alloc | apply pw_below_drewN | apply below_drew1 | refine below_set ?_ GE152.out | refine below_set ?_ GE153.out) | exact HB.out)⟩⟩
               ·rw [if_neg c226] at H
                have c226b0 : (a1_2 == a0_0) = false:=beq_eq_false_iff_ne.mpr c226
                have c226b1 : (a1_2 != a0_0) = true:=bne_iff_ne.mpr c226
                have H':=aMx7 H
                clear H
                have hnb234:=NB152_153.out
                have hnc234:=NB153_152.out
                have hcz235_0 : wr.cell? ⟨gb152,0,none⟩ = some (.int .i64 a0_0):=(blk_cell BK152.out 0).trans rfl
                have hcz235_1 : wr.cell? ⟨gb152,1,none⟩ = some (.int .i64 a0_1):=(blk_cell BK152.out 1).trans rfl
                have hcz235_2 : wr.cell? ⟨gb152,2,none⟩ = some (.int .i64 a0_2):=(blk_cell BK152.out 2).trans rfl
                have hfz235_0:=blk_frozen BK152.out 0
                have hfz235_1:=blk_frozen BK152.out 1
                have hfz235_2:=blk_frozen BK152.out 2
                have hcz236_0 : wr.cell? ⟨gb153,0,none⟩ = some (.int .i64 a1_0):=(blk_cell BK153.out 0).trans rfl
                have hcz236_1 : wr.cell? ⟨gb153,1,none⟩ = some (.int .i64 a1_1):=(blk_cell BK153.out 1).trans rfl
                have hcz236_2 : wr.cell? ⟨gb153,2,none⟩ = some (.int .i64 a1_2):=(blk_cell BK153.out 2).trans rfl
                have hfz236_0:=blk_frozen BK153.out 0
                have hfz236_1:=blk_frozen BK153.out 1
                have hfz236_2:=blk_frozen BK153.out 2
                go_wp2
                go_roundg k2
                case measure => have:=HK1.out;have:=HK2.out;omega
                case rel => exact ⟨(wrap64 (2+1)),(by first | rfl | (simp;done) | (simp [*];done) | (simp [wrap64];done)),H',⟨by have:=HK1.out;have:=HK2.out;omega⟩,⟨by (with_reducible repeat (first | refine blk_drewN ?_ _ | refine blk_drew ?_ | refine blk_alloc ?_ _));exact BK152.out⟩,⟨by (with_reducible repeat (first | refine blk_drewN ?_ _ | refine blk_drew ?_ | refine blk_alloc ?_ _));exact BK153.out⟩,⟨by repeat (first | (with_reducible first | exact HB.out | apply below_alloc | apply pw_below_drewN | apply below_drew1 | refine below_set ?_ GE152.out | refine below_set ?_ GE153.out) | exact HB.out)⟩⟩
              ·rw [if_neg c225] at H
               exact absurd H (by simp)
           ·rw [if_neg c200] at H
            have c200b0 : (a0_0 == a2) = false:=beq_eq_false_iff_ne.mpr c200
            have c200b1 : (a0_0 != a2) = true:=bne_iff_ne.mpr c200
            have H':=aMx7 H
            clear H
            have hnb237:=NB152_153.out
            have hnc237:=NB153_152.out
            have hcz238_0 : wr.cell? ⟨gb152,0,none⟩ = some (.int .i64 a0_0):=(blk_cell BK152.out 0).trans rfl
            have hcz238_1 : wr.cell? ⟨gb152,1,none⟩ = some (.int .i64 a0_1):=(blk_cell BK152.out 1).trans rfl
            have hcz238_2 : wr.cell? ⟨gb152,2,none⟩ = some (.int .i64 a0_2):=(blk_cell BK152.out 2).trans rfl
            have hfz238_0:=blk_frozen BK152.out 0
            have hfz238_1:=blk_frozen BK152.out 1
            have hfz238_2:=blk_frozen BK152.out 2
            go_wp2
            go_roundg k2
            case measure => have:=HK1.out;have:=HK2.out;omega
            case rel => exact ⟨(wrap64 (x8_2+1)),(by first | rfl | (simp;done) | (simp [*];done) | (simp [wrap64];done)),H',⟨by have:=HK1.out;have:=HK2.out;omega⟩,⟨by (with_reducible repeat (first | refine blk_drewN ?_ _ | refine blk_drew ?_ | refine blk_alloc ?_ _));exact BK152.out⟩,⟨by (with_reducible repeat (first | refine blk_drewN ?_ _ | refine blk_drew ?_ | refine blk_alloc ?_ _));exact BK153.out⟩,⟨by repeat (first | (with_reducible first | exact HB.out | apply below_alloc | apply pw_below_drewN | apply below_drew1 | refine below_set ?_ GE152.out | refine below_set ?_ GE153.out) | exact HB.out)⟩⟩
         ·rw [if_neg c162] at H
          exact absurd H (by simp)
      ·rw [if_neg c7] at H
       have c7b0 : decide (x8_2 < 3) = false:=decide_eq_false c7
       clear c7
       have H':=aMx7 H
       clear H
       go_wp2
       go_roundg k2
       case measure => have:=HK1.out;have:=HK2.out;omega
       case rel => exact ⟨(wrap64 (x7_1+1)),(by first | rfl | (simp;done) | (simp [*];done) | (simp [wrap64];done)),H',⟨by have:=HK1.out;have:=HK2.out;omega⟩,⟨by (with_reducible repeat (first | refine blk_drewN ?_ _ | refine blk_drew ?_ | refine blk_alloc ?_ _));exact BK152.out⟩,⟨by (with_reducible repeat (first | refine blk_drewN ?_ _ | refine blk_drew ?_ | refine blk_alloc ?_ _));exact BK153.out⟩,⟨by repeat (first | (with_reducible first | exact HB.out | apply below_alloc | apply pw_below_drewN | apply below_drew1 | refine below_set ?_ GE152.out | refine below_set ?_ GE153.out) | exact HB.out)⟩⟩
   ·rw [if_neg c6] at H
    have c6b0 : decide (x7_1 < 3) = false:=decide_eq_false c6
    clear c6
    obtain rfl:=Option.some.inj H
    go_wp2
    go_ret
    exact ⟨by first | rfl | (simp [errW_none,errW_some]<;>rfl) | (simp [*,errW_none,errW_some]<;>rfl),by repeat (first | (with_reducible first | exact HB.out | apply below_alloc | apply pw_below_drewN | apply below_drew1 | refine below_set ?_ GE152.out | refine below_set ?_ GE153.out) | exact HB.out)⟩
end Go.Proofs.YtomknjmgcbbjlaaDoor.PWlk
