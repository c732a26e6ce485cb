import Derived.Test.YtbdpfmpbooikiaaDoorPIsrx0
import Derived.Test.YtbdpfmpbooikiaaDoorPIsrx1
import Derived.Test.YtbdpfmpbooikiaaDoorPIsrx2
namespace Go.Proofs.YtbdpfmpbooikiaaDoor.PIsr
open Go Go.RowKit Go.Proofs.YtbdpfmpbooikiaaDoorW.PrintWords Go.Proofs.YtbdpfmpbooikiaaDoorW.PrintLast Go.Proofs.YtbdpfmpbooikiaaDoorW.PrintMore
attribute [local go_sem] max2_int min2_int max_two min_two max_three min_three max_four min_four
set_option linter.unusedVariables false
set_option linter.unusedSimpArgs false
attribute [local go_sem high] eqA45 eqA57
attribute [local go_sem] idx57_0_0 idx57_1_0 idx57_2_0 idx86_0_0 idx86_1_0
theorem sAx12 {α : Type _} {l : List α} {i : Nat} {a : α} : l.toArray.setIfInBounds i a = (l.set i a).toArray := List.setIfInBounds_toArray ..
theorem sBx12 {α : Type _} {x y : α} {l : List α} : (x :: l).set 0 y = y :: l := rfl
theorem sCx12 {α : Type _} {x y : α} {l : List α} {i : Nat} : (x :: l).set (i + 1) y = x :: l.set i y := rfl
theorem aMx12 {p : Prop} (h : p) : Aside0 p := ⟨h⟩
mutual
def lapidaryref10_Same.j0 : Nat → Bool → List (S45) → List (S57) → List (S45) → List (S57) → Option (Bool)
  | 0, _, _, _, _, _ => none
  | k + 1, x22, x236000, x236001, x237000, x237001 => if x22 = true then (some false) else (lapidaryref10_Same.l0 k 0 x236000 x236001 x237000 x237001)
def lapidaryref10_Same.l0 : Nat → Int → List (S45) → List (S57) → List (S45) → List (S57) → Option (Bool)
  | 0, _, _, _, _, _ => none
  | k + 1, x5, x236000, x236001, x237000, x237001 => if x5 < (x236000.length : Int) then (if 0 ≤ x5 then (if x5 < (x237000.length : Int) then (if (!(((rd_T45 x236000 x5).f0) == ((rd_T45 x237000 x5).f0)) || (!(((rd_T45 x236000 x5).f1) == ((rd_T45 x237000 x5).f1)) || (!(((rd_T45 x236000 x5).f2) == ((rd_T45 x237000 x5).f2))))) = true then (some false) else (lapidaryref10_Same.l0 k (wrap64 (x5 + 1)) x236000 x236001 x237000 x237001)) else (none)) else (none)) else (lapidaryref10_Same.l1 k 0 x236000 x236001 x237000 x237001)
def lapidaryref10_Same.l1 : Nat → Int → List (S45) → List (S57) → List (S45) → List (S57) → Option (Bool)
  | 0, _, _, _, _, _ => none
  | k + 1, x6, x236000, x236001, x237000, x237001 => if x6 < (x236001.length : Int) then (if 0 ≤ x6 then (if x6 < (x237001.length : Int) then (if (!(((rd_T57 x236001 x6).f0) == ((rd_T57 x237001 x6).f0)) || (!(((rd_T57 x236001 x6).f1) == ((rd_T57 x237001 x6).f1)) || (!(((rd_T57 x236001 x6).f2) == ((rd_T57 x237001 x6).f2))))) = true then (some false) else (lapidaryref10_Same.l1 k (wrap64 (x6 + 1)) x236000 x236001 x237000 x237001)) else (none)) else (none)) else (some true)
end
def lapidaryref10_Same.f (k : Nat) (l0_0 : List (S45)) (l0_1 : List (S57)) (l1_0 : List (S45)) (l1_1 : List (S57)) : Option (Bool) := if (l0_0.length : Int) = (l1_0.length : Int) then (lapidaryref10_Same.j0 k ((l0_1.length : Int) != (l1_1.length : Int)) l0_0 l0_1 l1_0 l1_1) else (lapidaryref10_Same.j0 k true l0_0 l0_1 l1_0 l1_1)
theorem lapidaryref10_Same.mono_l : ∀ k, (∀ y0 y1 y2 y3 y4, LeO (lapidaryref10_Same.j0 k y0 y1 y2 y3 y4) (lapidaryref10_Same.j0 (k + 1) y0 y1 y2 y3 y4)) ∧ (∀ y0 y1 y2 y3 y4, LeO (lapidaryref10_Same.l0 k y0 y1 y2 y3 y4) (lapidaryref10_Same.l0 (k + 1) y0 y1 y2 y3 y4)) ∧ (∀ y0 y1 y2 y3 y4, LeO (lapidaryref10_Same.l1 k y0 y1 y2 y3 y4) (lapidaryref10_Same.l1 (k + 1) y0 y1 y2 y3 y4))
  | 0 => ⟨fun _ _ _ _ _ r h => by simp [lapidaryref10_Same.j0] at h, fun _ _ _ _ _ r h => by simp [lapidaryref10_Same.l0] at h, fun _ _ _ _ _ r h => by simp [lapidaryref10_Same.l1] at h⟩
  | k + 1 => by
    obtain ⟨ih0, ih1, ih2⟩ := lapidaryref10_Same.mono_l k
    refine ⟨?_, ?_, ?_⟩
    · intro y0 y1 y2 y3 y4
      unfold lapidaryref10_Same.j0
      repeat' first
      | (with_reducible exact ih0 _ _ _ _ _)
      | (with_reducible exact ih1 _ _ _ _ _)
      | (with_reducible exact ih2 _ _ _ _ _)
      | (with_reducible exact LeO.refl _)
      | (with_reducible exact LeO.none _)
      | (with_reducible refine LeO.ite ?_ ?_)
      | (with_reducible refine LeO.bind ?_ (fun _ => ?_))
      | exact ih0 _ _ _ _ _
      | exact ih1 _ _ _ _ _
      | exact ih2 _ _ _ _ _
      | exact LeO.none _
      | refine LeO.ite ?_ ?_
      | refine LeO.bind ?_ (fun _ => ?_)
    · intro y0 y1 y2 y3 y4
      unfold lapidaryref10_Same.l0
      repeat' first
      | (with_reducible exact ih0 _ _ _ _ _)
      | (with_reducible exact ih1 _ _ _ _ _)
      | (with_reducible exact ih2 _ _ _ _ _)
      | (with_reducible exact LeO.refl _)
      | (with_reducible exact LeO.none _)
      | (with_reducible refine LeO.ite ?_ ?_)
      | (with_reducible refine LeO.bind ?_ (fun _ => ?_))
      | exact ih0 _ _ _ _ _
      | exact ih1 _ _ _ _ _
      | exact ih2 _ _ _ _ _
      | exact LeO.none _
      | refine LeO.ite ?_ ?_
      | refine LeO.bind ?_ (fun _ => ?_)
    · intro y0 y1 y2 y3 y4
      unfold lapidaryref10_Same.l1
      repeat' first
      | (with_reducible exact ih0 _ _ _ _ _)
      | (with_reducible exact ih1 _ _ _ _ _)
      | (with_reducible exact ih2 _ _ _ _ _)
      | (with_reducible exact LeO.refl _)
      | (with_reducible exact LeO.none _)
      | (with_reducible refine LeO.ite ?_ ?_)
      | (with_reducible refine LeO.bind ?_ (fun _ => ?_))
      | exact ih0 _ _ _ _ _
      | exact ih1 _ _ _ _ _
      | exact ih2 _ _ _ _ _
      | exact LeO.none _
      | refine LeO.ite ?_ ?_
      | refine LeO.bind ?_ (fun _ => ?_)
theorem lapidaryref10_Same.mono : ∀ a0 a1 a2 a3 k, LeO (lapidaryref10_Same.f k a0 a1 a2 a3) (lapidaryref10_Same.f (k + 1) a0 a1 a2 a3) := by
  intro a0 a1 a2 a3 k
  obtain ⟨ih0, ih1, ih2⟩ := lapidaryref10_Same.mono_l k
  unfold lapidaryref10_Same.f
  repeat' first
      | (with_reducible exact ih0 _ _ _ _ _)
      | (with_reducible exact ih1 _ _ _ _ _)
      | (with_reducible exact ih2 _ _ _ _ _)
      | (with_reducible exact LeO.refl _)
      | (with_reducible exact LeO.none _)
      | (with_reducible refine LeO.ite ?_ ?_)
      | (with_reducible refine LeO.bind ?_ (fun _ => ?_))
      | exact ih0 _ _ _ _ _
      | exact ih1 _ _ _ _ _
      | exact ih2 _ _ _ _ _
      | exact LeO.none _
      | refine LeO.ite ?_ ?_
      | refine LeO.bind ?_ (fun _ => ?_)
set_option maxHeartbeats 8000000 in
set_option maxRecDepth 100000 in
theorem lapidaryref10_Same.calls (k : Nat) (A0_0 : Option Addr) (c0_0 : Nat) (l0_0 : List (S45)) (A0_1 : Option Addr) (c0_1 : Nat) (l0_1 : List (S57)) (A1_0 : Option Addr) (c1_0 : Nat) (l1_0 : List (S45)) (A1_1 : Option Addr) (c1_1 : Nat) (l1_1 : List (S57)) (r : Bool) (w : World) (hr0_0 : Kd.C k45 w A0_0 l0_0.length l0_0) (hc0_0 : l0_0.length ≤ c0_0) (hr0_1 : Kd.C k57 w A0_1 l0_1.length l0_1) (hc0_1 : l0_1.length ≤ c0_1) (hr1_0 : Kd.C k45 w A1_0 l1_0.length l1_0) (hc1_0 : l1_0.length ≤ c1_0) (hr1_1 : Kd.C k57 w A1_1 l1_1.length l1_1) (hc1_1 : l1_1.length ≤ c1_1) (h : lapidaryref10_Same.f k l0_0 l0_1 l1_0 l1_1 = some r) :
  Calls Tryd.prog 17 #[.agg #[.slice A0_0 l0_0.length c0_0,.slice A0_1 l0_1.length c0_1],.agg #[.slice A1_0 l1_0.length c1_0,.slice A1_1 l1_1.length c1_1]] w fun e w' => e = .returned (.bool r) ∧ Below w.heap.size w w':=by
 have hu25:=Tryd.underlying25
 have hu45:=Tryd.underlying45
 have hu57:=Tryd.underlying57
 have HR0_0:=aMx12 hr0_0
 have HC0_0:=aMx12 hc0_0
 clear hr0_0 hc0_0
 have HR0_1:=aMx12 hr0_1
 have HC0_1:=aMx12 hc0_1
 clear hr0_1 hc0_1
 have HR1_0:=aMx12 hr1_0
 have HC1_0:=aMx12 hc1_0
 clear hr1_0 hc1_0
 have HR1_1:=aMx12 hr1_1
 have HC1_1:=aMx12 hc1_1
 clear hr1_1 hc1_1
 have HB:=aMx12 (Below.refl w.heap.size w)
 have H : (if (l0_0.length : Int) = (l1_0.length : Int) then (lapidaryref10_Same.j0 k ((l0_1.length : Int) != (l1_1.length : Int)) l0_0 l0_1 l1_0 l1_1) else (lapidaryref10_Same.j0 k true l0_0 l0_1 l1_0 l1_1)) = some r:=h
 clear h
 have HC3:=aMx12 H
 clear H
 go_enter Tryd.func17,Tryd.ntmps17
 go_upto_region 1 with (first | ((with_reducible refine gate_dst (N:=2) rfl ?_);(try (refine gate_guard (by rfl) ?_;dsimp only));refine box_event ?hg (N:=2) ?hd (cs:=#[.slice A0_0 l0_0.length c0_0,.slice A0_1 l0_1.length c0_1]) (t:=25) ?hr ?_;(case hd => rfl);(case hg => rfl);(case hr => first | (go_simp;done) | (go_simp;rfl));intro gb235 hg w4 hbox hb;have n0_:=aMx12 (below_step (by repeat (first | (with_reducible first | exact HB.out | apply below_alloc | apply pw_below_drewN | apply below_drew1) | exact HB.out)) hb);have n1_:=aMx12 (hbox);have n2_:=aMx12 ((by rw [hg];exact (below_size (by repeat (first | (with_reducible first | exact HB.out | apply below_alloc | apply pw_below_drewN | apply below_drew1) | exact HB.out))) : w.heap.size ≤ gb235));have n3_:=aMx12 ((by rw [hg];exact (below_size (by repeat (first | (with_reducible first | exact HB.out | apply below_alloc | apply pw_below_drewN | apply below_drew1) | exact HB.out))) : w.heap.size ≤ gb235));clear HB;have HB:=n0_;have BK235:=n1_;have GW235:=n2_;have GE235:=n3_;clear n0_ n1_ n2_ n3_;clear hb hbox hg) | ((with_reducible refine gate_dst (N:=3) rfl ?_);(try (refine gate_guard (by rfl) ?_;dsimp only));refine box_event ?hg (N:=3) ?hd (cs:=#[.slice A1_0 l1_0.length c1_0,.slice A1_1 l1_1.length c1_1]) (t:=25) ?hr ?_;(case hd => rfl);(case hg => rfl);(case hr => first | (go_simp;done) | (go_simp;rfl));intro gb236 hg w5 hbox hb;have n0_:=aMx12 (blk_below (g:=gb235) (o:=.cells #[.slice A0_0 l0_0.length c0_0,.slice A0_1 l0_1.length c0_1] 25 (0,0)) (by (with_reducible repeat (first | refine blk_drewN ?_ _ | refine blk_drew ?_ | refine blk_alloc ?_ _));exact BK235.out) hb);have n1_:=aMx12 (below_step (by repeat (first | (with_reducible first | exact HB.out | apply below_alloc | apply pw_below_drewN | apply below_drew1 | refine below_set ?_ GE235.out) | exact HB.out)) hb);have n2_:=aMx12 (hbox);have n3_:=aMx12 ((by rw [hg];exact (below_size (by repeat (first | (with_reducible first | exact HB.out | apply below_alloc | apply pw_below_drewN | apply below_drew1 | refine below_set ?_ GE235.out) | exact HB.out))) : w.heap.size ≤ gb236));have n4_:=aMx12 ((by rw [hg];exact (below_size (by repeat (first | (with_reducible first | exact HB.out | apply below_alloc | apply pw_below_drewN | apply below_drew1 | refine below_set ?_ GE235.out) | exact HB.out))) : w.heap.size ≤ gb236));have n5_:=aMx12 ((by rw [hg];exact Nat.ne_of_lt (blk_lt (g:=gb235) (o:=.cells #[.slice A0_0 l0_0.length c0_0,.slice A0_1 l0_1.length c0_1] 25 (0,0)) (by (with_reducible repeat (first | refine blk_drewN ?_ _ | refine blk_drew ?_ | refine blk_alloc ?_ _));exact BK235.out)) : gb235 ≠ gb236));have n6_:=aMx12 ((by rw [hg];exact Nat.ne_of_gt (blk_lt (g:=gb235) (o:=.cells #[.slice A0_0 l0_0.length c0_0,.slice A0_1 l0_1.length c0_1] 25 (0,0)) (by (with_reducible repeat (first | refine blk_drewN ?_ _ | refine blk_drew ?_ | refine blk_alloc ?_ _));exact BK235.out)) : gb236 ≠ gb235));clear BK235;clear HB;have BK235:=n0_;have HB:=n1_;have BK236:=n2_;have GW236:=n3_;have GE236:=n4_;have NB235_236:=n5_;have NB236_235:=n6_;clear n0_ n1_ n2_ n3_ n4_ n5_ n6_;clear hb hbox hg))
 repeat (go_quiet (fail);go_upto_region 1 with (fail))
 (try simp only [Act.put,sAx12,sBx12,sCx12])
 go_cut [22] (fun v22 wc => ∃ (kq : Nat) (x22_2 : Bool),v22 = .bool x22_2 ∧ Aside0 (lapidaryref10_Same.j0 kq x22_2 l0_0 l0_1 l1_0 l1_1 = some r) ∧ Aside0 (kq ≤ k) ∧ Aside0 (wc.heap[gb235]? = some (.cells #[(.slice A0_0 l0_0.length c0_0),(.slice A0_1 l0_1.length c0_1)] 25 (0,0))) ∧ Aside0 (wc.heap[gb236]? = some (.cells #[(.slice A1_0 l1_0.length c1_0),(.slice A1_1 l1_1.length c1_1)] 25 (0,0))) ∧ Aside0 (Below w.heap.size w wc))
 case first =>
  have H:=HC3.out
  clear HC3
  by_cases c6 : (l0_0.length : Int) = (l1_0.length : Int)
  ·rw [if_pos c6] at H
   have c6b0 : ((l0_0.length : Int) == (l1_0.length : Int)) = true:=beq_iff_eq.mpr c6
   have c6b1 : ((l0_0.length : Int) != (l1_0.length : Int)) = false:=bne_eq_false_iff_eq.mpr c6
   have c6b2 : (l0_0.length == l1_0.length) = true:=by first | simpa using c6 | (simp at c6 ⊢;omega)
   clear c6
   (first | rw [c6b0] | (simp only [i64_w,i32_w];rw [c6b0]) | skip)
   have H':=aMx12 H
   clear H
   have hnb7:=NB235_236.out
   have hnc7:=NB236_235.out
   have hcz8_0 : w5.cell? ⟨gb235,0,none⟩ = some (.slice A0_0 l0_0.length c0_0):=(blk_cell BK235.out 0).trans rfl
   have hcz8_1 : w5.cell? ⟨gb235,1,none⟩ = some (.slice A0_1 l0_1.length c0_1):=(blk_cell BK235.out 1).trans rfl
   have hcz9_0 : w5.cell? ⟨gb236,0,none⟩ = some (.slice A1_0 l1_0.length c1_0):=(blk_cell BK236.out 0).trans rfl
   have hcz9_1 : w5.cell? ⟨gb236,1,none⟩ = some (.slice A1_1 l1_1.length c1_1):=(blk_cell BK236.out 1).trans rfl
   go_wp2
   repeat (go_quiet (fail);try go_wp2)
   go_meet
   case rel => exact ⟨_,(((l0_1.length : Int) != (l1_1.length : Int))),(by first | rfl | (simp;done) | (simp [*];done) | (simp [wrap64];done)),H',⟨by first | omega | exact Nat.le_refl _⟩,⟨by (with_reducible repeat (first | refine blk_drewN ?_ _ | refine blk_drew ?_ | refine blk_alloc ?_ _));exact BK235.out⟩,⟨by (with_reducible repeat (first | refine blk_drewN ?_ _ | refine blk_drew ?_ | refine blk_alloc ?_ _));exact BK236.out⟩,⟨by repeat (first | (with_reducible first | exact HB.out | apply below_alloc | apply pw_below_drewN | apply below_drew1 | refine below_set ?_ GE235.out | refine below_set ?_ GE236.out) | exact HB.out)⟩⟩
  ·rw [if_neg c6] at H
   have c6b0 : ((l0_0.length : Int) == (l1_0.length : Int)) = false:=beq_eq_false_iff_ne.mpr c6
   have c6b1 : ((l0_0.length : Int) != (l1_0.length : Int)) = true:=bne_iff_ne.mpr c6
   have c6b2 : (l0_0.length == l1_0.length) = false:=by first | simpa using c6 | (simp at c6 ⊢;omega)
   (first | rw [c6b0] | (simp only [i64_w,i32_w];rw [c6b0]) | skip)
   have H':=aMx12 H
   clear H
   have hnb10:=NB235_236.out
   have hnc10:=NB236_235.out
   have hcz11_0 : w5.cell? ⟨gb235,0,none⟩ = some (.slice A0_0 l0_0.length c0_0):=(blk_cell BK235.out 0).trans rfl
   have hcz11_1 : w5.cell? ⟨gb235,1,none⟩ = some (.slice A0_1 l0_1.length c0_1):=(blk_cell BK235.out 1).trans rfl
   have hcz12_0 : w5.cell? ⟨gb236,0,none⟩ = some (.slice A1_0 l1_0.length c1_0):=(blk_cell BK236.out 0).trans rfl
   have hcz12_1 : w5.cell? ⟨gb236,1,none⟩ = some (.slice A1_1 l1_1.length c1_1):=(blk_cell BK236.out 1).trans rfl
   go_wp2
   repeat (go_quiet (fail);try go_wp2)
   go_meet
   case rel => exact ⟨_,(true),(by first | rfl | (simp;done) | (simp [*];done) | (simp [wrap64];done)),H',⟨by first | omega | exact Nat.le_refl _⟩,⟨by (with_reducible repeat (first | refine blk_drewN ?_ _ | refine blk_drew ?_ | refine blk_alloc ?_ _));exact BK235.out⟩,⟨by (with_reducible repeat (first | refine blk_drewN ?_ _ | refine blk_drew ?_ | refine blk_alloc ?_ _));exact BK236.out⟩,⟨by repeat (first | (with_reducible first | exact HB.out | apply below_alloc | apply pw_below_drewN | apply below_drew1 | refine below_set ?_ GE235.out | refine below_set ?_ GE236.out) | exact HB.out)⟩⟩
 case rest =>
  clear HC3
  (try clear c1);(try clear p2);(try clear c6);(try clear c6b0);(try clear c6b1);(try clear c6b2);(try clear c7);(try clear c10);(try clear hcz11_0);(try clear hcz11_1);(try clear hcz12_0);(try clear hcz12_1);(try clear hcz8_0);(try clear hcz8_1);(try clear hcz9_0);(try clear hcz9_1);(try clear hfz11_0);(try clear hfz11_1);(try clear hfz12_0);(try clear hfz12_1);(try clear hfz8_0);(try clear hfz8_1);(try clear hfz9_0);(try clear hfz9_1)
  obtain ⟨kq,x22_2,rfl,HA,HJ2,BK235,BK236,HB⟩:=hcut
  cases kq with
  | zero => exact absurd HA.out (by simp [lapidaryref10_Same.j0])
  | succ kj2 =>
   have H:=HA.out
   clear HA
   simp only [lapidaryref10_Same.j0] at H
   by_cases c13 : x22_2 = true
   ·subst c13
    have H1 : (some false) = some r:=by rw [if_pos rfl] at H;exact H
    clear H
    have H:=H1
    clear H1
    obtain rfl:=Option.some.inj H
    go_wp2
    repeat (go_quiet (fail);try go_wp2)
    go_ret
    exact ⟨by first | rfl | (simp [errW_none,errW_some]<;>rfl) | (simp [*,errW_none,errW_some]<;>rfl),by repeat (first | (with_reducible first | exact HB.out | apply below_alloc | apply pw_below_drewN | apply below_drew1 | refine below_set ?_ GE235.out | refine below_set ?_ GE236.out) | exact HB.out)⟩
   ·replace c13:=Bool.eq_false_iff.mpr c13
    subst c13
    have H1 : (lapidaryref10_Same.l0 kj2 0 l0_0 l0_1 l1_0 l1_1) = some r:=by rw [if_neg (show ¬ (false = true) by decide)] at H;exact H
    clear H
    have H:=H1
    clear H1
    have H':=aMx12 H
    clear H
    go_wp2
    repeat (go_quiet (fail);try go_wp2)
    go_loopg [5] kj2 (fun kq v5 w' => ∃ (x5_2 : Int),v5 = .int .i64 x5_2 ∧ Aside0 (lapidaryref10_Same.l0 kq x5_2 l0_0 l0_1 l1_0 l1_1 = some r) ∧ Aside0 (kq ≤ kj2) ∧ Aside0 (w'.heap[gb235]? = some (.cells #[(.slice A0_0 l0_0.length c0_0),(.slice A0_1 l0_1.length c0_1)] 25 (0,0))) ∧ Aside0 (w'.heap[gb236]? = some (.cells #[(.slice A1_0 l1_0.length c1_0),(.slice A1_1 l1_1.length c1_1)] 25 (0,0))) ∧ Aside0 (Below w.heap.size w w'))
    case atStart => exact ⟨(0),(by first | rfl | (simp;done) | (simp [*];done) | (simp [wrap64];done)),H',⟨Nat.le_refl _⟩,⟨by (with_reducible repeat (first | refine blk_drewN ?_ _ | refine blk_drew ?_ | refine blk_alloc ?_ _));exact BK235.out⟩,⟨by (with_reducible repeat (first | refine blk_drewN ?_ _ | refine blk_drew ?_ | refine blk_alloc ?_ _));exact BK236.out⟩,⟨by repeat (first | (with_reducible first | exact HB.out | apply below_alloc | apply pw_below_drewN | apply below_drew1 | refine below_set ?_ GE235.out | refine below_set ?_ GE236.out) | exact HB.out)⟩⟩
    case round =>
     clear H'
     (try clear c1);(try clear p2);(try clear c6);(try clear c6b0);(try clear c6b1);(try clear c6b2);(try clear c7);(try clear c10);(try clear c13);(try clear hcz11_0);(try clear hcz11_1);(try clear hcz12_0);(try clear hcz12_1);(try clear hcz8_0);(try clear hcz8_1);(try clear hcz9_0);(try clear hcz9_1);(try clear hfz11_0);(try clear hfz11_1);(try clear hfz12_0);(try clear hfz12_1);(try clear hfz8_0);(try clear hfz8_1);(try clear hfz9_0);(try clear hfz9_1);(try clear p2)
     obtain ⟨x5_2,rfl,HA,HK2,BK235,BK236,HB⟩:=hrel
     cases gk with
     | zero => exact absurd HA.out (by simp [lapidaryref10_Same.l0])
     | succ k2 =>
      have H:=HA.out
      clear HA
      simp only [lapidaryref10_Same.l0] at H
      by_cases c14 : x5_2 < (l0_0.length : Int)
      ·rw [if_pos c14] at H
       have c14b0 : decide (x5_2 < (l0_0.length : Int)) = true:=decide_eq_true c14
       clear c14
       by_cases c15 : 0 ≤ x5_2
       ·rw [if_pos c15] at H
        have c15b0 : decide (0 ≤ x5_2) = true:=decide_eq_true c15
        clear c15
        by_cases c16 : x5_2 < (l1_0.length : Int)
        ·rw [if_pos c16] at H
         have c16b0 : decide (x5_2 < (l1_0.length : Int)) = true:=decide_eq_true c16
         clear c16
         by_cases c17 : (!(((rd_T45 l0_0 x5_2).f0) == ((rd_T45 l1_0 x5_2).f0)) || (!(((rd_T45 l0_0 x5_2).f1) == ((rd_T45 l1_0 x5_2).f1)) || (!(((rd_T45 l0_0 x5_2).f2) == ((rd_T45 l1_0 x5_2).f2))))) = true
         ·rw [if_pos c17] at H
          have c17b0 : (!(((rd_T45 l0_0 x5_2).f0) == ((rd_T45 l1_0 x5_2).f0)) || (!(((rd_T45 l0_0 x5_2).f1) == ((rd_T45 l1_0 x5_2).f1)) || (!(((rd_T45 l0_0 x5_2).f2) == ((rd_T45 l1_0 x5_2).f2))))) = true:=c17
          clear c17
          obtain rfl:=Option.some.inj H
          have hnb18:=NB235_236.out
          have hnc18:=NB236_235.out
          have hcz19_0 : wr.cell? ⟨gb235,0,none⟩ = some (.slice A0_0 l0_0.length c0_0):=(blk_cell BK235.out 0).trans rfl
          have hcz19_1 : wr.cell? ⟨gb235,1,none⟩ = some (.slice A0_1 l0_1.length c0_1):=(blk_cell BK235.out 1).trans rfl
          have p237 : 0 ≤ (x5_2 : Int):=of_decide_eq_true (by first | (with_reducible assumption) | assumption)
          have q237 : x5_2 < (l0_0.length : Int):=of_decide_eq_true (by first | (with_reducible assumption) | assumption)
          obtain ⟨ad237,e237,hx237_0,hx237_1,hx237_2⟩:=at_T45 HR0_0.out x5_2 p237 q237
          cases e237
          replace hx237_0:=(HB.out.cell (World.block_lt_of_cell? w _ hx237_0)).trans hx237_0
          replace hx237_1:=(HB.out.cell (World.block_lt_of_cell? w _ hx237_1)).trans hx237_1
          replace hx237_2:=(HB.out.cell (World.block_lt_of_cell? w _ hx237_2)).trans hx237_2
          replace p237:=eq_true p237
          replace q237:=eq_true q237
          have hcz20_0 : wr.cell? ⟨gb236,0,none⟩ = some (.slice A1_0 l1_0.length c1_0):=(blk_cell BK236.out 0).trans rfl
          have hcz20_1 : wr.cell? ⟨gb236,1,none⟩ = some (.slice A1_1 l1_1.length c1_1):=(blk_cell BK236.out 1).trans rfl
          have p238 : 0 ≤ (x5_2 : Int):=of_decide_eq_true (by first | (with_reducible assumption) | assumption)
          have q238 : x5_2 < (l1_0.length : Int):=of_decide_eq_true (by first | (with_reducible assumption) | assumption)
          obtain ⟨ad238,e238,hx238_0,hx238_1,hx238_2⟩:=at_T45 HR1_0.out x5_2 p238 q238
          cases e238
          replace hx238_0:=(HB.out.cell (World.block_lt_of_cell? w _ hx238_0)).trans hx238_0
          replace hx238_1:=(HB.out.cell (World.block_lt_of_cell? w _ hx238_1)).trans hx238_1
          replace hx238_2:=(HB.out.cell (World.block_lt_of_cell? w _ hx238_2)).trans hx238_2
          replace p238:=eq_true p238
          replace q238:=eq_true q238
          go_wp2
          repeat (go_quiet (fail);try go_wp2)
          go_ret
          exact ⟨by first | rfl | (simp [errW_none,errW_some]<;>rfl) | (simp [*,errW_none,errW_some]<;>rfl),by repeat (first | (with_reducible first | exact HB.out | apply below_alloc | apply pw_below_drewN | apply below_drew1 | refine below_set ?_ GE235.out | refine below_set ?_ GE236.out) | exact HB.out)⟩
         ·rw [if_neg c17] at H
          have c17b0 : (!(((rd_T45 l0_0 x5_2).f0) == ((rd_T45 l1_0 x5_2).f0)) || (!(((rd_T45 l0_0 x5_2).f1) == ((rd_T45 l1_0 x5_2).f1)) || (!(((rd_T45 l0_0 x5_2).f2) == ((rd_T45 l1_0 x5_2).f2))))) = false:=by simpa using c17
          clear c17
          have H':=aMx12 H
          clear H
          have hnb21:=NB235_236.out
          have hnc21:=NB236_235.out
          have hcz22_0 : wr.cell? ⟨gb235,0,none⟩ = some (.slice A0_0 l0_0.length c0_0):=(blk_cell BK235.out 0).trans rfl
          have hcz22_1 : wr.cell? ⟨gb235,1,none⟩ = some (.slice A0_1 l0_1.length c0_1):=(blk_cell BK235.out 1).trans rfl
          have p237 : 0 ≤ (x5_2 : Int):=of_decide_eq_true (by first | (with_reducible assumption) | assumption)
          have q237 : x5_2 < (l0_0.length : Int):=of_decide_eq_true (by first | (with_reducible assumption) | assumption)
          obtain ⟨ad237,e237,hx237_0,hx237_1,hx237_2⟩:=at_T45 HR0_0.out x5_2 p237 q237
          cases e237
          replace hx237_0:=(HB.out.cell (World.block_lt_of_cell? w _ hx237_0)).trans hx237_0
          replace hx237_1:=(HB.out.cell (World.block_lt_of_cell? w _ hx237_1)).trans hx237_1
          replace hx237_2:=(HB.out.cell (World.block_lt_of_cell? w _ hx237_2)).trans hx237_2
          replace p237:=eq_true p237
          replace q237:=eq_true q237
          have hcz23_0 : wr.cell? ⟨gb236,0,none⟩ = some (.slice A1_0 l1_0.length c1_0):=(blk_cell BK236.out 0).trans rfl
          have hcz23_1 : wr.cell? ⟨gb236,1,none⟩ = some (.slice A1_1 l1_1.length c1_1):=(blk_cell BK236.out 1).trans rfl
          have p238 : 0 ≤ (x5_2 : Int):=of_decide_eq_true (by first | (with_reducible assumption) | assumption)
          have q238 : x5_2 < (l1_0.length : Int):=of_decide_eq_true (by first | (with_reducible assumption) | assumption)
          obtain ⟨ad238,e238,hx238_0,hx238_1,hx238_2⟩:=at_T45 HR1_0.out x5_2 p238 q238
          cases e238
          replace hx238_0:=(HB.out.cell (World.block_lt_of_cell? w _ hx238_0)).trans hx238_0
          replace hx238_1:=(HB.out.cell (World.block_lt_of_cell? w _ hx238_1)).trans hx238_1
          replace hx238_2:=(HB.out.cell (World.block_lt_of_cell? w _ hx238_2)).trans hx238_2
          replace p238:=eq_true p238
          replace q238:=eq_true q238
          go_wp2
          repeat (go_quiet (fail);try go_wp2)
          go_roundg k2
          case measure => have:=HJ2.out;have:=HK2.out;omega
          case rel => exact ⟨(wrap64 (x5_2+1)),(by first | rfl | (simp;done) | (simp [*];done) | (simp [wrap64];done)),H',⟨by have:=HJ2.out;have:=HK2.out;omega⟩,⟨by (with_reducible repeat (first | refine blk_drewN ?_ _ | refine blk_drew ?_ | refine blk_alloc ?_ _));exact BK235.out⟩,⟨by (with_reducible repeat (first | refine blk_drewN ?_ _ | refine blk_drew ?_ | refine blk_alloc ?_ _));exact BK236.out⟩,⟨by repeat (first | (with_reducible first | exact HB.out | apply below_alloc | apply pw_below_drewN | apply below_drew1 | refine below_set ?_ GE235.out | refine below_set ?_ GE236.out) | exact HB.out)⟩⟩
        ·rw [if_neg c16] at H
         exact absurd H (by simp)
       ·rw [if_neg c15] at H
        exact absurd H (by simp)
      ·rw [if_neg c14] at H
       have c14b0 : decide (x5_2 < (l0_0.length : Int)) = false:=decide_eq_false c14
       clear c14
       have H':=aMx12 H
       clear H
       have hnb24:=NB235_236.out
       have hnc24:=NB236_235.out
       have hcz25_0 : wr.cell? ⟨gb235,0,none⟩ = some (.slice A0_0 l0_0.length c0_0):=(blk_cell BK235.out 0).trans rfl
       have hcz25_1 : wr.cell? ⟨gb235,1,none⟩ = some (.slice A0_1 l0_1.length c0_1):=(blk_cell BK235.out 1).trans rfl
       go_wp2
       repeat (go_quiet (fail);try go_wp2)
       go_loopg [6] k2 (fun kq v6 w' => ∃ (x6_3 : Int),v6 = .int .i64 x6_3 ∧ Aside0 (lapidaryref10_Same.l1 kq x6_3 l0_0 l0_1 l1_0 l1_1 = some r) ∧ Aside0 (kq ≤ k2) ∧ Aside0 (w'.heap[gb235]? = some (.cells #[(.slice A0_0 l0_0.length c0_0),(.slice A0_1 l0_1.length c0_1)] 25 (0,0))) ∧ Aside0 (w'.heap[gb236]? = some (.cells #[(.slice A1_0 l1_0.length c1_0),(.slice A1_1 l1_1.length c1_1)] 25 (0,0))) ∧ Aside0 (Below w.heap.size w w'))
       case atStart => exact ⟨(0),(by first | rfl | (simp;done) | (simp [*];done) | (simp [wrap64];done)),H',⟨Nat.le_refl _⟩,⟨by (with_reducible repeat (first | refine blk_drewN ?_ _ | refine blk_drew ?_ | refine blk_alloc ?_ _));exact BK235.out⟩,⟨by (with_reducible repeat (first | refine blk_drewN ?_ _ | refine blk_drew ?_ | refine blk_alloc ?_ _));exact BK236.out⟩,⟨by repeat (first | (with_reducible first | exact HB.out | apply below_alloc | apply pw_below_drewN | apply below_drew1 | refine below_set ?_ GE235.out | refine below_set ?_ GE236.out) | exact HB.out)⟩⟩
       case round =>
        clear H'
        (try clear c1);(try clear c2);(try clear p2);(try clear q2);(try clear hx2);(try clear c6);(try clear c6b0);(try clear c6b1);(try clear c6b2);(try clear p6);(try clear c7);(try clear c10);(try clear c13);(try clear c14);(try clear c14b0);(try clear c15);(try clear c15b0);(try clear c16);(try clear c16b0);(try clear c17);(try clear c17b0);(try clear c18);(try clear c21);(try clear p23);(try clear q23);(try clear hx23);(try clear c24);(try clear hcz11_0);(try clear hcz11_1);(try clear hcz12_0);(try clear hcz12_1);(try clear hcz19_0);(try clear hcz19_1);(try clear hcz20_0);(try clear hcz20_1);(try clear hcz22_0);(try clear hcz22_1);(try clear hcz23_0);(try clear hcz23_1);(try clear hcz25_0);(try clear hcz25_1);(try clear hcz8_0);(try clear hcz8_1);(try clear hcz9_0);(try clear hcz9_1);(try clear hfz11_0);(try clear hfz11_1);(try clear hfz12_0);(try clear hfz12_1);(try clear hfz19_0);(try clear hfz19_1);(try clear hfz20_0);(try clear hfz20_1);(try clear hfz22_0);(try clear hfz22_1);(try clear hfz23_0);(try clear hfz23_1);(try clear hfz25_0);(try clear hfz25_1);(try clear hfz8_0);(try clear hfz8_1);(try clear hfz9_0);(try clear hfz9_1);(try clear hx237_0);(try clear hx237_1);(try clear hx237_2);(try clear hx238_0);(try clear hx238_1);(try clear hx238_2);(try clear p2);(try clear p237);(try clear p238);(try clear q237);(try clear q238)
        obtain ⟨x6_3,rfl,HA,HK3,BK235,BK236,HB⟩:=hrel
        cases gk with
        | zero => exact absurd HA.out (by simp [lapidaryref10_Same.l1])
        | succ k3 =>
         have H:=HA.out
         clear HA
         simp only [lapidaryref10_Same.l1] at H
         by_cases c26 : x6_3 < (l0_1.length : Int)
         ·rw [if_pos c26] at H
          have c26b0 : decide (x6_3 < (l0_1.length : Int)) = true:=decide_eq_true c26
          clear c26
          by_cases c27 : 0 ≤ x6_3
          ·rw [if_pos c27] at H
           have c27b0 : decide (0 ≤ x6_3) = true:=decide_eq_true c27
           clear c27
           by_cases c28 : x6_3 < (l1_1.length : Int)
           ·rw [if_pos c28] at H
            have c28b0 : decide (x6_3 < (l1_1.length : Int)) = true:=decide_eq_true c28
            clear c28
            by_cases c29 : (!(((rd_T57 l0_1 x6_3).f0) == ((rd_T57 l1_1 x6_3).f0)) || (!(((rd_T57 l0_1 x6_3).f1) == ((rd_T57 l1_1 x6_3).f1)) || (!(((rd_T57 l0_1 x6_3).f2) == ((rd_T57 l1_1 x6_3).f2))))) = true
            ·rw [if_pos c29] at H
             have c29b0 : (!(((rd_T57 l0_1 x6_3).f0) == ((rd_T57 l1_1 x6_3).f0)) || (!(((rd_T57 l0_1 x6_3).f1) == ((rd_T57 l1_1 x6_3).f1)) || (!(((rd_T57 l0_1 x6_3).f2) == ((rd_T57 l1_1 x6_3).f2))))) = true:=c29
             clear c29
             obtain rfl:=Option.some.inj H
             have hnb30:=NB235_236.out
             have hnc30:=NB236_235.out
             have hcz31_0 : wr.cell? ⟨gb235,0,none⟩ = some (.slice A0_0 l0_0.length c0_0):=(blk_cell BK235.out 0).trans rfl
             have hcz31_1 : wr.cell? ⟨gb235,1,none⟩ = some (.slice A0_1 l0_1.length c0_1):=(blk_cell BK235.out 1).trans rfl
             have p239 : 0 ≤ (x6_3 : Int):=of_decide_eq_true (by first | (with_reducible assumption) | assumption)
             have q239 : x6_3 < (l0_1.length : Int):=of_decide_eq_true (by first | (with_reducible assumption) | assumption)
             obtain ⟨ad239,e239,hx239_0,hx239_1,hx239_2⟩:=at_T57 HR0_1.out x6_3 p239 q239
             cases e239
             replace hx239_0:=(HB.out.cell (World.block_lt_of_cell? w _ hx239_0)).trans hx239_0
             replace hx239_1:=(HB.out.cell (World.block_lt_of_cell? w _ hx239_1)).trans hx239_1
             replace hx239_2:=(HB.out.cell (World.block_lt_of_cell? w _ hx239_2)).trans hx239_2
             replace p239:=eq_true p239
             replace q239:=eq_true q239
             have hcz32_0 : wr.cell? ⟨gb236,0,none⟩ = some (.slice A1_0 l1_0.length c1_0):=(blk_cell BK236.out 0).trans rfl
             have hcz32_1 : wr.cell? ⟨gb236,1,none⟩ = some (.slice A1_1 l1_1.length c1_1):=(blk_cell BK236.out 1).trans rfl
             have p240 : 0 ≤ (x6_3 : Int):=of_decide_eq_true (by first | (with_reducible assumption) | assumption)
             have q240 : x6_3 < (l1_1.length : Int):=of_decide_eq_true (by first | (with_reducible assumption) | assumption)
             obtain ⟨ad240,e240,hx240_0,hx240_1,hx240_2⟩:=at_T57 HR1_1.out x6_3 p240 q240
             cases e240
             replace hx240_0:=(HB.out.cell (World.block_lt_of_cell? w _ hx240_0)).trans hx240_0
             replace hx240_1:=(HB.out.cell (World.block_lt_of_cell? w _ hx240_1)).trans hx240_1
             replace hx240_2:=(HB.out.cell (World.block_lt_of_cell? w _ hx240_2)).trans hx240_2
             replace p240:=eq_true p240
             replace q240:=eq_true q240
             go_wp2
             repeat (go_quiet (fail);try go_wp2)
             go_ret
             exact ⟨by first | rfl | (simp [errW_none,errW_some]<;>rfl) | (simp [*,errW_none,errW_some]<;>rfl),by repeat (first | (with_reducible first | exact HB.out | apply below_alloc | apply pw_below_drewN | apply below_drew1 | refine below_set ?_ GE235.out | refine below_set ?_ GE236.out) | exact HB.out)⟩
            ·rw [if_neg c29] at H
             have c29b0 : (!(((rd_T57 l0_1 x6_3).f0) == ((rd_T57 l1_1 x6_3).f0)) || (!(((rd_T57 l0_1 x6_3).f1) == ((rd_T57 l1_1 x6_3).f1)) || (!(((rd_T57 l0_1 x6_3).f2) == ((rd_T57 l1_1 x6_3).f2))))) = false:=by simpa using c29
             clear c29
             have H':=aMx12 H
             clear H
             have hnb33:=NB235_236.out
             have hnc33:=NB236_235.out
             have hcz34_0 : wr.cell? ⟨gb235,0,none⟩ = some (.slice A0_0 l0_0.length c0_0):=(blk_cell BK235.out 0).trans rfl
             have hcz34_1 : wr.cell? ⟨gb235,1,none⟩ = some (.slice A0_1 l0_1.length c0_1):=(blk_cell BK235.out 1).trans rfl
             have p239 : 0 ≤ (x6_3 : Int):=of_decide_eq_true (by first | (with_reducible assumption) | assumption)
             have q239 : x6_3 < (l0_1.length : Int):=of_decide_eq_true (by first | (with_reducible assumption) | assumption)
             obtain ⟨ad239,e239,hx239_0,hx239_1,hx239_2⟩:=at_T57 HR0_1.out x6_3 p239 q239
             cases e239
             replace hx239_0:=(HB.out.cell (World.block_lt_of_cell? w _ hx239_0)).trans hx239_0
             replace hx239_1:=(HB.out.cell (World.block_lt_of_cell? w _ hx239_1)).trans hx239_1
             replace hx239_2:=(HB.out.cell (World.block_lt_of_cell? w _ hx239_2)).trans hx239_2
             replace p239:=eq_true p239
             replace q239:=eq_true q239
             have hcz35_0 : wr.cell? ⟨gb236,0,none⟩ = some (.slice A1_0 l1_0.length c1_0):=(blk_cell BK236.out 0).trans rfl
             have hcz35_1 : wr.cell? ⟨gb236,1,none⟩ = some (.slice A1_1 l1_1.length c1_1):=(blk_cell BK236.out 1).trans rfl
             have p240 : 0 ≤ (x6_3 : Int):=of_decide_eq_true (by first | (with_reducible assumption) | assumption)
             have q240 : x6_3 < (l1_1.length : Int):=of_decide_eq_true (by first | (with_reducible assumption) | assumption)
             obtain ⟨ad240,e240,hx240_0,hx240_1,hx240_2⟩:=at_T57 HR1_1.out x6_3 p240 q240
             cases e240
             replace hx240_0:=(HB.out.cell (World.block_lt_of_cell? w _ hx240_0)).trans hx240_0
             replace hx240_1:=(HB.out.cell (World.block_lt_of_cell? w _ hx240_1)).trans hx240_1
             replace hx240_2:=(HB.out.cell (World.block_lt_of_cell? w _ hx240_2)).trans hx240_2
             replace p240:=eq_true p240
             replace q240:=eq_true q240
             go_wp2
             repeat (go_quiet (fail);try go_wp2)
             go_roundg k3
             case measure => have:=HJ2.out;have:=HK2.out;have:=HK3.out;omega
             case rel => exact ⟨(wrap64 (x6_3+1)),(by first | rfl | (simp;done) | (simp [*];done) | (simp [wrap64];done)),H',⟨by have:=HJ2.out;have:=HK2.out;have:=HK3.out;omega⟩,⟨by (with_reducible repeat (first | refine blk_drewN ?_ _ | refine blk_drew ?_ | refine blk_alloc ?_ _));exact BK235.out⟩,⟨by (with_reducible repeat (first | refine blk_drewN ?_ _ | refine blk_drew ?_ | refine blk_alloc ?_ _));exact BK236.out⟩,⟨by repeat (first | (with_reducible first | exact HB.out | apply below_alloc | apply pw_below_drewN | apply below_drew1 | refine below_set ?_ GE235.out | refine below_set ?_ GE236.out) | exact HB.out)⟩⟩
           ·rw [if_neg c28] at H
            exact absurd H (by simp)
          ·rw [if_neg c27] at H
           exact absurd H (by simp)
         ·rw [if_neg c26] at H
          have c26b0 : decide (x6_3 < (l0_1.length : Int)) = false:=decide_eq_false c26
          clear c26
          obtain rfl:=Option.some.inj H
          have hnb36:=NB235_236.out
          have hnc36:=NB236_235.out
          have hcz37_0 : wr.cell? ⟨gb235,0,none⟩ = some (.slice A0_0 l0_0.length c0_0):=(blk_cell BK235.out 0).trans rfl
          have hcz37_1 : wr.cell? ⟨gb235,1,none⟩ = some (.slice A0_1 l0_1.length c0_1):=(blk_cell BK235.out 1).trans rfl
          go_wp2
          repeat (go_quiet (fail);try go_wp2)
          go_ret
          exact ⟨by first | rfl | (simp [errW_none,errW_some]<;>rfl) | (simp [*,errW_none,errW_some]<;>rfl),by repeat (first | (with_reducible first | exact HB.out | apply below_alloc | apply pw_below_drewN | apply below_drew1 | refine below_set ?_ GE235.out | refine below_set ?_ GE236.out) | exact HB.out)⟩
end Go.Proofs.YtbdpfmpbooikiaaDoor.PIsr
