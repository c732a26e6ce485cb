import Derived.Test.YtomknjmgcbbjlaaDoorPWlkx0
import Derived.Test.YtomknjmgcbbjlaaDoorPWlkx5
import Derived.Test.YtomknjmgcbbjlaaDoorPWlkx6
import Derived.Test.YtomknjmgcbbjlaaDoorPWlkx8
namespace Go.Proofs.YtomknjmgcbbjlaaDoor.PWlk
open Go Go.RowKit Go.Proofs.YtomknjmgcbbjlaaDoorW.PrintWords Go.Proofs.YtomknjmgcbbjlaaDoorW.PrintLast Go.Proofs.YtomknjmgcbbjlaaDoorW.PrintMore
attribute [local go_sem] max2_int min2_int max_two min_two max_three min_three max_four min_four
set_option linter.unusedVariables false
set_option maxRecDepth 100000
set_option linter.unusedSimpArgs false
attribute [local go_sem] idx47_0_0 idx47_1_0 idx47_2_0 idx107_0_0 idx107_1_0
theorem sAx9 {α : Type _} {l : List α} {i : Nat} {a : α} : l.toArray.setIfInBounds i a = (l.set i a).toArray := List.setIfInBounds_toArray ..
theorem sBx9 {α : Type _} {x y : α} {l : List α} : (x :: l).set 0 y = y :: l := rfl
theorem sCx9 {α : Type _} {x y : α} {l : List α} {i : Nat} : (x :: l).set (i + 1) y = x :: l.set i y := rfl
theorem aMx9 {p : Prop} (h : p) : Aside0 p := ⟨h⟩
mutual
def lapidaryref10_Check.j0 : Nat → Bool → List (S46) → List (S47) → Option (Int)
  | 0, _, _, _ => none
  | k + 1, x15, x179000, x179001 => if x15 = true then (some 3) else ((lapidaryref10_plain.f k x179000 x179001).bind fun t179 => (if t179 = true then (lapidaryref10_Check.l0 k 0 x179000 x179001) else (some 2)))
def lapidaryref10_Check.l0 : Nat → Int → List (S46) → List (S47) → Option (Int)
  | 0, _, _, _ => none
  | k + 1, x3, x179000, x179001 => if x3 < (x179001.length : Int) then (lapidaryref10_Check.l1 k x3 0 x179000 x179001) else (lapidaryref10_Check.l2 k 0 x179000 x179001)
def lapidaryref10_Check.l1 : Nat → Int → Int → List (S46) → List (S47) → Option (Int)
  | 0, _, _, _, _ => none
  | k + 1, x3, x4, x179000, x179001 => if x4 < 3 then (if 0 ≤ x3 then (if x3 < (x179001.length : Int) then (if x4 = 0 then ((lapidaryref10_Has.f k x179001 ((rd_T47 x179001 x3).f0) ((rd_T47 x179001 x3).f1)).bind fun t182 => (if t182 = x3 then (lapidaryref10_Check.l1 k x3 (wrap64 (x4 + 1)) x179000 x179001) else (some 80))) else (if x4 = 1 then ((lapidaryref10_Has.f k x179001 ((rd_T47 x179001 x3).f1) ((rd_T47 x179001 x3).f2)).bind fun t184 => (if t184 = x3 then (lapidaryref10_Check.l1 k x3 (wrap64 (x4 + 1)) x179000 x179001) else (some 80))) else (if x4 = 2 then ((lapidaryref10_Has.f k x179001 ((rd_T47 x179001 x3).f2) ((rd_T47 x179001 x3).f0)).bind fun t186 => (if t186 = x3 then (lapidaryref10_Check.l1 k x3 (wrap64 (x4 + 1)) x179000 x179001) else (some 80))) else (none)))) else (none)) else (none)) else (lapidaryref10_Check.l0 k (wrap64 (x3 + 1)) x179000 x179001)
def lapidaryref10_Check.l2 : Nat → Int → List (S46) → List (S47) → Option (Int)
  | 0, _, _, _ => none
  | k + 1, x5, x179000, x179001 => if x5 < (x179000.length : Int) then ((lapidaryref10_one.f k x179001 x5).bind fun t187 => (if t187 = true then (lapidaryref10_Check.l2 k (wrap64 (x5 + 1)) x179000 x179001) else (some 81))) else (some 0)
end
def lapidaryref10_Check.f (k : Nat) (l0_0 : List (S46)) (l0_1 : List (S47)) : Option (Int) := if (l0_0.length : Int) > 4000 then (lapidaryref10_Check.j0 k true l0_0 l0_1) else (lapidaryref10_Check.j0 k (decide ((l0_1.length : Int) > 8000)) l0_0 l0_1)
theorem lapidaryref10_Check.mono_l : ∀ k, (∀ y0 y1 y2, LeO (lapidaryref10_Check.j0 k y0 y1 y2) (lapidaryref10_Check.j0 (k + 1) y0 y1 y2)) ∧ (∀ y0 y1 y2, LeO (lapidaryref10_Check.l0 k y0 y1 y2) (lapidaryref10_Check.l0 (k + 1) y0 y1 y2)) ∧ (∀ y0 y1 y2 y3, LeO (lapidaryref10_Check.l1 k y0 y1 y2 y3) (lapidaryref10_Check.l1 (k + 1) y0 y1 y2 y3)) ∧ (∀ y0 y1 y2, LeO (lapidaryref10_Check.l2 k y0 y1 y2) (lapidaryref10_Check.l2 (k + 1) y0 y1 y2))
  | 0 => ⟨fun _ _ _ r h => by simp [lapidaryref10_Check.j0] at h, fun _ _ _ r h => by simp [lapidaryref10_Check.l0] at h, fun _ _ _ _ r h => by simp [lapidaryref10_Check.l1] at h, fun _ _ _ r h => by simp [lapidaryref10_Check.l2] at h⟩
  | k + 1 => by
    obtain ⟨ih0, ih1, ih2, ih3⟩ := lapidaryref10_Check.mono_l k
    refine ⟨?_, ?_, ?_, ?_⟩
    · intro y0 y1 y2
      unfold lapidaryref10_Check.j0
      repeat' first
      | (with_reducible exact ih0 _ _ _)
      | (with_reducible exact ih1 _ _ _)
      | (with_reducible exact ih2 _ _ _ _)
      | (with_reducible exact ih3 _ _ _)
      | (with_reducible exact lapidaryref10_Has.mono _ _ _ _)
      | (with_reducible exact lapidaryref10_one.mono _ _ _)
      | (with_reducible exact lapidaryref10_plain.mono _ _ _)
      | (with_reducible exact LeO.refl _)
      | (with_reducible exact LeO.none _)
      | (with_reducible refine LeO.ite ?_ ?_)
      | (with_reducible refine LeO.bind ?_ (fun _ => ?_))
      | exact ih0 _ _ _
      | exact ih1 _ _ _
      | exact ih2 _ _ _ _
      | exact ih3 _ _ _
      | exact lapidaryref10_Has.mono _ _ _ _
      | exact lapidaryref10_one.mono _ _ _
      | exact lapidaryref10_plain.mono _ _ _
      | exact LeO.none _
      | refine LeO.ite ?_ ?_
      | refine LeO.bind ?_ (fun _ => ?_)
    · intro y0 y1 y2
      unfold lapidaryref10_Check.l0
      repeat' first
      | (with_reducible exact ih0 _ _ _)
      | (with_reducible exact ih1 _ _ _)
      | (with_reducible exact ih2 _ _ _ _)
      | (with_reducible exact ih3 _ _ _)
      | (with_reducible exact lapidaryref10_Has.mono _ _ _ _)
      | (with_reducible exact lapidaryref10_one.mono _ _ _)
      | (with_reducible exact lapidaryref10_plain.mono _ _ _)
      | (with_reducible exact LeO.refl _)
      | (with_reducible exact LeO.none _)
      | (with_reducible refine LeO.ite ?_ ?_)
      | (with_reducible refine LeO.bind ?_ (fun _ => ?_))
      | exact ih0 _ _ _
      | exact ih1 _ _ _
      | exact ih2 _ _ _ _
      | exact ih3 _ _ _
      | exact lapidaryref10_Has.mono _ _ _ _
      | exact lapidaryref10_one.mono _ _ _
      | exact lapidaryref10_plain.mono _ _ _
      | exact LeO.none _
      | refine LeO.ite ?_ ?_
      | refine LeO.bind ?_ (fun _ => ?_)
    · intro y0 y1 y2 y3
      unfold lapidaryref10_Check.l1
      repeat' first
      | (with_reducible exact ih0 _ _ _)
      | (with_reducible exact ih1 _ _ _)
      | (with_reducible exact ih2 _ _ _ _)
      | (with_reducible exact ih3 _ _ _)
      | (with_reducible exact lapidaryref10_Has.mono _ _ _ _)
      | (with_reducible exact lapidaryref10_one.mono _ _ _)
      | (with_reducible exact lapidaryref10_plain.mono _ _ _)
      | (with_reducible exact LeO.refl _)
      | (with_reducible exact LeO.none _)
      | (with_reducible refine LeO.ite ?_ ?_)
      | (with_reducible refine LeO.bind ?_ (fun _ => ?_))
      | exact ih0 _ _ _
      | exact ih1 _ _ _
      | exact ih2 _ _ _ _
      | exact ih3 _ _ _
      | exact lapidaryref10_Has.mono _ _ _ _
      | exact lapidaryref10_one.mono _ _ _
      | exact lapidaryref10_plain.mono _ _ _
      | exact LeO.none _
      | refine LeO.ite ?_ ?_
      | refine LeO.bind ?_ (fun _ => ?_)
    · intro y0 y1 y2
      unfold lapidaryref10_Check.l2
      repeat' first
      | (with_reducible exact ih0 _ _ _)
      | (with_reducible exact ih1 _ _ _)
      | (with_reducible exact ih2 _ _ _ _)
      | (with_reducible exact ih3 _ _ _)
      | (with_reducible exact lapidaryref10_Has.mono _ _ _ _)
      | (with_reducible exact lapidaryref10_one.mono _ _ _)
      | (with_reducible exact lapidaryref10_plain.mono _ _ _)
      | (with_reducible exact LeO.refl _)
      | (with_reducible exact LeO.none _)
      | (with_reducible refine LeO.ite ?_ ?_)
      | (with_reducible refine LeO.bind ?_ (fun _ => ?_))
      | exact ih0 _ _ _
      | exact ih1 _ _ _
      | exact ih2 _ _ _ _
      | exact ih3 _ _ _
      | exact lapidaryref10_Has.mono _ _ _ _
      | exact lapidaryref10_one.mono _ _ _
      | exact lapidaryref10_plain.mono _ _ _
      | exact LeO.none _
      | refine LeO.ite ?_ ?_
      | refine LeO.bind ?_ (fun _ => ?_)
theorem lapidaryref10_Check.mono : ∀ a0 a1 k, LeO (lapidaryref10_Check.f k a0 a1) (lapidaryref10_Check.f (k + 1) a0 a1) := by
  intro a0 a1 k
  obtain ⟨ih0, ih1, ih2, ih3⟩ := lapidaryref10_Check.mono_l k
  unfold lapidaryref10_Check.f
  repeat' first
      | (with_reducible exact ih0 _ _ _)
      | (with_reducible exact ih1 _ _ _)
      | (with_reducible exact ih2 _ _ _ _)
      | (with_reducible exact ih3 _ _ _)
      | (with_reducible exact lapidaryref10_Has.mono _ _ _ _)
      | (with_reducible exact lapidaryref10_one.mono _ _ _)
      | (with_reducible exact lapidaryref10_plain.mono _ _ _)
      | (with_reducible exact LeO.refl _)
      | (with_reducible exact LeO.none _)
      | (with_reducible refine LeO.ite ?_ ?_)
      | (with_reducible refine LeO.bind ?_ (fun _ => ?_))
      | exact ih0 _ _ _
      | exact ih1 _ _ _
      | exact ih2 _ _ _ _
      | exact ih3 _ _ _
      | exact lapidaryref10_Has.mono _ _ _ _
      | exact lapidaryref10_one.mono _ _ _
      | exact lapidaryref10_plain.mono _ _ _
      | exact LeO.none _
      | refine LeO.ite ?_ ?_
      | refine LeO.bind ?_ (fun _ => ?_)
set_option maxHeartbeats 8000000 in
set_option maxRecDepth 100000 in
theorem lapidaryref10_Check.calls (k : Nat) (A0_0 : Option Addr) (c0_0 : Nat) (l0_0 : List (S46)) (A0_1 : Option Addr) (c0_1 : Nat) (l0_1 : List (S47)) (r : Int) (w : World) (hr0_0 : Kd.C k46 w A0_0 l0_0.length l0_0) (hc0_0 : l0_0.length ≤ c0_0) (hr0_1 : Kd.C k47 w A0_1 l0_1.length l0_1) (hc0_1 : l0_1.length ≤ c0_1) (h : lapidaryref10_Check.f k l0_0 l0_1 = some r) :
  Calls Tryd.prog 25 #[.agg #[.slice A0_0 l0_0.length c0_0,.slice A0_1 l0_1.length c0_1]] w fun e w' => e = .returned (.int .i64 r) ∧ Below w.heap.size w w':=by
 have hu25:=Tryd.underlying25
 have HR0_0:=aMx9 hr0_0
 have HC0_0:=aMx9 hc0_0
 clear hr0_0 hc0_0
 have HR0_1:=aMx9 hr0_1
 have HC0_1:=aMx9 hc0_1
 clear hr0_1 hc0_1
 have HB:=aMx9 (Below.refl w.heap.size w)
 have H : (if (l0_0.length : Int) > 4000 then (lapidaryref10_Check.j0 k true l0_0 l0_1) else (lapidaryref10_Check.j0 k (decide ((l0_1.length : Int) > 8000)) l0_0 l0_1)) = some r:=h
 clear h
 have HC2:=aMx9 H
 clear H
 go_enter Tryd.func25,Tryd.ntmps25
 go_upto_region 1 with (first | ((with_reducible refine gate_dst (N:=1) rfl ?_);(try (refine gate_guard (by rfl) ?_;dsimp only));refine box_event ?hg (N:=1) ?hd (cs:=#[.slice A0_0 l0_0.length c0_0,.slice A0_1 l0_1.length c0_1]) (t:=25) ?hr ?_;(case hd => rfl);(case hg => rfl);(case hr => first | (go_simp;done) | (go_simp;rfl));intro gb178 hg w3 hbox hb;have n0_:=aMx9 (below_step (by repeat (first | (with_reducible first | exact HB.out | apply below_alloc | apply pw_below_drewN | apply below_drew1) | exact HB.out)) hb);have n1_:=aMx9 (hbox);have n2_:=aMx9 ((by rw [hg];exact (below_size (by repeat (first | (with_reducible first | exact HB.out | apply below_alloc | apply pw_below_drewN | apply below_drew1) | exact HB.out))) : w.heap.size ≤ gb178));have n3_:=aMx9 ((by rw [hg];exact (below_size (by repeat (first | (with_reducible first | exact HB.out | apply below_alloc | apply pw_below_drewN | apply below_drew1) | exact HB.out))) : w.heap.size ≤ gb178));clear HB;have HB:=n0_;have BK178:=n1_;have GW178:=n2_;have GE178:=n3_;clear n0_ n1_ n2_ n3_;clear hb hbox hg))
 repeat (go_quiet (first | ((with_reducible refine gate_dst (N:=1) rfl ?_);(try (refine gate_guard (by rfl) ?_;dsimp only));refine box_event ?hg (N:=1) ?hd (cs:=#[.slice A0_0 l0_0.length c0_0,.slice A0_1 l0_1.length c0_1]) (t:=25) ?hr ?_;(case hd => rfl);(case hg => rfl);(case hr => first | (go_simp;done) | (go_simp;rfl));intro gb178 hg w3 hbox hb;have n0_:=aMx9 (below_step (by repeat (first | (with_reducible first | exact HB.out | apply below_alloc | apply pw_below_drewN | apply below_drew1) | exact HB.out)) hb);have n1_:=aMx9 (hbox);have n2_:=aMx9 ((by rw [hg];exact (below_size (by repeat (first | (with_reducible first | exact HB.out | apply below_alloc | apply pw_below_drewN | apply below_drew1) | exact HB.out))) : w.heap.size ≤ gb178));have n3_:=aMx9 ((by rw [hg];exact (below_size (by repeat (first | (with_reducible first | exact HB.out | apply below_alloc | apply pw_below_drewN | apply below_drew1) | exact HB.out))) : w.heap.size ≤ gb178));clear HB;have HB:=n0_;have BK178:=n1_;have GW178:=n2_;have GE178:=n3_;clear n0_ n1_ n2_ n3_;clear hb hbox hg));go_upto_region 1 with (first | ((with_reducible refine gate_dst (N:=1) rfl ?_);(try (refine gate_guard (by rfl) ?_;dsimp only));refine box_event ?hg (N:=1) ?hd (cs:=#[.slice A0_0 l0_0.length c0_0,.slice A0_1 l0_1.length c0_1]) (t:=25) ?hr ?_;(case hd => rfl);(case hg => rfl);(case hr => first | (go_simp;done) | (go_simp;rfl));intro gb178 hg w3 hbox hb;have n0_:=aMx9 (below_step (by repeat (first | (with_reducible first | exact HB.out | apply below_alloc | apply pw_below_drewN | apply below_drew1) | exact HB.out)) hb);have n1_:=aMx9 (hbox);have n2_:=aMx9 ((by rw [hg];exact (below_size (by repeat (first | (with_reducible first | exact HB.out | apply below_alloc | apply pw_below_drewN | apply below_drew1) | exact HB.out))) : w.heap.size ≤ gb178));have n3_:=aMx9 ((by rw [hg];exact (below_size (by repeat (first | (with_reducible first | exact HB.out | apply below_alloc | apply pw_below_drewN | apply below_drew1) | exact HB.out))) : w.heap.size ≤ gb178));clear HB;have HB:=n0_;have BK178:=n1_;have GW178:=n2_;have GE178:=n3_;clear n0_ n1_ n2_ n3_;clear hb hbox hg)))
 (try simp only [Act.put,sAx9,sBx9,sCx9])
 go_cut [15] (fun v15 wc => ∃ (kq : Nat) (x15_1 : Bool),v15 = .bool x15_1 ∧ Aside0 (lapidaryref10_Check.j0 kq x15_1 l0_0 l0_1 = some r) ∧ Aside0 (kq ≤ k) ∧ Aside0 (wc.heap[gb178]? = some (.cells #[(.slice A0_0 l0_0.length c0_0),(.slice A0_1 l0_1.length c0_1)] 25 (0,0))) ∧ Aside0 (Below w.heap.size w wc))
 case first =>
  have H:=HC2.out
  clear HC2
  by_cases c4 : (l0_0.length : Int) > 4000
  ·rw [if_pos c4] at H
   have c4b0 : decide (4000 < (l0_0.length : Int)) = true:=decide_eq_true c4
   have c4b1 : decide (4000 < l0_0.length) = true:=decide_eq_true (by omega)
   clear c4
   (first | rw [c4b0] | (simp only [i64_w,i32_w];rw [c4b0]) | skip)
   have H':=aMx9 H
   clear H
   have hcz5_0 : w3.cell? ⟨gb178,0,none⟩ = some (.slice A0_0 l0_0.length c0_0):=(blk_cell BK178.out 0).trans rfl
   have hcz5_1 : w3.cell? ⟨gb178,1,none⟩ = some (.slice A0_1 l0_1.length c0_1):=(blk_cell BK178.out 1).trans rfl
   have hfz5_0:=blk_frozen BK178.out 0
   have hfz5_1:=blk_frozen BK178.out 1
   go_wp2
   repeat (go_quiet (fail);try go_wp2)
   go_meet
   case rel => exact ⟨_,(true),(by first | rfl | (simp;done) | (simp [*];done) | (simp [wrap64];done)),H',⟨by first | omega | exact Nat.le_refl _⟩,⟨by (with_reducible repeat (first | refine blk_drewN ?_ _ | refine blk_drew ?_ | refine blk_alloc ?_ _));exact BK178.out⟩,⟨by repeat (first | (with_reducible first | exact HB.out | apply below_alloc | apply pw_below_drewN | apply below_drew1 | refine below_set ?_ GE178.out) | exact HB.out)⟩⟩
  ·rw [if_neg c4] at H
   have c4b0 : decide (4000 < (l0_0.length : Int)) = false:=decide_eq_false c4
   have c4b1 : decide (4000 < l0_0.length) = false:=decide_eq_false (by omega)
   clear c4
   (first | rw [c4b0] | (simp only [i64_w,i32_w];rw [c4b0]) | skip)
   have H':=aMx9 H
   clear H
   have hcz6_0 : w3.cell? ⟨gb178,0,none⟩ = some (.slice A0_0 l0_0.length c0_0):=(blk_cell BK178.out 0).trans rfl
   have hcz6_1 : w3.cell? ⟨gb178,1,none⟩ = some (.slice A0_1 l0_1.length c0_1):=(blk_cell BK178.out 1).trans rfl
   have hfz6_0:=blk_frozen BK178.out 0
   have hfz6_1:=blk_frozen BK178.out 1
   go_wp2
   repeat (go_quiet (fail);try go_wp2)
   go_meet
   case rel => exact ⟨_,(decide ((l0_1.length : Int) > 8000)),(by first | rfl | (simp;done) | (simp [*];done) | (simp [wrap64];done)),H',⟨by first | omega | exact Nat.le_refl _⟩,⟨by (with_reducible repeat (first | refine blk_drewN ?_ _ | refine blk_drew ?_ | refine blk_alloc ?_ _));exact BK178.out⟩,⟨by repeat (first | (with_reducible first | exact HB.out | apply below_alloc | apply pw_below_drewN | apply below_drew1 | refine below_set ?_ GE178.out) | exact HB.out)⟩⟩
 case rest =>
  clear HC2
  (try clear c2);(try clear p2);(try clear c4);(try clear c4b0);(try clear c4b1);(try clear hcz5_0);(try clear hcz5_1);(try clear hcz6_0);(try clear hcz6_1);(try clear hfz5_0);(try clear hfz5_1);(try clear hfz6_0);(try clear hfz6_1)
  obtain ⟨kq,x15_1,rfl,HA,HJ1,BK178,HB⟩:=hcut
  cases kq with
  | zero => exact absurd HA.out (by simp [lapidaryref10_Check.j0])
  | succ kj1 =>
   have H:=HA.out
   clear HA
   simp only [lapidaryref10_Check.j0] at H
   by_cases c7 : x15_1 = true
   ·subst c7
    have H1 : (some 3) = some r:=by rw [if_pos rfl] at H;exact H
    clear H
    have H:=H1
    clear H1
    obtain rfl:=Option.some.inj H
    go_wp2
    repeat (go_quiet (fail);try go_wp2)
    go_ret
    exact ⟨by first | rfl | (simp [errW_none,errW_some]<;>rfl) | (simp [*,errW_none,errW_some]<;>rfl),by repeat (first | (with_reducible first | exact HB.out | apply below_alloc | apply pw_below_drewN | apply below_drew1 | refine below_set ?_ GE178.out) | exact HB.out)⟩
   ·replace c7:=Bool.eq_false_iff.mpr c7
    subst c7
    have H1 : ((lapidaryref10_plain.f kj1 l0_0 l0_1).bind fun t179 => (if t179 = true then (lapidaryref10_Check.l0 kj1 0 l0_0 l0_1) else (some 2))) = some r:=by rw [if_neg (show ¬ (false = true) by decide)] at H;exact H
    clear H
    have H:=H1
    clear H1
    replace H:=Option.bind_eq_some_iff.mp H
    obtain ⟨t179,A80,H⟩:=H
    replace H : (if t179 = true then (lapidaryref10_Check.l0 kj1 0 l0_0 l0_1) else (some 2)) = some r:=H
    have A8:=aMx9 A80
    clear A80
    by_cases c9 : t179 = true
    ·subst c9
     have H1 : (lapidaryref10_Check.l0 kj1 0 l0_0 l0_1) = some r:=by rw [if_pos rfl] at H;exact H
     clear H
     have H:=H1
     clear H1
     have H':=aMx9 H
     clear H
     have hcz10_0 : wc.cell? ⟨gb178,0,none⟩ = some (.slice A0_0 l0_0.length c0_0):=(blk_cell BK178.out 0).trans rfl
     have hcz10_1 : wc.cell? ⟨gb178,1,none⟩ = some (.slice A0_1 l0_1.length c0_1):=(blk_cell BK178.out 1).trans rfl
     have hfz10_0:=blk_frozen BK178.out 0
     have hfz10_1:=blk_frozen BK178.out 1
     go_wp2_with (first|(go_at_call 62;(with_reducible refine (lapidaryref10_plain.calls kj1 _ _ l0_0 _ _ l0_1 true _ ?side1 ?side2 ?side3 ?side4 A8.out).mono ?_);(case side1 => repeat (first|exact (Kd.C_below HR0_0.out HB.out)|(with_reducible first|refine Kd.C_alloc ?_ _|refine Kd.C_drewN ?_ _|refine Kd.C_drew ?_)));(case side2 => exact HC0_0.out);(case side3 => repeat (first|exact (Kd.C_below HR0_1.out HB.out)|(with_reducible first|refine Kd.C_alloc ?_ _|refine Kd.C_drewN ?_ _|refine Kd.C_drew ?_)));(case side4 => exact HC0_1.out);rintro e w11 ⟨rfl,hb⟩;have n0_:=aMx9 (blk_below (g:=gb178) (o:=.cells #[.slice A0_0 l0_0.length c0_0,.slice A0_1 l0_1.length c0_1] 25 (0,0)) (by (with_reducible repeat (first|refine blk_drewN ?_ _|refine blk_drew ?_|refine blk_alloc ?_ _));exact BK178.out) hb);have n1_:=aMx9 (below_step (by repeat (first|(with_reducible first|exact HB.out|apply below_alloc|apply pw_below_drewN|apply below_drew1|refine below_set ?_ GE178.out)|exact HB.out)) hb);clear BK178;clear HB;have BK178:=n0_;have HB:=n1_;clear n0_ n1_;(try clear hb);(try clear hb2);(try clear hk);(try clear hi)))
     repeat (go_quiet (first|(go_at_call 62;(with_reducible refine (lapidaryref10_plain.calls kj1 _ _ l0_0 _ _ l0_1 true _ ?side1 ?side2 ?side3 ?side4 A8.out).mono ?_);(case side1 => repeat (first|exact (Kd.C_below HR0_0.out HB.out)|(with_reducible first|refine Kd.C_alloc ?_ _|refine Kd.C_drewN ?_ _|refine Kd.C_drew ?_)));(case side2 => exact HC0_0.out);(case side3 => repeat (first|exact (Kd.C_below HR0_1.out HB.out)|(with_reducible first|refine Kd.C_alloc ?_ _|refine Kd.C_drewN ?_ _|refine Kd.C_drew ?_)));(case side4 => exact HC0_1.out);rintro e w11 ⟨rfl,hb⟩;have n0_:=aMx9 (blk_below (g:=gb178) (o:=.cells #[.slice A0_0 l0_0.length c0_0,.slice A0_1 l0_1.length c0_1] 25 (0,0)) (by (with_reducible repeat (first|refine blk_drewN ?_ _|refine blk_drew ?_|refine blk_alloc ?_ _));exact BK178.out) hb);have n1_:=aMx9 (below_step (by repeat (first|(with_reducible first|exact HB.out|apply below_alloc|apply pw_below_drewN|apply below_drew1|refine below_set ?_ GE178.out)|exact HB.out)) hb);clear BK178;clear HB;have BK178:=n0_;have HB:=n1_;clear n0_ n1_;(try clear hb);(try clear hb2);(try clear hk);(try clear hi)));try go_wp2_with (first|(go_at_call 62;(with_reducible refine (lapidaryref10_plain.calls kj1 _ _ l0_0 _ _ l0_1 true _ ?side1 ?side2 ?side3 ?side4 A8.out).mono ?_);(case side1 => repeat (first|exact (Kd.C_below HR0_0.out HB.out)|(with_reducible first|refine Kd.C_alloc ?_ _|refine Kd.C_drewN ?_ _|refine Kd.C_drew ?_)));(case side2 => exact HC0_0.out);(case side3 => repeat (first|exact (Kd.C_below HR0_1.out HB.out)|(with_reducible first|refine Kd.C_alloc ?_ _|refine Kd.C_drewN ?_ _|refine Kd.C_drew ?_)));(case side4 => exact HC0_1.out);rintro e w11 ⟨rfl,hb⟩;have n0_:=aMx9 (blk_below (g:=gb178) (o:=.cells #[.slice A0_0 l0_0.length c0_0,.slice A0_1 l0_1.length c0_1] 25 (0,0)) (by (with_reducible repeat (first|refine blk_drewN ?_ _|refine blk_drew ?_|refine blk_alloc ?_ _));exact BK178.out) hb);have n1_:=aMx9 (below_step (by repeat (first|(with_reducible first|exact HB.out|apply below_alloc|apply pw_below_drewN|apply below_drew1|refine below_set ?_ GE178.out)|exact HB.out)) hb);clear BK178;clear HB;have BK178:=n0_;have HB:=n1_;clear n0_ n1_;(try clear hb);(try clear hb2);(try clear hk);(try clear hi))))
     go_loopg [3] kj1 (fun kq v3 w' => ∃ (x3_2 : Int),v3 = .int .i64 x3_2 ∧ Aside0 (lapidaryref10_Check.l0 kq x3_2 l0_0 l0_1 = some r) ∧ Aside0 (kq ≤ kj1) ∧ Aside0 (w'.heap[gb178]? = some (.cells #[(.slice A0_0 l0_0.length c0_0),(.slice A0_1 l0_1.length c0_1)] 25 (0,0))) ∧ Aside0 (Below w.heap.size w w'))
     case atStart => exact ⟨(0),(by first | rfl | (simp;done) | (simp [*];done) | (simp [wrap64];done)),H',⟨Nat.le_refl _⟩,⟨by (with_reducible repeat (first | refine blk_drewN ?_ _ | refine blk_drew ?_ | refine blk_alloc ?_ _));exact BK178.out⟩,⟨by repeat (first | (with_reducible first | exact HB.out | apply below_alloc | apply pw_below_drewN | apply below_drew1 | refine below_set ?_ GE178.out) | exact HB.out)⟩⟩
     case round =>
      clear H'
      (try clear c2);(try clear p2);(try clear c4);(try clear c4b0);(try clear c4b1);(try clear c7);(try clear c9);(try clear hcz10_0);(try clear hcz10_1);(try clear hcz5_0);(try clear hcz5_1);(try clear hcz6_0);(try clear hcz6_1);(try clear hfz10_0);(try clear hfz10_1);(try clear hfz5_0);(try clear hfz5_1);(try clear hfz6_0);(try clear hfz6_1);(try clear p2)
      obtain ⟨x3_2,rfl,HA,HK2,BK178,HB⟩:=hrel
      cases gk with
      | zero => exact absurd HA.out (by simp [lapidaryref10_Check.l0])
      | succ k2 =>
       have H:=HA.out
       clear HA
       simp only [lapidaryref10_Check.l0] at H
       by_cases c12 : x3_2 < (l0_1.length : Int)
       ·rw [if_pos c12] at H
        have c12b0 : decide (x3_2 < (l0_1.length : Int)) = true:=decide_eq_true c12
        clear c12
        have H':=aMx9 H
        clear H
        have hcz13_0 : wr.cell? ⟨gb178,0,none⟩ = some (.slice A0_0 l0_0.length c0_0):=(blk_cell BK178.out 0).trans rfl
        have hcz13_1 : wr.cell? ⟨gb178,1,none⟩ = some (.slice A0_1 l0_1.length c0_1):=(blk_cell BK178.out 1).trans rfl
        have hfz13_0:=blk_frozen BK178.out 0
        have hfz13_1:=blk_frozen BK178.out 1
        go_wp2
        repeat (go_quiet (fail);try go_wp2)
        go_loopg [4] k2 (fun kq v4 w' => ∃ (x4_3 : Int),v4 = .int .i64 x4_3 ∧ Aside0 (lapidaryref10_Check.l1 kq x3_2 x4_3 l0_0 l0_1 = some r) ∧ Aside0 (kq ≤ k2) ∧ Aside0 (w'.heap[gb178]? = some (.cells #[(.slice A0_0 l0_0.length c0_0),(.slice A0_1 l0_1.length c0_1)] 25 (0,0))) ∧ Aside0 (Below w.heap.size w w'))
        case atStart => exact ⟨(0),(by first | rfl | (simp;done) | (simp [*];done) | (simp [wrap64];done)),H',⟨Nat.le_refl _⟩,⟨by (with_reducible repeat (first | refine blk_drewN ?_ _ | refine blk_drew ?_ | refine blk_alloc ?_ _));exact BK178.out⟩,⟨by repeat (first | (with_reducible first | exact HB.out | apply below_alloc | apply pw_below_drewN | apply below_drew1 | refine below_set ?_ GE178.out) | exact HB.out)⟩⟩
        case round =>
         clear H'
         (try clear c1);(try clear c2);(try clear p2);(try clear c4);(try clear c4b0);(try clear c4b1);(try clear c7);(try clear c9);(try clear c12);(try clear c12b0);(try clear hcz10_0);(try clear hcz10_1);(try clear hcz13_0);(try clear hcz13_1);(try clear hcz5_0);(try clear hcz5_1);(try clear hcz6_0);(try clear hcz6_1);(try clear hfz10_0);(try clear hfz10_1);(try clear hfz13_0);(try clear hfz13_1);(try clear hfz5_0);(try clear hfz5_1);(try clear hfz6_0);(try clear hfz6_1);(try clear p2)
         obtain ⟨x4_3,rfl,HA,HK3,BK178,HB⟩:=hrel
         cases gk with
         | zero => exact absurd HA.out (by simp [lapidaryref10_Check.l1])
         | succ k3 =>
          have H:=HA.out
          clear HA
          simp only [lapidaryref10_Check.l1] at H
          by_cases c14 : x4_3 < 3
          ·rw [if_pos c14] at H
           have c14b0 : decide (x4_3 < 3) = true:=decide_eq_true c14
           clear c14
           by_cases c15 : 0 ≤ x3_2
           ·rw [if_pos c15] at H
            have c15b0 : decide (0 ≤ x3_2) = true:=decide_eq_true c15
            clear c15
            by_cases c16 : x3_2 < (l0_1.length : Int)
            ·rw [if_pos c16] at H
             have c16b0 : decide (x3_2 < (l0_1.length : Int)) = true:=decide_eq_true c16
             clear c16
             by_cases c17 : x4_3 = 0
             ·rw [if_pos c17] at H
              subst c17
              replace H:=Option.bind_eq_some_iff.mp H
              obtain ⟨t182,A180,H⟩:=H
              replace H : (if t182 = x3_2 then (lapidaryref10_Check.l1 k3 x3_2 (wrap64 (0+1)) l0_0 l0_1) else (some 80)) = some r:=H
              have A18:=aMx9 A180
              clear A180
              by_cases c19 : t182 = x3_2
              ·rw [if_pos c19] at H
               have c19b0 : (t182 == x3_2) = true:=beq_iff_eq.mpr c19
               have c19b1 : (t182 != x3_2) = false:=bne_eq_false_iff_eq.mpr c19
               clear c19
               have H':=aMx9 H
               clear H
               have hcz20_0 : wr.cell? ⟨gb178,0,none⟩ = some (.slice A0_0 l0_0.length c0_0):=(blk_cell BK178.out 0).trans rfl
               have hcz20_1 : wr.cell? ⟨gb178,1,none⟩ = some (.slice A0_1 l0_1.length c0_1):=(blk_cell BK178.out 1).trans rfl
               have hfz20_0:=blk_frozen BK178.out 0
               have hfz20_1:=blk_frozen BK178.out 1
               have p180 : 0 ≤ (x3_2 : Int):=of_decide_eq_true (by first | (with_reducible assumption) | assumption)
               have q180 : x3_2 < (l0_1.length : Int):=of_decide_eq_true (by first | (with_reducible assumption) | assumption)
               obtain ⟨ad180,e180,hx180_0,hx180_1,hx180_2⟩:=at_T47 HR0_1.out x3_2 p180 q180
               cases e180
               replace hx180_0:=(HB.out.cell (World.block_lt_of_cell? w _ hx180_0)).trans hx180_0
               replace hx180_1:=(HB.out.cell (World.block_lt_of_cell? w _ hx180_1)).trans hx180_1
               replace hx180_2:=(HB.out.cell (World.block_lt_of_cell? w _ hx180_2)).trans hx180_2
               replace p180:=eq_true p180
               replace q180:=eq_true q180
               have p181 : 0 ≤ (x3_2 : Int):=of_decide_eq_true (by first | (with_reducible assumption) | assumption)
               have q181 : x3_2 < (l0_1.length : Int):=of_decide_eq_true (by first | (with_reducible assumption) | assumption)
               obtain ⟨ad181,e181,hx181_0,hx181_1,hx181_2⟩:=at_T47 HR0_1.out x3_2 p181 q181
               obtain rfl : ad180 = ad181:=(by injection e181)
               replace hx181_0:=(HB.out.cell (World.block_lt_of_cell? w _ hx181_0)).trans hx181_0
               replace hx181_1:=(HB.out.cell (World.block_lt_of_cell? w _ hx181_1)).trans hx181_1
               replace hx181_2:=(HB.out.cell (World.block_lt_of_cell? w _ hx181_2)).trans hx181_2
               replace p181:=eq_true p181
               replace q181:=eq_true q181
               go_wp2_with (first|(go_at_call 31;(with_reducible refine (lapidaryref10_Has.calls k3 _ _ l0_1 ((rd_T47 l0_1 x3_2).f0) ((rd_T47 l0_1 x3_2).f1) t182 _ ?side1 ?side2 A18.out).mono ?_);(case side1 => repeat (first|exact (Kd.C_below HR0_1.out HB.out)|(with_reducible first|refine Kd.C_alloc ?_ _|refine Kd.C_drewN ?_ _|refine Kd.C_drew ?_)));(case side2 => exact HC0_1.out);rintro e w' ⟨rfl,⟨nd,rfl⟩⟩;(try first|exact ⟨rfl,_,World.drewN_drewN _ _ _⟩|exact ⟨rfl,_,Eq.trans (World.drewN_drewN _ _ _) (congrArg (World.drewN _) (Nat.add_assoc _ _ _))⟩)))
               repeat (go_quiet (first|(go_at_call 31;(with_reducible refine (lapidaryref10_Has.calls k3 _ _ l0_1 ((rd_T47 l0_1 x3_2).f0) ((rd_T47 l0_1 x3_2).f1) t182 _ ?side1 ?side2 A18.out).mono ?_);(case side1 => repeat (first|exact (Kd.C_below HR0_1.out HB.out)|(with_reducible first|refine Kd.C_alloc ?_ _|refine Kd.C_drewN ?_ _|refine Kd.C_drew ?_)));(case side2 => exact HC0_1.out);rintro e w' ⟨rfl,⟨nd,rfl⟩⟩;(try first|exact ⟨rfl,_,World.drewN_drewN _ _ _⟩|exact ⟨rfl,_,Eq.trans (World.drewN_drewN _ _ _) (congrArg (World.drewN _) (Nat.add_assoc _ _ _))⟩)));try go_wp2_with (first|(go_at_call 31;(with_reducible refine (lapidaryref10_Has.calls k3 _ _ l0_1 ((rd_T47 l0_1 x3_2).f0) ((rd_T47 l0_1 x3_2).f1) t182 _ ?side1 ?side2 A18.out).mono ?_);(case side1 => repeat (first|exact (Kd.C_below HR0_1.out HB.out)|(with_reducible first|refine Kd.C_alloc ?_ _|refine Kd.C_drewN ?_ _|refine Kd.C_drew ?_)));(case side2 => exact HC0_1.out);rintro e w' ⟨rfl,⟨nd,rfl⟩⟩;(try first|exact ⟨rfl,_,World.drewN_drewN _ _ _⟩|exact ⟨rfl,_,Eq.trans (World.drewN_drewN _ _ _) (congrArg (World.drewN _) (Nat.add_assoc _ _ _))⟩))))
               go_roundg k3
               case measure => have:=HJ1.out;have:=HK2.out;have:=HK3.out;omega
               case rel => exact ⟨(wrap64 (0+1)),(by first | rfl | (simp;done) | (simp [*];done) | (simp [wrap64];done)),H',⟨by have:=HJ1.out;have:=HK2.out;have:=HK3.out;omega⟩,⟨by (with_reducible repeat (first | refine blk_drewN ?_ _ | refine blk_drew ?_ | refine blk_alloc ?_ _));exact BK178.out⟩,⟨by repeat (first | (with_reducible first | exact HB.out | apply below_alloc | apply pw_below_drewN | apply below_drew1 | refine below_set ?_ GE178.out) | exact HB.out)⟩⟩
              ·rw [if_neg c19] at H
               have c19b0 : (t182 == x3_2) = false:=beq_eq_false_iff_ne.mpr c19
               have c19b1 : (t182 != x3_2) = true:=bne_iff_ne.mpr c19
               obtain rfl:=Option.some.inj H
               have hcz21_0 : wr.cell? ⟨gb178,0,none⟩ = some (.slice A0_0 l0_0.length c0_0):=(blk_cell BK178.out 0).trans rfl
               have hcz21_1 : wr.cell? ⟨gb178,1,none⟩ = some (.slice A0_1 l0_1.length c0_1):=(blk_cell BK178.out 1).trans rfl
               have hfz21_0:=blk_frozen BK178.out 0
               have hfz21_1:=blk_frozen BK178.out 1
               have p180 : 0 ≤ (x3_2 : Int):=of_decide_eq_true (by first | (with_reducible assumption) | assumption)
               have q180 : x3_2 < (l0_1.length : Int):=of_decide_eq_true (by first | (with_reducible assumption) | assumption)
               obtain ⟨ad180,e180,hx180_0,hx180_1,hx180_2⟩:=at_T47 HR0_1.out x3_2 p180 q180
               cases e180
               replace hx180_0:=(HB.out.cell (World.block_lt_of_cell? w _ hx180_0)).trans hx180_0
               replace hx180_1:=(HB.out.cell (World.block_lt_of_cell? w _ hx180_1)).trans hx180_1
               replace hx180_2:=(HB.out.cell (World.block_lt_of_cell? w _ hx180_2)).trans hx180_2
               replace p180:=eq_true p180
               replace q180:=eq_true q180
               have p181 : 0 ≤ (x3_2 : Int):=of_decide_eq_true (by first | (with_reducible assumption) | assumption)
               have q181 : x3_2 < (l0_1.length : Int):=of_decide_eq_true (by first | (with_reducible assumption) | assumption)
               obtain ⟨ad181,e181,hx181_0,hx181_1,hx181_2⟩:=at_T47 HR0_1.out x3_2 p181 q181
               obtain rfl : ad180 = ad181:=(by injection e181)
               replace hx181_0:=(HB.out.cell (World.block_lt_of_cell? w _ hx181_0)).trans hx181_0
               replace hx181_1:=(HB.out.cell (World.block_lt_of_cell? w _ hx181_1)).trans hx181_1
               replace hx181_2:=(HB.out.cell (World.block_lt_of_cell? w _ hx181_2)).trans hx181_2
               replace p181:=eq_true p181
               replace q181:=eq_true q181
               go_wp2_with (first|(go_at_call 31;(with_reducible refine (lapidaryref10_Has.calls k3 _ _ l0_1 ((rd_T47 l0_1 x3_2).f0) ((rd_T47 l0_1 x3_2).f1) t182 _ ?side1 ?side2 A18.out).mono ?_);(case side1 => repeat (first|exact (Kd.C_below HR0_1.out HB.out)|(with_reducible first|refine Kd.C_alloc ?_ _|refine Kd.C_drewN ?_ _|refine Kd.C_drew ?_)));(case side2 => exact HC0_1.out);rintro e w' ⟨rfl,⟨nd,rfl⟩⟩;(try first|exact ⟨rfl,_,World.drewN_drewN _ _ _⟩|exact ⟨rfl,_,Eq.trans (World.drewN_drewN _ _ _) (congrArg (World.drewN _) (Nat.add_assoc _ _ _))⟩)))
               repeat (go_quiet (first|(go_at_call 31;(with_reducible refine (lapidaryref10_Has.calls k3 _ _ l0_1 ((rd_T47 l0_1 x3_2).f0) ((rd_T47 l0_1 x3_2).f1) t182 _ ?side1 ?side2 A18.out).mono ?_);(case side1 => repeat (first|exact (Kd.C_below HR0_1.out HB.out)|(with_reducible first|refine Kd.C_alloc ?_ _|refine Kd.C_drewN ?_ _|refine Kd.C_drew ?_)));(case side2 => exact HC0_1.out);rintro e w' ⟨rfl,⟨nd,rfl⟩⟩;(try first|exact ⟨rfl,_,World.drewN_drewN _ _ _⟩|exact ⟨rfl,_,Eq.trans (World.drewN_drewN _ _ _) (congrArg (World.drewN _) (Nat.add_assoc _ _ _))⟩)));try go_wp2_with (first|(go_at_call 31;(with_reducible refine (lapidaryref10_Has.calls k3 _ _ l0_1 ((rd_T47 l0_1 x3_2).f0) ((rd_T47 l0_1 x3_2).f1) t182 _ ?side1 ?side2 A18.out).mono ?_);(case side1 => repeat (first|exact (Kd.C_below HR0_1.out HB.out)|(with_reducible first|refine Kd.C_alloc ?_ _|refine Kd.C_drewN ?_ _|refine Kd.C_drew ?_)));(case side2 => exact HC0_1.out);rintro e w' ⟨rfl,⟨nd,rfl⟩⟩;(try first|exact ⟨rfl,_,World.drewN_drewN _ _ _⟩|exact ⟨rfl,_,Eq.trans (World.drewN_drewN _ _ _) (congrArg (World.drewN _) (Nat.add_assoc _ _ _))⟩))))
               go_ret
               exact ⟨by first | rfl | (simp [errW_none,errW_some]<;>rfl) | (simp [*,errW_none,errW_some]<;>rfl),by repeat (first | (with_reducible first | exact HB.out | apply below_alloc | apply pw_below_drewN | apply below_drew1 | refine below_set ?_ GE178.out) | exact HB.out)⟩
             ·rw [if_neg c17] at H
              by_cases c22 : x4_3 = 1
              ·rw [if_pos c22] at H
               subst c22
               replace H:=Option.bind_eq_some_iff.mp H
               obtain ⟨t184,A230,H⟩:=H
               replace H : (if t184 = x3_2 then (lapidaryref10_Check.l1 k3 x3_2 (wrap64 (1+1)) l0_0 l0_1) else (some 80)) = some r:=H
               have A23:=aMx9 A230
               clear A230
               by_cases c24 : t184 = x3_2
               ·rw [if_pos c24] at H
                have c24b0 : (t184 == x3_2) = true:=beq_iff_eq.mpr c24
                have c24b1 : (t184 != x3_2) = false:=bne_eq_false_iff_eq.mpr c24
                clear c24
                have H':=aMx9 H
                clear H
                have hcz25_0 : wr.cell? ⟨gb178,0,none⟩ = some (.slice A0_0 l0_0.length c0_0):=(blk_cell BK178.out 0).trans rfl
                have hcz25_1 : wr.cell? ⟨gb178,1,none⟩ = some (.slice A0_1 l0_1.length c0_1):=(blk_cell BK178.out 1).trans rfl
                have hfz25_0:=blk_frozen BK178.out 0
                have hfz25_1:=blk_frozen BK178.out 1
                have p180 : 0 ≤ (x3_2 : Int):=of_decide_eq_true (by first | (with_reducible assumption) | assumption)
                have q180 : x3_2 < (l0_1.length : Int):=of_decide_eq_true (by first | (with_reducible assumption) | assumption)
                obtain ⟨ad180,e180,hx180_0,hx180_1,hx180_2⟩:=at_T47 HR0_1.out x3_2 p180 q180
                cases e180
                replace hx180_0:=(HB.out.cell (World.block_lt_of_cell? w _ hx180_0)).trans hx180_0
                replace hx180_1:=(HB.out.cell (World.block_lt_of_cell? w _ hx180_1)).trans hx180_1
                replace hx180_2:=(HB.out.cell (World.block_lt_of_cell? w _ hx180_2)).trans hx180_2
                replace p180:=eq_true p180
                replace q180:=eq_true q180
                have p183 : 0 ≤ (x3_2 : Int):=of_decide_eq_true (by first | (with_reducible assumption) | assumption)
                have q183 : x3_2 < (l0_1.length : Int):=of_decide_eq_true (by first | (with_reducible assumption) | assumption)
                obtain ⟨ad183,e183,hx183_0,hx183_1,hx183_2⟩:=at_T47 HR0_1.out x3_2 p183 q183
                obtain rfl : ad180 = ad183:=(by injection e183)
                replace hx183_0:=(HB.out.cell (World.block_lt_of_cell? w _ hx183_0)).trans hx183_0
                replace hx183_1:=(HB.out.cell (World.block_lt_of_cell? w _ hx183_1)).trans hx183_1
                replace hx183_2:=(HB.out.cell (World.block_lt_of_cell? w _ hx183_2)).trans hx183_2
                replace p183:=eq_true p183
                replace q183:=eq_true q183
                go_wp2_with (first|(go_at_call 31;(with_reducible refine (lapidaryref10_Has.calls k3 _ _ l0_1 ((rd_T47 l0_1 x3_2).f1) ((rd_T47 l0_1 x3_2).f2) t184 _ ?side1 ?side2 A23.out).mono ?_);(case side1 => repeat (first|exact (Kd.C_below HR0_1.out HB.out)|(with_reducible first|refine Kd.C_alloc ?_ _|refine Kd.C_drewN ?_ _|refine Kd.C_drew ?_)));(case side2 => exact HC0_1.out);rintro e w' ⟨rfl,⟨nd,rfl⟩⟩;(try first|exact ⟨rfl,_,World.drewN_drewN _ _ _⟩|exact ⟨rfl,_,Eq.trans (World.drewN_drewN _ _ _) (congrArg (World.drewN _) (Nat.add_assoc _ _ _))⟩)))
                repeat (go_quiet (first|(go_at_call 31;(with_reducible refine (lapidaryref10_Has.calls k3 _ _ l0_1 ((rd_T47 l0_1 x3_2).f1) ((rd_T47 l0_1 x3_2).f2) t184 _ ?side1 ?side2 A23.out).mono ?_);(case side1 => repeat (first|exact (Kd.C_below HR0_1.out HB.out)|(with_reducible first|refine Kd.C_alloc ?_ _|refine Kd.C_drewN ?_ _|refine Kd.C_drew ?_)));(case side2 => exact HC0_1.out);rintro e w' ⟨rfl,⟨nd,rfl⟩⟩;(try first|exact ⟨rfl,_,World.drewN_drewN _ _ _⟩|exact ⟨rfl,_,Eq.trans (World.drewN_drewN _ _ _) (congrArg (World.drewN _) (Nat.add_assoc _ _ _))⟩)));try go_wp2_with (first|(go_at_call 31;(with_reducible refine (lapidaryref10_Has.calls k3 _ _ l0_1 ((rd_T47 l0_1 x3_2).f1) ((rd_T47 l0_1 x3_2).f2) t184 _ ?side1 ?side2 A23.out).mono ?_);(case side1 => repeat (first|exact (Kd.C_below HR0_1.out HB.out)|(with_reducible first|refine Kd.C_alloc ?_ _|refine Kd.C_drewN ?_ _|refine Kd.C_drew ?_)));(case side2 => exact HC0_1.out);rintro e w' ⟨rfl,⟨nd,rfl⟩⟩;(try first|exact ⟨rfl,_,World.drewN_drewN _ _ _⟩|exact ⟨rfl,_,Eq.trans (World.drewN_drewN _ _ _) (congrArg (World.drewN _) (Nat.add_assoc _ _ _))⟩))))
                go_roundg k3
                case measure => have:=HJ1.out;have:=HK2.out;have:=HK3.out;omega
                case rel => exact ⟨(wrap64 (1+1)),(by first | rfl | (simp;done) | (simp [*];done) | (simp [wrap64];done)),H',⟨by have:=HJ1.out;have:=HK2.out;have:=HK3.out;omega⟩,⟨by (with_reducible repeat (first | refine blk_drewN ?_ _ | refine blk_drew ?_ | refine blk_alloc ?_ _));exact BK178.out⟩,⟨by repeat (first | (with_reducible first | exact HB.out | apply below_alloc | apply pw_below_drewN | apply below_drew1 | refine below_set ?_ GE178.out) | exact HB.out)⟩⟩
               ·rw [if_neg c24] at H
                have c24b0 : (t184 == x3_2) = false:=beq_eq_false_iff_ne.mpr c24
                have c24b1 : (t184 != x3_2) = true:=bne_iff_ne.mpr c24
                obtain rfl:=Option.some.inj H
                have hcz26_0 : wr.cell? ⟨gb178,0,none⟩ = some (.slice A0_0 l0_0.length c0_0):=(blk_cell BK178.out 0).trans rfl
                have hcz26_1 : wr.cell? ⟨gb178,1,none⟩ = some (.slice A0_1 l0_1.length c0_1):=(blk_cell BK178.out 1).trans rfl
                have hfz26_0:=blk_frozen BK178.out 0
                have hfz26_1:=blk_frozen BK178.out 1
                have p180 : 0 ≤ (x3_2 : Int):=of_decide_eq_true (by first | (with_reducible assumption) | assumption)
                have q180 : x3_2 < (l0_1.length : Int):=of_decide_eq_true (by first | (with_reducible assumption) | assumption)
                obtain ⟨ad180,e180,hx180_0,hx180_1,hx180_2⟩:=at_T47 HR0_1.out x3_2 p180 q180
                cases e180
                replace hx180_0:=(HB.out.cell (World.block_lt_of_cell? w _ hx180_0)).trans hx180_0
                replace hx180_1:=(HB.out.cell (World.block_lt_of_cell? w _ hx180_1)).trans hx180_1
                replace hx180_2:=(HB.out.cell (World.block_lt_of_cell? w _ hx180_2)).trans hx180_2
                replace p180:=eq_true p180
                replace q180:=eq_true q180
                have p183 : 0 ≤ (x3_2 : Int):=of_decide_eq_true (by first | (with_reducible assumption) | assumption)
                have q183 : x3_2 < (l0_1.length : Int):=of_decide_eq_true (by first | (with_reducible assumption) | assumption)
                obtain ⟨ad183,e183,hx183_0,hx183_1,hx183_2⟩:=at_T47 HR0_1.out x3_2 p183 q183
                obtain rfl : ad180 = ad183:=(by injection e183)
                replace hx183_0:=(HB.out.cell (World.block_lt_of_cell? w _ hx183_0)).trans hx183_0
                replace hx183_1:=(HB.out.cell (World.block_lt_of_cell? w _ hx183_1)).trans hx183_1
                replace hx183_2:=(HB.out.cell (World.block_lt_of_cell? w _ hx183_2)).trans hx183_2
                replace p183:=eq_true p183
                replace q183:=eq_true q183
                go_wp2_with (first|(go_at_call 31;(with_reducible refine (lapidaryref10_Has.calls k3 _ _ l0_1 ((rd_T47 l0_1 x3_2).f1) ((rd_T47 l0_1 x3_2).f2) t184 _ ?side1 ?side2 A23.out).mono ?_);(case side1 => repeat (first|exact (Kd.C_below HR0_1.out HB.out)|(with_reducible first|refine Kd.C_alloc ?_ _|refine Kd.C_drewN ?_ _|refine Kd.C_drew ?_)));(case side2 => exact HC0_1.out);rintro e w' ⟨rfl,⟨nd,rfl⟩⟩;(try first|exact ⟨rfl,_,World.drewN_drewN _ _ _⟩|exact ⟨rfl,_,Eq.trans (World.drewN_drewN _ _ _) (congrArg (World.drewN _) (Nat.add_assoc _ _ _))⟩)))
                repeat (go_quiet (first|(go_at_call 31;(with_reducible refine (lapidaryref10_Has.calls k3 _ _ l0_1 ((rd_T47 l0_1 x3_2).f1) ((rd_T47 l0_1 x3_2).f2) t184 _ ?side1 ?side2 A23.out).mono ?_);(case side1 => repeat (first|exact (Kd.C_below HR0_1.out HB.out)|(with_reducible first|refine Kd.C_alloc ?_ _|refine Kd.C_drewN ?_ _|refine Kd.C_drew ?_)));(case side2 => exact HC0_1.out);rintro e w' ⟨rfl,⟨nd,rfl⟩⟩;(try first|exact ⟨rfl,_,World.drewN_drewN _ _ _⟩|exact ⟨rfl,_,Eq.trans (World.drewN_drewN _ _ _) (congrArg (World.drewN _) (Nat.add_assoc _ _ _))⟩)));try go_wp2_with (first|(go_at_call 31;(with_reducible refine (lapidaryref10_Has.calls k3 _ _ l0_1 ((rd_T47 l0_1 x3_2).f1) ((rd_T47 l0_1 x3_2).f2) t184 _ ?side1 ?side2 A23.out).mono ?_);(case side1 => repeat (first|exact (Kd.C_below HR0_1.out HB.out)|(with_reducible first|refine Kd.C_alloc ?_ _|refine Kd.C_drewN ?_ _|refine Kd.C_drew ?_)));(case side2 => exact HC0_1.out);rintro e w' ⟨rfl,⟨nd,rfl⟩⟩;(try first|exact ⟨rfl,_,World.drewN_drewN _ _ _⟩|exact ⟨rfl,_,Eq.trans (World.drewN_drewN _ _ _) (congrArg (World.drewN _) (Nat.add_assoc _ _ _))⟩))))
                go_ret
                exact ⟨by first | rfl | (simp [errW_none,errW_some]<;>rfl) | (simp [*,errW_none,errW_some]<;>rfl),by repeat (first | (with_reducible first | exact HB.out | apply below_alloc | apply pw_below_drewN | apply below_drew1 | refine below_set ?_ GE178.out) | exact HB.out)⟩
              ·rw [if_neg c22] at H
               by_cases c27 : x4_3 = 2
               ·rw [if_pos c27] at H
                subst c27
                replace H:=Option.bind_eq_some_iff.mp H
                obtain ⟨t186,A280,H⟩:=H
                replace H : (if t186 = x3_2 then (lapidaryref10_Check.l1 k3 x3_2 (wrap64 (2+1)) l0_0 l0_1) else (some 80)) = some r:=H
                have A28:=aMx9 A280
                clear A280
                by_cases c29 : t186 = x3_2
                ·rw [if_pos c29] at H
                 have c29b0 : (t186 == x3_2) = true:=beq_iff_eq.mpr c29
                 have c29b1 : (t186 != x3_2) = false:=bne_eq_false_iff_eq.mpr c29
                 clear c29
                 have H':=aMx9 H
                 clear H
                 have hcz30_0 : wr.cell? ⟨gb178,0,none⟩ = some (.slice A0_0 l0_0.length c0_0):=(blk_cell BK178.out 0).trans rfl
                 have hcz30_1 : wr.cell? ⟨gb178,1,none⟩ = some (.slice A0_1 l0_1.length c0_1):=(blk_cell BK178.out 1).trans rfl
                 have hfz30_0:=blk_frozen BK178.out 0
                 have hfz30_1:=blk_frozen BK178.out 1
                 have p180 : 0 ≤ (x3_2 : Int):=of_decide_eq_true (by first | (with_reducible assumption) | assumption)
                 have q180 : x3_2 < (l0_1.length : Int):=of_decide_eq_true (by first | (with_reducible assumption) | assumption)
                 obtain ⟨ad180,e180,hx180_0,hx180_1,hx180_2⟩:=at_T47 HR0_1.out x3_2 p180 q180
                 cases e180
                 replace hx180_0:=(HB.out.cell (World.block_lt_of_cell? w _ hx180_0)).trans hx180_0
                 replace hx180_1:=(HB.out.cell (World.block_lt_of_cell? w _ hx180_1)).trans hx180_1
                 replace hx180_2:=(HB.out.cell (World.block_lt_of_cell? w _ hx180_2)).trans hx180_2
                 replace p180:=eq_true p180
                 replace q180:=eq_true q180
                 have p185 : 0 ≤ (x3_2 : Int):=of_decide_eq_true (by first | (with_reducible assumption) | assumption)
                 have q185 : x3_2 < (l0_1.length : Int):=of_decide_eq_true (by first | (with_reducible assumption) | assumption)
                 obtain ⟨ad185,e185,hx185_0,hx185_1,hx185_2⟩:=at_T47 HR0_1.out x3_2 p185 q185
                 obtain rfl : ad180 = ad185:=(by injection e185)
                 replace hx185_0:=(HB.out.cell (World.block_lt_of_cell? w _ hx185_0)).trans hx185_0
                 replace hx185_1:=(HB.out.cell (World.block_lt_of_cell? w _ hx185_1)).trans hx185_1
                 replace hx185_2:=(HB.out.cell (World.block_lt_of_cell? w _ hx185_2)).trans hx185_2
                 replace p185:=eq_true p185
                 replace q185:=eq_true q185
                 go_wp2_with (first|(go_at_call 31;(with_reducible refine (lapidaryref10_Has.calls k3 _ _ l0_1 ((rd_T47 l0_1 x3_2).f2) ((rd_T47 l0_1 x3_2).f0) t186 _ ?side1 ?side2 A28.out).mono ?_);(case side1 => repeat (first|exact (Kd.C_below HR0_1.out HB.out)|(with_reducible first|refine Kd.C_alloc ?_ _|refine Kd.C_drewN ?_ _|refine Kd.C_drew ?_)));(case side2 => exact HC0_1.out);rintro e w' ⟨rfl,⟨nd,rfl⟩⟩;(try first|exact ⟨rfl,_,World.drewN_drewN _ _ _⟩|exact ⟨rfl,_,Eq.trans (World.drewN_drewN _ _ _) (congrArg (World.drewN _) (Nat.add_assoc _ _ _))⟩)))
                 repeat (go_quiet (first|(go_at_call 31;(with_reducible refine (lapidaryref10_Has.calls k3 _ _ l0_1 ((rd_T47 l0_1 x3_2).f2) ((rd_T47 l0_1 x3_2).f0) t186 _ ?side1 ?side2 A28.out).mono ?_);(case side1 => repeat (first|exact (Kd.C_below HR0_1.out HB.out)|(with_reducible first|refine Kd.C_alloc ?_ _|refine Kd.C_drewN ?_ _|refine Kd.C_drew ?_)));(case side2 => exact HC0_1.out);rintro e w' ⟨rfl,⟨nd,rfl⟩⟩;(try first|exact ⟨rfl,_,World.drewN_drewN _ _ _⟩|exact ⟨rfl,_,Eq.trans (World.drewN_drewN _ _ _) (congrArg (World.drewN _) (Nat.add_assoc _ _ _))⟩)));try go_wp2_with (first|(go_at_call 31;(with_reducible refine (lapidaryref10_Has.calls k3 _ _ l0_1 ((rd_T47 l0_1 x3_2).f2) ((rd_T47 l0_1 x3_2).f0) t186 _ ?side1 ?side2 A28.out).mono ?_);(case side1 => repeat (first|exact (Kd.C_below HR0_1.out HB.out)|(with_reducible first|refine Kd.C_alloc ?_ _|refine Kd.C_drewN ?_ _|refine Kd.C_drew ?_)));(case side2 => exact HC0_1.out);rintro e w' ⟨rfl,⟨nd,rfl⟩⟩;(try first|exact ⟨rfl,_,World.drewN_drewN _ _ _⟩|exact ⟨rfl,_,Eq.trans (World.drewN_drewN _ _ _) (congrArg (World.drewN _) (Nat.add_assoc _ _ _))⟩))))
                 go_roundg k3
                 case measure => have:=HJ1.out;have:=HK2.out;have:=HK3.out;omega
                 case rel => exact ⟨(wrap64 (2+1)),(by first | rfl | (simp;done) | (simp [*];done) | (simp [wrap64];done)),H',⟨by have:=HJ1.out;have:=HK2.out;have:=HK3.out;omega⟩,⟨by (with_reducible repeat (first | refine blk_drewN ?_ _ | refine blk_drew ?_ | refine blk_alloc ?_ _));exact BK178.out⟩,⟨by repeat (first | (with_reducible first | exact HB.out | apply below_alloc | apply pw_below_drewN | apply below_drew1 | refine below_set ?_ GE178.out) | exact HB.out)⟩⟩
                ·rw [if_neg c29] at H
                 have c29b0 : (t186 == x3_2) = false:=beq_eq_false_iff_ne.mpr c29
                 have c29b1 : (t186 != x3_2) = true:=bne_iff_ne.mpr c29
                 obtain rfl:=Option.some.inj H
                 have hcz31_0 : wr.cell? ⟨gb178,0,none⟩ = some (.slice A0_0 l0_0.length c0_0):=(blk_cell BK178.out 0).trans rfl
                 have hcz31_1 : wr.cell? ⟨gb178,1,none⟩ = some (.slice A0_1 l0_1.length c0_1):=(blk_cell BK178.out 1).trans rfl
                 have hfz31_0:=blk_frozen BK178.out 0
                 have hfz31_1:=blk_frozen BK178.out 1
                 have p180 : 0 ≤ (x3_2 : Int):=of_decide_eq_true (by first | (with_reducible assumption) | assumption)
                 have q180 : x3_2 < (l0_1.length : Int):=of_decide_eq_true (by first | (with_reducible assumption) | assumption)
                 obtain ⟨ad180,e180,hx180_0,hx180_1,hx180_2⟩:=at_T47 HR0_1.out x3_2 p180 q180
                 cases e180
                 replace hx180_0:=(HB.out.cell (World.block_lt_of_cell? w _ hx180_0)).trans hx180_0
                 replace hx180_1:=(HB.out.cell (World.block_lt_of_cell? w _ hx180_1)).trans hx180_1
                 replace hx180_2:=(HB.out.cell (World.block_lt_of_cell? w _ hx180_2)).trans hx180_2
                 replace p180:=eq_true p180
                 replace q180:=eq_true q180
                 have p185 : 0 ≤ (x3_2 : Int):=of_decide_eq_true (by first | (with_reducible assumption) | assumption)
                 have q185 : x3_2 < (l0_1.length : Int):=of_decide_eq_true (by first | (with_reducible assumption) | assumption)
                 obtain ⟨ad185,e185,hx185_0,hx185_1,hx185_2⟩:=at_T47 HR0_1.out x3_2 p185 q185
                 obtain rfl : ad180 = ad185:=(by injection e185)
                 replace hx185_0:=(HB.out.cell (World.block_lt_of_cell? w _ hx185_0)).trans hx185_0
                 replace hx185_1:=(HB.out.cell (World.block_lt_of_cell? w _ hx185_1)).trans hx185_1
                 replace hx185_2:=(HB.out.cell (World.block_lt_of_cell? w _ hx185_2)).trans hx185_2
                 replace p185:=eq_true p185
                 replace q185:=eq_true q185
                 go_wp2_with (first|(go_at_call 31;(with_reducible refine (lapidaryref10_Has.calls k3 _ _ l0_1 ((rd_T47 l0_1 x3_2).f2) ((rd_T47 l0_1 x3_2).f0) t186 _ ?side1 ?side2 A28.out).mono ?_);(case side1 => repeat (first|exact (Kd.C_below HR0_1.out HB.out)|(with_reducible first|refine Kd.C_alloc ?_ _|refine Kd.C_drewN ?_ _|refine Kd.C_drew ?_)));(case side2 => exact HC0_1.out);rintro e w' ⟨rfl,⟨nd,rfl⟩⟩;(try first|exact ⟨rfl,_,World.drewN_drewN _ _ _⟩|exact ⟨rfl,_,Eq.trans (World.drewN_drewN _ _ _) (congrArg (World.drewN _) (Nat.add_assoc _ _ _))⟩)))
                 repeat (go_quiet (first|(go_at_call 31;(with_reducible refine (lapidaryref10_Has.calls k3 _ _ l0_1 ((rd_T47 l0_1 x3_2).f2) ((rd_T47 l0_1 x3_2).f0) t186 _ ?side1 ?side2 A28.out).mono ?_);(case side1 => repeat (first|exact (Kd.C_below HR0_1.out HB.out)|(with_reducible first|refine Kd.C_alloc ?_ _|refine Kd.C_drewN ?_ _|refine Kd.C_drew ?_)));(case side2 => exact HC0_1.out);rintro e w' ⟨rfl,⟨nd,rfl⟩⟩;(try first|exact ⟨rfl,_,World.drewN_drewN _ _ _⟩|exact ⟨rfl,_,Eq.trans (World.drewN_drewN _ _ _) (congrArg (World.drewN _) (Nat.add_assoc _ _ _))⟩)));try go_wp2_with (first|(go_at_call 31;(with_reducible refine (lapidaryref10_Has.calls k3 _ _ l0_1 ((rd_T47 l0_1 x3_2).f2) ((rd_T47 l0_1 x3_2).f0) t186 _ ?side1 ?side2 A28.out).mono ?_);(case side1 => repeat (first|exact (Kd.C_below HR0_1.out HB.out)|(with_reducible first|refine Kd.C_alloc ?_ _|refine Kd.C_drewN ?_ _|refine Kd.C_drew ?_)));(case side2 => exact HC0_1.out);rintro e w' ⟨rfl,⟨nd,rfl⟩⟩;(try first|exact ⟨rfl,_,World.drewN_drewN _ _ _⟩|exact ⟨rfl,_,Eq.trans (World.drewN_drewN _ _ _) (congrArg (World.drewN _) (Nat.add_assoc _ _ _))⟩))))
                 go_ret
                 exact ⟨by first | rfl | (simp [errW_none,errW_some]<;>rfl) | (simp [*,errW_none,errW_some]<;>rfl),by repeat (first | (with_reducible first | exact HB.out | apply below_alloc | apply pw_below_drewN | apply below_drew1 | refine below_set ?_ GE178.out) | exact HB.out)⟩
               ·rw [if_neg c27] at H
                exact absurd H (by simp)
            ·rw [if_neg c16] at H
             exact absurd H (by simp)
           ·rw [if_neg c15] at H
            exact absurd H (by simp)
          ·rw [if_neg c14] at H
           have c14b0 : decide (x4_3 < 3) = false:=decide_eq_false c14
           clear c14
           have H':=aMx9 H
           clear H
           go_wp2
           repeat (go_quiet (fail);try go_wp2)
           go_roundg k3
           case measure => have:=HJ1.out;have:=HK2.out;have:=HK3.out;omega
           case rel => exact ⟨(wrap64 (x3_2+1)),(by first | rfl | (simp;done) | (simp [*];done) | (simp [wrap64];done)),H',⟨by have:=HJ1.out;have:=HK2.out;have:=HK3.out;omega⟩,⟨by (with_reducible repeat (first | refine blk_drewN ?_ _ | refine blk_drew ?_ | refine blk_alloc ?_ _));exact BK178.out⟩,⟨by repeat (first | (with_reducible first | exact HB.out | apply below_alloc | apply pw_below_drewN | apply below_drew1 | refine below_set ?_ GE178.out) | exact HB.out)⟩⟩
       ·rw [if_neg c12] at H
        have c12b0 : decide (x3_2 < (l0_1.length : Int)) = false:=decide_eq_false c12
        clear c12
        have H':=aMx9 H
        clear H
        have hcz32_0 : wr.cell? ⟨gb178,0,none⟩ = some (.slice A0_0 l0_0.length c0_0):=(blk_cell BK178.out 0).trans rfl
        have hcz32_1 : wr.cell? ⟨gb178,1,none⟩ = some (.slice A0_1 l0_1.length c0_1):=(blk_cell BK178.out 1).trans rfl
        have hfz32_0:=blk_frozen BK178.out 0
        have hfz32_1:=blk_frozen BK178.out 1
        go_wp2
        repeat (go_quiet (fail);try go_wp2)
        go_loopg [5] k2 (fun kq v5 w' => ∃ (x5_3 : Int),v5 = .int .i64 x5_3 ∧ Aside0 (lapidaryref10_Check.l2 kq x5_3 l0_0 l0_1 = some r) ∧ Aside0 (kq ≤ k2) ∧ Aside0 (w'.heap[gb178]? = some (.cells #[(.slice A0_0 l0_0.length c0_0),(.slice A0_1 l0_1.length c0_1)] 25 (0,0))) ∧ Aside0 (Below w.heap.size w w'))
        case atStart => exact ⟨(0),(by first | rfl | (simp;done) | (simp [*];done) | (simp [wrap64];done)),H',⟨Nat.le_refl _⟩,⟨by (with_reducible repeat (first | refine blk_drewN ?_ _ | refine blk_drew ?_ | refine blk_alloc ?_ _));exact BK178.out⟩,⟨by repeat (first | (with_reducible first | exact HB.out | apply below_alloc | apply pw_below_drewN | apply below_drew1 | refine below_set ?_ GE178.out) | exact HB.out)⟩⟩
        case round =>
         clear H'
         (try clear c1);(try clear p1);(try clear q1);(try clear hx1);(try clear c2);(try clear p2);(try clear c4);(try clear c4b0);(try clear c4b1);(try clear p6);(try clear c7);(try clear c9);(try clear c12);(try clear c12b0);(try clear c14);(try clear c14b0);(try clear c15);(try clear c15b0);(try clear c16);(try clear c16b0);(try clear c17);(try clear p18);(try clear q18);(try clear hx18);(try clear c19);(try clear c19b0);(try clear c19b1);(try clear c22);(try clear c24);(try clear c24b0);(try clear c24b1);(try clear c25);(try clear c27);(try clear c29);(try clear c29b0);(try clear c29b1);(try clear hcz10_0);(try clear hcz10_1);(try clear hcz13_0);(try clear hcz13_1);(try clear hcz20_0);(try clear hcz20_1);(try clear hcz21_0);(try clear hcz21_1);(try clear hcz25_0);(try clear hcz25_1);(try clear hcz26_0);(try clear hcz26_1);(try clear hcz30_0);(try clear hcz30_1);(try clear hcz31_0);(try clear hcz31_1);(try clear hcz32_0);(try clear hcz32_1);(try clear hcz5_0);(try clear hcz5_1);(try clear hcz6_0);(try clear hcz6_1);(try clear hfz10_0);(try clear hfz10_1);(try clear hfz13_0);(try clear hfz13_1);(try clear hfz20_0);(try clear hfz20_1);(try clear hfz21_0);(try clear hfz21_1);(try clear hfz25_0);(try clear hfz25_1);(try clear hfz26_0);(try clear hfz26_1);(try clear hfz30_0);(try clear hfz30_1);(try clear hfz31_0);(try clear hfz31_1);(try clear hfz32_0);(try clear hfz32_1);(try clear hfz5_0);(try clear hfz5_1);(try clear hfz6_0);(try clear hfz6_1);(try clear hx180_0);(try clear hx180_1);(try clear hx180_2);(try clear hx181_0);(try clear hx181_1);(try clear hx181_2);(try clear hx183_0);(try clear hx183_1);(try clear hx183_2);(try clear hx185_0);(try clear hx185_1);(try clear hx185_2);(try clear p180);(try clear p181);(try clear p183);(try clear p185);(try clear p2);(try clear q180);(try clear q181);(try clear q183);(try clear q185)
         obtain ⟨x5_3,rfl,HA,HK3,BK178,HB⟩:=hrel
         cases gk with
         | zero => exact absurd HA.out (by simp [lapidaryref10_Check.l2])
         | succ k3 =>
          have H:=HA.out
          clear HA
          simp only [lapidaryref10_Check.l2] at H
          by_cases c33 : x5_3 < (l0_0.length : Int)
          ·rw [if_pos c33] at H
           have c33b0 : decide (x5_3 < (l0_0.length : Int)) = true:=decide_eq_true c33
           clear c33
           replace H:=Option.bind_eq_some_iff.mp H
           obtain ⟨t187,A340,H⟩:=H
           replace H : (if t187 = true then (lapidaryref10_Check.l2 k3 (wrap64 (x5_3+1)) l0_0 l0_1) else (some 81)) = some r:=H
           have A34:=aMx9 A340
           clear A340
           by_cases c35 : t187 = true
           ·subst c35
            have H1 : (lapidaryref10_Check.l2 k3 (wrap64 (x5_3+1)) l0_0 l0_1) = some r:=by rw [if_pos rfl] at H;exact H
            clear H
            have H:=H1
            clear H1
            have H':=aMx9 H
            clear H
            have hcz36_0 : wr.cell? ⟨gb178,0,none⟩ = some (.slice A0_0 l0_0.length c0_0):=(blk_cell BK178.out 0).trans rfl
            have hcz36_1 : wr.cell? ⟨gb178,1,none⟩ = some (.slice A0_1 l0_1.length c0_1):=(blk_cell BK178.out 1).trans rfl
            have hfz36_0:=blk_frozen BK178.out 0
            have hfz36_1:=blk_frozen BK178.out 1
            go_wp2_with (first|(go_at_call 63;(with_reducible refine (lapidaryref10_one.calls k3 _ _ l0_1 x5_3 true _ ?side1 ?side2 A34.out).mono ?_);(case side1 => repeat (first|exact (Kd.C_below HR0_1.out HB.out)|(with_reducible first|refine Kd.C_alloc ?_ _|refine Kd.C_drewN ?_ _|refine Kd.C_drew ?_)));(case side2 => exact HC0_1.out);rintro e w37 ⟨rfl,hb⟩;have n0_:=aMx9 (blk_below (g:=gb178) (o:=.cells #[.slice A0_0 l0_0.length c0_0,.slice A0_1 l0_1.length c0_1] 25 (0,0)) (by (with_reducible repeat (first|refine blk_drewN ?_ _|refine blk_drew ?_|refine blk_alloc ?_ _));exact BK178.out) hb);have n1_:=aMx9 (below_step (by repeat (first|(with_reducible first|exact HB.out|apply below_alloc|apply pw_below_drewN|apply below_drew1|refine below_set ?_ GE178.out)|exact HB.out)) hb);clear BK178;clear HB;have BK178:=n0_;have HB:=n1_;clear n0_ n1_;(try clear hb);(try clear hb2);(try clear hk);(try clear hi)))
            repeat (go_quiet (first|(go_at_call 63;(with_reducible refine (lapidaryref10_one.calls k3 _ _ l0_1 x5_3 true _ ?side1 ?side2 A34.out).mono ?_);(case side1 => repeat (first|exact (Kd.C_below HR0_1.out HB.out)|(with_reducible first|refine Kd.C_alloc ?_ _|refine Kd.C_drewN ?_ _|refine Kd.C_drew ?_)));(case side2 => exact HC0_1.out);rintro e w37 ⟨rfl,hb⟩;have n0_:=aMx9 (blk_below (g:=gb178) (o:=.cells #[.slice A0_0 l0_0.length c0_0,.slice A0_1 l0_1.length c0_1] 25 (0,0)) (by (with_reducible repeat (first|refine blk_drewN ?_ _|refine blk_drew ?_|refine blk_alloc ?_ _));exact BK178.out) hb);have n1_:=aMx9 (below_step (by repeat (first|(with_reducible first|exact HB.out|apply below_alloc|apply pw_below_drewN|apply below_drew1|refine below_set ?_ GE178.out)|exact HB.out)) hb);clear BK178;clear HB;have BK178:=n0_;have HB:=n1_;clear n0_ n1_;(try clear hb);(try clear hb2);(try clear hk);(try clear hi)));try go_wp2_with (first|(go_at_call 63;(with_reducible refine (lapidaryref10_one.calls k3 _ _ l0_1 x5_3 true _ ?side1 ?side2 A34.out).mono ?_);(case side1 => repeat (first|exact (Kd.C_below HR0_1.out HB.out)|(with_reducible first|refine Kd.C_alloc ?_ _|refine Kd.C_drewN ?_ _|refine Kd.C_drew ?_)));(case side2 => exact HC0_1.out);rintro e w37 ⟨rfl,hb⟩;have n0_:=aMx9 (blk_below (g:=gb178) (o:=.cells #[.slice A0_0 l0_0.length c0_0,.slice A0_1 l0_1.length c0_1] 25 (0,0)) (by (with_reducible repeat (first|refine blk_drewN ?_ _|refine blk_drew ?_|refine blk_alloc ?_ _));exact BK178.out) hb);have n1_:=aMx9 (below_step (by repeat (first|(with_reducible first|exact HB.out|apply below_alloc|apply pw_below_drewN|apply below_drew1|refine below_set ?_ GE178.out)|exact HB.out)) hb);clear BK178;clear HB;have BK178:=n0_;have HB:=n1_;clear n0_ n1_;(try clear hb);(try clear hb2);(try clear hk);(try clear hi))))
            go_roundg k3
            case measure => have:=HJ1.out;have:=HK2.out;have:=HK3.out;omega
            case rel => exact ⟨(wrap64 (x5_3+1)),(by first | rfl | (simp;done) | (simp [*];done) | (simp [wrap64];done)),H',⟨by have:=HJ1.out;have:=HK2.out;have:=HK3.out;omega⟩,⟨by (with_reducible repeat (first | refine blk_drewN ?_ _ | refine blk_drew ?_ | refine blk_alloc ?_ _));exact BK178.out⟩,⟨by repeat (first | (with_reducible first | exact HB.out | apply below_alloc | apply pw_below_drewN | apply below_drew1 | refine below_set ?_ GE178.out) | exact HB.out)⟩⟩
           ·replace c35:=Bool.eq_false_iff.mpr c35
            subst c35
            have H1 : (some 81) = some r:=by rw [if_neg (show ¬ (false = true) by decide)] at H;exact H
            clear H
            have H:=H1
            clear H1
            obtain rfl:=Option.some.inj H
            have hcz38_0 : wr.cell? ⟨gb178,0,none⟩ = some (.slice A0_0 l0_0.length c0_0):=(blk_cell BK178.out 0).trans rfl
            have hcz38_1 : wr.cell? ⟨gb178,1,none⟩ = some (.slice A0_1 l0_1.length c0_1):=(blk_cell BK178.out 1).trans rfl
            have hfz38_0:=blk_frozen BK178.out 0
            have hfz38_1:=blk_frozen BK178.out 1
            go_wp2_with (first|(go_at_call 63;(with_reducible refine (lapidaryref10_one.calls k3 _ _ l0_1 x5_3 false _ ?side1 ?side2 A34.out).mono ?_);(case side1 => repeat (first|exact (Kd.C_below HR0_1.out HB.out)|(with_reducible first|refine Kd.C_alloc ?_ _|refine Kd.C_drewN ?_ _|refine Kd.C_drew ?_)));(case side2 => exact HC0_1.out);rintro e w39 ⟨rfl,hb⟩;have n0_:=aMx9 (blk_below (g:=gb178) (o:=.cells #[.slice A0_0 l0_0.length c0_0,.slice A0_1 l0_1.length c0_1] 25 (0,0)) (by (with_reducible repeat (first|refine blk_drewN ?_ _|refine blk_drew ?_|refine blk_alloc ?_ _));exact BK178.out) hb);have n1_:=aMx9 (below_step (by repeat (first|(with_reducible first|exact HB.out|apply below_alloc|apply pw_below_drewN|apply below_drew1|refine below_set ?_ GE178.out)|exact HB.out)) hb);clear BK178;clear HB;have BK178:=n0_;have HB:=n1_;clear n0_ n1_;(try clear hb);(try clear hb2);(try clear hk);(try clear hi)))
            repeat (go_quiet (first|(go_at_call 63;(with_reducible refine (lapidaryref10_one.calls k3 _ _ l0_1 x5_3 false _ ?side1 ?side2 A34.out).mono ?_);(case side1 => repeat (first|exact (Kd.C_below HR0_1.out HB.out)|(with_reducible first|refine Kd.C_alloc ?_ _|refine Kd.C_drewN ?_ _|refine Kd.C_drew ?_)));(case side2 => exact HC0_1.out);rintro e w39 ⟨rfl,hb⟩;have n0_:=aMx9 (blk_below (g:=gb178) (o:=.cells #[.slice A0_0 l0_0.length c0_0,.slice A0_1 l0_1.length c0_1] 25 (0,0)) (by (with_reducible repeat (first|refine blk_drewN ?_ _|refine blk_drew ?_|refine blk_alloc ?_ _));exact BK178.out) hb);have n1_:=aMx9 (below_step (by repeat (first|(with_reducible first|exact HB.out|apply below_alloc|apply pw_below_drewN|apply below_drew1|refine below_set ?_ GE178.out)|exact HB.out)) hb);clear BK178;clear HB;have BK178:=n0_;have HB:=n1_;clear n0_ n1_;(try clear hb);(try clear hb2);(try clear hk);(try clear hi)));try go_wp2_with (first|(go_at_call 63;(with_reducible refine (lapidaryref10_one.calls k3 _ _ l0_1 x5_3 false _ ?side1 ?side2 A34.out).mono ?_);(case side1 => repeat (first|exact (Kd.C_below HR0_1.out HB.out)|(with_reducible first|refine Kd.C_alloc ?_ _|refine Kd.C_drewN ?_ _|refine Kd.C_drew ?_)));(case side2 => exact HC0_1.out);rintro e w39 ⟨rfl,hb⟩;have n0_:=aMx9 (blk_below (g:=gb178) (o:=.cells #[.slice A0_0 l0_0.length c0_0,.slice A0_1 l0_1.length c0_1] 25 (0,0)) (by (with_reducible repeat (first|refine blk_drewN ?_ _|refine blk_drew ?_|refine blk_alloc ?_ _));exact BK178.out) hb);have n1_:=aMx9 (below_step (by repeat (first|(with_reducible first|exact HB.out|apply below_alloc|apply pw_below_drewN|apply below_drew1|refine below_set ?_ GE178.out)|exact HB.out)) hb);clear BK178;clear HB;have BK178:=n0_;have HB:=n1_;clear n0_ n1_;(try clear hb);(try clear hb2);(try clear hk);(try clear hi))))
            go_ret
            exact ⟨by first | rfl | (simp [errW_none,errW_some]<;>rfl) | (simp [*,errW_none,errW_some]<;>rfl),by repeat (first | (with_reducible first | exact HB.out | apply below_alloc | apply pw_below_drewN | apply below_drew1 | refine below_set ?_ GE178.out) | exact HB.out)⟩
          ·rw [if_neg c33] at H
           have c33b0 : decide (x5_3 < (l0_0.length : Int)) = false:=decide_eq_false c33
           clear c33
           obtain rfl:=Option.some.inj H
           have hcz40_0 : wr.cell? ⟨gb178,0,none⟩ = some (.slice A0_0 l0_0.length c0_0):=(blk_cell BK178.out 0).trans rfl
           have hcz40_1 : wr.cell? ⟨gb178,1,none⟩ = some (.slice A0_1 l0_1.length c0_1):=(blk_cell BK178.out 1).trans rfl
           have hfz40_0:=blk_frozen BK178.out 0
           have hfz40_1:=blk_frozen BK178.out 1
           go_wp2
           repeat (go_quiet (fail);try go_wp2)
           go_ret
           exact ⟨by first | rfl | (simp [errW_none,errW_some]<;>rfl) | (simp [*,errW_none,errW_some]<;>rfl),by repeat (first | (with_reducible first | exact HB.out | apply below_alloc | apply pw_below_drewN | apply below_drew1 | refine below_set ?_ GE178.out) | exact HB.out)⟩
    ·replace c9:=Bool.eq_false_iff.mpr c9
     subst c9
     have H1 : (some 2) = some r:=by rw [if_neg (show ¬ (false = true) by decide)] at H;exact H
     clear H
     have H:=H1
     clear H1
     obtain rfl:=Option.some.inj H
     have hcz41_0 : wc.cell? ⟨gb178,0,none⟩ = some (.slice A0_0 l0_0.length c0_0):=(blk_cell BK178.out 0).trans rfl
     have hcz41_1 : wc.cell? ⟨gb178,1,none⟩ = some (.slice A0_1 l0_1.length c0_1):=(blk_cell BK178.out 1).trans rfl
     have hfz41_0:=blk_frozen BK178.out 0
     have hfz41_1:=blk_frozen BK178.out 1
     go_wp2_with (first|(go_at_call 62;(with_reducible refine (lapidaryref10_plain.calls kj1 _ _ l0_0 _ _ l0_1 false _ ?side1 ?side2 ?side3 ?side4 A8.out).mono ?_);(case side1 => repeat (first|exact (Kd.C_below HR0_0.out HB.out)|(with_reducible first|refine Kd.C_alloc ?_ _|refine Kd.C_drewN ?_ _|refine Kd.C_drew ?_)));(case side2 => exact HC0_0.out);(case side3 => repeat (first|exact (Kd.C_below HR0_1.out HB.out)|(with_reducible first|refine Kd.C_alloc ?_ _|refine Kd.C_drewN ?_ _|refine Kd.C_drew ?_)));(case side4 => exact HC0_1.out);rintro e w42 ⟨rfl,hb⟩;have n0_:=aMx9 (blk_below (g:=gb178) (o:=.cells #[.slice A0_0 l0_0.length c0_0,.slice A0_1 l0_1.length c0_1] 25 (0,0)) (by (with_reducible repeat (first|refine blk_drewN ?_ _|refine blk_drew ?_|refine blk_alloc ?_ _));exact BK178.out) hb);have n1_:=aMx9 (below_step (by repeat (first|(with_reducible first|exact HB.out|apply below_alloc|apply pw_below_drewN|apply below_drew1|refine below_set ?_ GE178.out)|exact HB.out)) hb);clear BK178;clear HB;have BK178:=n0_;have HB:=n1_;clear n0_ n1_;(try clear hb);(try clear hb2);(try clear hk);(try clear hi)))
     repeat (go_quiet (first|(go_at_call 62;(with_reducible refine (lapidaryref10_plain.calls kj1 _ _ l0_0 _ _ l0_1 false _ ?side1 ?side2 ?side3 ?side4 A8.out).mono ?_);(case side1 => repeat (first|exact (Kd.C_below HR0_0.out HB.out)|(with_reducible first|refine Kd.C_alloc ?_ _|refine Kd.C_drewN ?_ _|refine Kd.C_drew ?_)));(case side2 => exact HC0_0.out);(case side3 => repeat (first|exact (Kd.C_below HR0_1.out HB.out)|(with_reducible first|refine Kd.C_alloc ?_ _|refine Kd.C_drewN ?_ _|refine Kd.C_drew ?_)));(case side4 => exact HC0_1.out);rintro e w42 ⟨rfl,hb⟩;have n0_:=aMx9 (blk_below (g:=gb178) (o:=.cells #[.slice A0_0 l0_0.length c0_0,.slice A0_1 l0_1.length c0_1] 25 (0,0)) (by (with_reducible repeat (first|refine blk_drewN ?_ _|refine blk_drew ?_|refine blk_alloc ?_ _));exact BK178.out) hb);have n1_:=aMx9 (below_step (by repeat (first|(with_reducible first|exact HB.out|apply below_alloc|apply pw_below_drewN|apply below_drew1|refine below_set ?_ GE178.out)|exact HB.out)) hb);clear BK178;clear HB;have BK178:=n0_;have HB:=n1_;clear n0_ n1_;(try clear hb);(try clear hb2);(try clear hk);(try clear hi)));try go_wp2_with (first|(go_at_call 62;(with_reducible refine (lapidaryref10_plain.calls kj1 _ _ l0_0 _ _ l0_1 false _ ?side1 ?side2 ?side3 ?side4 A8.out).mono ?_);(case side1 => repeat (first|exact (Kd.C_below HR0_0.out HB.out)|(with_reducible first|refine Kd.C_alloc ?_ _|refine Kd.C_drewN ?_ _|refine Kd.C_drew ?_)));(case side2 => exact HC0_0.out);(case side3 => repeat (first|exact (Kd.C_below HR0_1.out HB.out)|(with_reducible first|refine Kd.C_alloc ?_ _|refine Kd.C_drewN ?_ _|refine Kd.C_drew ?_)));(case side4 => exact HC0_1.out);rintro e w42 ⟨rfl,hb⟩;have n0_:=aMx9 (blk_below (g:=gb178) (o:=.cells #[.slice A0_0 l0_0.length c0_0,.slice A0_1 l0_1.length c0_1] 25 (0,0)) (by (with_reducible repeat (first|refine blk_drewN ?_ _|refine blk_drew ?_|refine blk_alloc ?_ _));exact BK178.out) hb);have n1_:=aMx9 (below_step (by repeat (first|(with_reducible first|exact HB.out|apply below_alloc|apply pw_below_drewN|apply below_drew1|refine below_set ?_ GE178.out)|exact HB.out)) hb);clear BK178;clear HB;have BK178:=n0_;have HB:=n1_;clear n0_ n1_;(try clear hb);(try clear hb2);(try clear hk);(try clear hi))))
     go_ret
     exact ⟨by first | rfl | (simp [errW_none,errW_some]<;>rfl) | (simp [*,errW_none,errW_some]<;>rfl),by repeat (first | (with_reducible first | exact HB.out | apply below_alloc | apply pw_below_drewN | apply below_drew1 | refine below_set ?_ GE178.out) | exact HB.out)⟩
def lapidaryref11_find.l0 : Nat → List Int → Int → Int → Option (Int)
  | 0, _, _, _ => none
  | k + 1, x0, x1, x5 => if x5 < (x0.length : Int) then (if 0 ≤ x5 then (if (rd x0 x5) = x1 then (some x5) else (lapidaryref11_find.l0 k x0 x1 (wrap64 (x5 + 1)))) else (none)) else (some (-1))
def lapidaryref11_find.f (k : Nat) (l0 : List Int) (a1 : Int) : Option (Int) := lapidaryref11_find.l0 k l0 a1 0
set_option maxHeartbeats 8000000 in
set_option maxRecDepth 100000 in
theorem lapidaryref11_find.calls (k : Nat) (A0 : Option Addr) (c0 : Nat) (l0 : List Int) (a1 : Int) (r : Int) (w : World) (hr0 : Kd.C (Kd.int .i64) w A0 l0.length l0) (hc0 : l0.length ≤ c0) (h : lapidaryref11_find.f k l0 a1 = some r) :
  Calls Tryd.prog 58 #[.slice A0 l0.length c0,.int .i64 a1] w fun e w' => e = .returned (.int .i64 r) ∧ Drawn0 w w':=by
 have HR0:=aMx9 hr0
 have HC0:=aMx9 hc0
 clear hr0 hc0
 have H : (lapidaryref11_find.l0 k l0 a1 0) = some r:=h
 clear h
 have H':=aMx9 H
 clear H
 go_enter Tryd.func58,Tryd.ntmps58
 go_wp2
 go_loopg [5] k (fun kq v5 w' => ∃ (x5_1 : Int),v5 = .int .i64 x5_1 ∧ Aside0 (lapidaryref11_find.l0 kq l0 a1 x5_1 = some r) ∧ Aside0 (kq ≤ k) ∧ Drawn0 w w')
 case atStart => exact ⟨(0),(by first | rfl | (simp;done) | (simp [*];done) | (simp [wrap64];done)),H',⟨Nat.le_refl _⟩,by repeat (first | exact Drawn0.refl _ | apply Drawn0.step)⟩
 case round =>
  clear H'
  try clear p2
  obtain ⟨x5_1,rfl,HA,HK1,⟨m1,rfl⟩⟩:=hrel
  cases gk with
  | zero => exact absurd HA.out (by simp [lapidaryref11_find.l0])
  | succ k1 =>
   have H:=HA.out
   clear HA
   simp only [lapidaryref11_find.l0] at H
   by_cases c3 : x5_1 < (l0.length : Int)
   ·rw [if_pos c3] at H
    have c3b0 : decide (x5_1 < (l0.length : Int)) = true:=decide_eq_true c3
    clear c3
    by_cases c4 : 0 ≤ x5_1
    ·rw [if_pos c4] at H
     have c4b0 : decide (0 ≤ x5_1) = true:=decide_eq_true c4
     clear c4
     by_cases c5 : (rd l0 x5_1) = a1
     ·rw [if_pos c5] at H
      have c5b0 : ((rd l0 x5_1) == a1) = true:=beq_iff_eq.mpr c5
      have c5b1 : ((rd l0 x5_1) != a1) = false:=bne_eq_false_iff_eq.mpr c5
      clear c5
      obtain rfl:=Option.some.inj H
      have p188 : 0 ≤ (x5_1 : Int):=of_decide_eq_true (by first | (with_reducible assumption) | assumption)
      have q188 : x5_1 < (l0.length : Int):=of_decide_eq_true (by first | (with_reducible assumption) | assumption)
      obtain ⟨ad188,e188,hx188_0⟩:=Kd.at_int HR0.out x5_1 p188 q188
      cases e188
      replace p188:=eq_true p188
      replace q188:=eq_true q188
      go_wp2
      go_ret
      exact ⟨by first | rfl | (simp;done) | (simp [*];done) | (simp [wrap64];done),by repeat (first | exact Drawn0.refl _ | apply Drawn0.step)⟩
     ·rw [if_neg c5] at H
      have c5b0 : ((rd l0 x5_1) == a1) = false:=beq_eq_false_iff_ne.mpr c5
      have c5b1 : ((rd l0 x5_1) != a1) = true:=bne_iff_ne.mpr c5
      have H':=aMx9 H
      clear H
      have p188 : 0 ≤ (x5_1 : Int):=of_decide_eq_true (by first | (with_reducible assumption) | assumption)
      have q188 : x5_1 < (l0.length : Int):=of_decide_eq_true (by first | (with_reducible assumption) | assumption)
      obtain ⟨ad188,e188,hx188_0⟩:=Kd.at_int HR0.out x5_1 p188 q188
      cases e188
      replace p188:=eq_true p188
      replace q188:=eq_true q188
      go_wp2
      go_roundg k1
      case measure => have:=HK1.out;omega
      case rel => exact ⟨(wrap64 (x5_1+1)),(by first | rfl | (simp;done) | (simp [*];done) | (simp [wrap64];done)),H',⟨by have:=HK1.out;omega⟩,by repeat (first | exact Drawn0.refl _ | apply Drawn0.step)⟩
    ·rw [if_neg c4] at H
     exact absurd H (by simp)
   ·rw [if_neg c3] at H
    have c3b0 : decide (x5_1 < (l0.length : Int)) = false:=decide_eq_false c3
    clear c3
    obtain rfl:=Option.some.inj H
    go_wp2
    go_ret
    exact ⟨by first | rfl | (simp;done) | (simp [*];done) | (simp [wrap64];done),by repeat (first | exact Drawn0.refl _ | apply Drawn0.step)⟩
end Go.Proofs.YtomknjmgcbbjlaaDoor.PWlk
