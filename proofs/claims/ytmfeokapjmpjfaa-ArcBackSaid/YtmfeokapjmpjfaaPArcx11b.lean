-- Written for this claim by a program of this session.
import Derived.Test.YtmfeokapjmpjfaaPArcx0
import Derived.Test.YtmfeokapjmpjfaaPArcx2
import Derived.Test.YtmfeokapjmpjfaaPArcx3
import Derived.Test.YtmfeokapjmpjfaaPArcx4
import Derived.Test.YtmfeokapjmpjfaaPArcx5
import Derived.Test.YtmfeokapjmpjfaaPArcx6
import Derived.Test.YtmfeokapjmpjfaaPArcx7
import Derived.Test.YtmfeokapjmpjfaaPArcx8
import Derived.Test.YtmfeokapjmpjfaaPArcx10
import Derived.Test.YtmfeokapjmpjfaaArcStub
namespace Go.Proofs.Ytmfeokapjmpjfaa.PArc
open Go.RowKit Go.Proofs.YtmfeokapjmpjfaaW.PrintWords Go.Proofs.YtmfeokapjmpjfaaW.PrintLast Go.Proofs.YtmfeokapjmpjfaaW.PrintMore
attribute [local go_sem] max2_int min2_int max_two min_two max_three min_three max_four min_four   -- for this text's walks alone
set_option linter.unusedVariables false
set_option linter.unusedSimpArgs false

theorem sAx11b {α : Type _} {l : List α} {i : Nat} {a : α} : l.toArray.setIfInBounds i a = (l.set i a).toArray := List.setIfInBounds_toArray ..
theorem sBx11b {α : Type _} {x y : α} {l : List α} : (x :: l).set 0 y = y :: l := rfl
theorem sCx11b {α : Type _} {x y : α} {l : List α} {i : Nat} : (x :: l).set (i + 1) y = x :: l.set i y := rfl
theorem aMx11b {p : Prop} (h : p) : Aside0 p := ⟨h⟩
/-! ### lapidaryref00_Copy: function 18 -/
def lapidaryref00_Copy.f (l0 : List Int) : Option (List Int) := if ([] : List Int).length + l0.length < 140737488355328 then (some (([] : List Int) ++ l0)) else (none)
set_option maxHeartbeats 8000000 in
set_option maxRecDepth 100000 in
theorem lapidaryref00_Copy.calls (A0 : Option Addr) (c0 : Nat) (l0 : List Int) (r : List Int) (w : World) (hr0 : Kd.C (Kd.int .u8) w A0 l0.length l0) (hc0 : l0.length ≤ c0) (h : lapidaryref00_Copy.f l0 = some r) :
  Calls Try.prog 18 #[.slice A0 l0.length c0] w fun e w' => ∃ v0_ : Value,e = .returned (v0_) ∧ Kd.R (Kd.int .u8) 5 w' w.heap.size (fun _ => True) v0_ r ∧ Below w.heap.size w w':=by
 have HR0:=aMx11b hr0
 have HC0:=aMx11b hc0
 clear hr0 hc0
 have HB:=aMx11b (Below.refl w.heap.size w)
 have H : (if ([] : List Int).length+l0.length < 140737488355328 then (some (([] : List Int)++l0)) else (none)) = some r:=h
 clear h
 by_cases c2 : ([] : List Int).length+l0.length < 140737488355328
 ·rw [if_pos c2] at H
  have LMc2:=aMx11b c2
  clear c2
  obtain ⟨y307,hy307⟩ : ∃ y_ : List Int,y_ = (([] : List Int)++l0):=⟨_,rfl⟩
  replace H : (some y307) = some r:=by first | (rw [hy307];with_reducible exact H) | (have H2_:=(Option.bind_some _ _).symm.trans H;rw [hy307];with_reducible exact H2_) | (have H2_:=(Option.bind_some _ _).symm.trans H;with_reducible exact H2_) | with_reducible exact H | (rw [hy307];exact H) | exact H
  have Ny307:=aMx11b hy307
  clear hy307
  obtain rfl:=Option.some.inj H
  go_enter Try.func18,Try.ntmps18
  go_wp2_with (first|((with_reducible refine gate_builtin (b:=.append) (xs:=#[.tmp 4,.tmp 5]) rfl ?_);at_builtin;refine Kd.R_append_rows (Kd.int .u8) (w0:=w) w.heap.size rfl (.tmp 4) (.tmp 5) 23 5 (.int .u8 0) 1 rfl Try.underlying23 info5 rfl (by decide) (by omega) (.slice none 0 0) ([] : List Int) l0 _ _ _ (fun _ => True) (fun _ => False) rfl rfl ?aO ?aR (fun _ _ h => h) (fun _ h => h.elim) ?aF ?aB ?aS ?aL ?_;(case aR => repeat (first|exact HR0.out|(with_reducible first|refine Kd.C_alloc ?_ _|refine Kd.C_drewN ?_ _|refine Kd.C_drew ?_)));(case aB => exact (by repeat (with_reducible first|exact HB.out|apply below_alloc|apply pw_below_drewN|apply below_drew1)));(case aF => exact (fun _ _ => trivial));(case aO => exact ((Kd.R_nil _ _ _ _ (fun _ => True))));(case aS => exact (below_size (by repeat (with_reducible first|exact HB.out|apply below_alloc|apply pw_below_drewN|apply below_drew1))));(case aL => have:=LMc2.out;omega);intro v308 w3 ho hb hg hat;rw [← Ny307.out] at ho;have n0_:=aMx11b (hb);have n1_:=aMx11b (ho);clear HB;have HB:=n0_;have HO309:=n1_;clear n0_ n1_;clear ho hb hg hat))
  go_ret
  exact ⟨_,by first | rfl | (simp [errW_none,errW_some]<;>rfl) | (simp [*,errW_none,errW_some]<;>rfl),by (with_reducible repeat (first | apply Kd.R_alloc | apply Kd.R_drewN | apply Kd.R_drew));exact HO309.out,by repeat (first | (with_reducible first | exact HB.out | apply below_alloc | apply pw_below_drewN | apply below_drew1) | exact HB.out)⟩
 ·rw [if_neg c2] at H
  exact absurd H (by simp)

/-! ### lapidarylaw15_ArcBack: function 4 -/
mutual
def lapidarylaw15_ArcBack.j0 : Nat → List (List (S48)) → List Int → Int → Int → Bool → Option (Bool)
  | 0, _, _, _, _, _ => none
  | k + 1, x0, x1, x2, x3, x28 => if x28 = true then ((lapidarylaw15_known.f k).bind fun t311 => (some t311)) else ((arc_Encode.f k x0).bind fun bt312 => (if bt312.2 = 0 then (if (bt312.1.length : Int) = 0 then (some false) else ((arc_Decode.f bt312.1).bind fun bt316 => (if 0 ≤ (Int.tmod (wrap64 (x2)) (bt312.1.length : Int)) then (if (Int.tmod (wrap64 (x2)) (bt312.1.length : Int)) ≤ (bt312.1.length : Int) then ((arc_Decode.f (bt312.1.take ((Int.tmod (wrap64 (x2)) (bt312.1.length : Int)) : Int).toNat)).bind fun bt324 => ((lapidaryref00_Copy.f bt312.1).bind fun t328 => (if t328.length < 140737488355328 then ((arc_Decode.f (t328 ++ [x3])).bind fun bt334 => (if bt316.2 = 0 then ((lapidaryref15_Same.f k bt316.1 x0).bind fun t338 => (if t338 = true then (if bt324.2 = 11 then (if bt334.2 = 11 then (lapidarylaw15_ArcBack.j1 k x1) else (some false)) else (some false)) else (some false))) else (some false))) else (none)))) else (none)) else (none)))) else (lapidarylaw15_ArcBack.j1 k x1)))
def lapidarylaw15_ArcBack.j1 : Nat → List Int → Option (Bool)
  | 0, _ => none
  | k + 1, x1 => (arc_Decode.f x1).bind fun bt339 => (if bt339.2 = 0 then ((arc_Encode.f k bt339.1).bind fun bt343 => (if bt343.2 = 0 then ((lapidaryref00_Same.f bt343.1 x1).bind fun t347 => (if t347 = true then ((lapidarylaw15_known.f k).bind fun t348 => (some t348)) else (some false))) else (some false))) else (if (bt339.1.length : Int) = 0 then ((lapidarylaw15_known.f k).bind fun t349 => (some t349)) else (some false)))
end
def lapidarylaw15_ArcBack.f (k : Nat) (l0 : List (List (S48))) (l1 : List Int) (a2 : Int) (a3 : Int) : Option (Bool) := (lapidarylaw15_long.f k l0).bind fun t310 => (if t310 = true then (lapidarylaw15_ArcBack.j0 k l0 l1 a2 a3 true) else (lapidarylaw15_ArcBack.j0 k l0 l1 a2 a3 (decide ((l1.length : Int) > 900))))
theorem lapidarylaw15_ArcBack.mono_l : ∀ k, (∀ y0 y1 y2 y3 y4, LeO (lapidarylaw15_ArcBack.j0 k y0 y1 y2 y3 y4) (lapidarylaw15_ArcBack.j0 (k + 1) y0 y1 y2 y3 y4)) ∧ (∀ y0, LeO (lapidarylaw15_ArcBack.j1 k y0) (lapidarylaw15_ArcBack.j1 (k + 1) y0))
  | 0 => ⟨fun _ _ _ _ _ r h => by simp [lapidarylaw15_ArcBack.j0] at h, fun _ r h => by simp [lapidarylaw15_ArcBack.j1] at h⟩
  | k + 1 => by
    obtain ⟨ih0, ih1⟩ := lapidarylaw15_ArcBack.mono_l k
    refine ⟨?_, ?_⟩
    · intro y0 y1 y2 y3 y4
      unfold lapidarylaw15_ArcBack.j0
      repeat' first
      | (with_reducible exact ih0 _ _ _ _ _)
      | (with_reducible exact ih1 _)
      | (with_reducible exact arc_Encode.mono _ _)
      | (with_reducible exact lapidarylaw15_known.mono _)
      | (with_reducible exact lapidarylaw15_long.mono _ _)
      | (with_reducible exact lapidaryref15_Same.mono _ _ _)
      | (with_reducible exact LeO.refl _)
      | (with_reducible exact LeO.none _)
      | (with_reducible refine LeO.ite ?_ ?_)
      | (with_reducible refine LeO.bind ?_ (fun _ => ?_))
      | exact ih0 _ _ _ _ _
      | exact ih1 _
      | exact arc_Encode.mono _ _
      | exact lapidarylaw15_known.mono _
      | exact lapidarylaw15_long.mono _ _
      | exact lapidaryref15_Same.mono _ _ _
      | exact LeO.none _
      | refine LeO.ite ?_ ?_
      | refine LeO.bind ?_ (fun _ => ?_)
    · intro y0
      unfold lapidarylaw15_ArcBack.j1
      repeat' first
      | (with_reducible exact ih0 _ _ _ _ _)
      | (with_reducible exact ih1 _)
      | (with_reducible exact arc_Encode.mono _ _)
      | (with_reducible exact lapidarylaw15_known.mono _)
      | (with_reducible exact lapidarylaw15_long.mono _ _)
      | (with_reducible exact lapidaryref15_Same.mono _ _ _)
      | (with_reducible exact LeO.refl _)
      | (with_reducible exact LeO.none _)
      | (with_reducible refine LeO.ite ?_ ?_)
      | (with_reducible refine LeO.bind ?_ (fun _ => ?_))
      | exact ih0 _ _ _ _ _
      | exact ih1 _
      | exact arc_Encode.mono _ _
      | exact lapidarylaw15_known.mono _
      | exact lapidarylaw15_long.mono _ _
      | exact lapidaryref15_Same.mono _ _ _
      | exact LeO.none _
      | refine LeO.ite ?_ ?_
      | refine LeO.bind ?_ (fun _ => ?_)
theorem lapidarylaw15_ArcBack.mono : ∀ a0 a1 a2 a3 k, LeO (lapidarylaw15_ArcBack.f k a0 a1 a2 a3) (lapidarylaw15_ArcBack.f (k + 1) a0 a1 a2 a3) := by
  intro a0 a1 a2 a3 k
  obtain ⟨ih0, ih1⟩ := lapidarylaw15_ArcBack.mono_l k
  unfold lapidarylaw15_ArcBack.f
  repeat' first
      | (with_reducible exact ih0 _ _ _ _ _)
      | (with_reducible exact ih1 _)
      | (with_reducible exact arc_Encode.mono _ _)
      | (with_reducible exact lapidarylaw15_known.mono _)
      | (with_reducible exact lapidarylaw15_long.mono _ _)
      | (with_reducible exact lapidaryref15_Same.mono _ _ _)
      | (with_reducible exact LeO.refl _)
      | (with_reducible exact LeO.none _)
      | (with_reducible refine LeO.ite ?_ ?_)
      | (with_reducible refine LeO.bind ?_ (fun _ => ?_))
      | exact ih0 _ _ _ _ _
      | exact ih1 _
      | exact arc_Encode.mono _ _
      | exact lapidarylaw15_known.mono _
      | exact lapidarylaw15_long.mono _ _
      | exact lapidaryref15_Same.mono _ _ _
      | exact LeO.none _
      | refine LeO.ite ?_ ?_
      | refine LeO.bind ?_ (fun _ => ?_)
set_option maxHeartbeats 8000000 in
set_option maxRecDepth 100000 in
theorem lapidarylaw15_ArcBack.calls (k : Nat) (A0 : Option Addr) (c0 : Nat) (l0 : List (List (S48))) (A1 : Option Addr) (c1 : Nat) (l1 : List Int) (a2 : Int) (a3 : Int) (r : Bool) (w : World) (hr0 : Kd.C (Kd.slice 48 k48) w A0 l0.length l0) (hc0 : l0.length ≤ c0) (hr1 : Kd.C (Kd.int .u8) w A1 l1.length l1) (hc1 : l1.length ≤ c1) (h : lapidarylaw15_ArcBack.f k l0 l1 a2 a3 = some r) :
  Calls Try.prog 4 #[.slice A0 l0.length c0,.slice A1 l1.length c1,.int .u16 a2,.int .u8 a3] w fun e w' => e = .returned (.bool r) ∧ Below w.heap.size w w':=by
 have HR0:=aMx11b hr0
 have HC0:=aMx11b hc0
 clear hr0 hc0
 have HR1:=aMx11b hr1
 have HC1:=aMx11b hc1
 clear hr1 hc1
 have HB:=aMx11b (Below.refl w.heap.size w)
 have H : ((lapidarylaw15_long.f k l0).bind fun t310 => (if t310 = true then (lapidarylaw15_ArcBack.j0 k l0 l1 a2 a3 true) else (lapidarylaw15_ArcBack.j0 k l0 l1 a2 a3 (decide ((l1.length : Int) > 900))))) = some r:=h
 clear h
 have HC5:=aMx11b H
 clear H
 go_enter Try.func4,Try.ntmps4
 go_upto_region 1 with (fail)
 go_cut [28] (fun v28 wc => ∃ (kq : Nat) (x28_4 : Bool),v28 = .bool x28_4 ∧ Aside0 (lapidarylaw15_ArcBack.j0 kq l0 l1 a2 a3 x28_4 = some r) ∧ Aside0 (kq ≤ k) ∧ Aside0 (Below w.heap.size w wc))
 case first =>
  have H:=HC5.out
  clear HC5
  replace H:=Option.bind_eq_some_iff.mp H
  obtain ⟨t310,A60,H⟩:=H
  replace H : (if t310 = true then (lapidarylaw15_ArcBack.j0 k l0 l1 a2 a3 true) else (lapidarylaw15_ArcBack.j0 k l0 l1 a2 a3 (decide ((l1.length : Int) > 900)))) = some r:=H
  have A6:=aMx11b A60
  clear A60
  by_cases c7 : t310 = true
  ·subst c7
   have H1 : (lapidarylaw15_ArcBack.j0 k l0 l1 a2 a3 true) = some r:=by rw [if_pos rfl] at H;exact H
   clear H
   have H:=H1
   clear H1
   have H':=aMx11b H
   clear H
   go_wp2_with (first|((with_reducible refine gate_callee (f:=8) rfl ?_);refine goesL_ (some 23) rfl rfl Try.func8 (by kernel_rfl) rfl #[.slice A0 l0.length c0] rfl (by (try simp only [List.map_toArray,List.map_cons,List.map_nil]);first|done|rfl|(simp only [List.length_drop,List.length_take];rfl)) ?_;(with_reducible refine (lapidarylaw15_long.calls k _ _ l0 true _ ?side1 ?side2 A6.out).mono ?_);(case side1 => repeat (first|exact (Kd.C_below HR0.out HB.out)|(with_reducible first|refine Kd.C_alloc ?_ _|refine Kd.C_drewN ?_ _|refine Kd.C_drew ?_)));(case side2 => exact HC0.out);rintro e w' ⟨rfl,⟨nd,rfl⟩⟩;refine ⟨_,rfl,?_⟩))
   go_meet
   case rel => exact ⟨_,(true),(by first | rfl | (simp;done) | (simp [*];done)),H',⟨by first | omega | exact Nat.le_refl _⟩,⟨by repeat (first | (with_reducible first | exact HB.out | apply below_alloc | apply pw_below_drewN | apply below_drew1) | exact HB.out)⟩⟩
  ·replace c7:=Bool.eq_false_iff.mpr c7
   subst c7
   have H1 : (lapidarylaw15_ArcBack.j0 k l0 l1 a2 a3 (decide ((l1.length : Int) > 900))) = some r:=by rw [if_neg (show ¬ (false = true) by decide)] at H;exact H
   clear H
   have H:=H1
   clear H1
   have H':=aMx11b H
   clear H
   go_wp2_with (first|((with_reducible refine gate_callee (f:=8) rfl ?_);refine goesL_ (some 23) rfl rfl Try.func8 (by kernel_rfl) rfl #[.slice A0 l0.length c0] rfl (by (try simp only [List.map_toArray,List.map_cons,List.map_nil]);first|done|rfl|(simp only [List.length_drop,List.length_take];rfl)) ?_;(with_reducible refine (lapidarylaw15_long.calls k _ _ l0 false _ ?side1 ?side2 A6.out).mono ?_);(case side1 => repeat (first|exact (Kd.C_below HR0.out HB.out)|(with_reducible first|refine Kd.C_alloc ?_ _|refine Kd.C_drewN ?_ _|refine Kd.C_drew ?_)));(case side2 => exact HC0.out);rintro e w' ⟨rfl,⟨nd,rfl⟩⟩;refine ⟨_,rfl,?_⟩))
   go_meet
   case rel => exact ⟨_,(decide ((l1.length : Int) > 900)),(by first | rfl | (simp;done) | (simp [*];done)),H',⟨by first | omega | exact Nat.le_refl _⟩,⟨by repeat (first | (with_reducible first | exact HB.out | apply below_alloc | apply pw_below_drewN | apply below_drew1) | exact HB.out)⟩⟩
 case rest =>
  clear HC5
  try clear c1
  try clear p2
  try clear c4
  try clear c7
  obtain ⟨kq,x28_4,rfl,HA,HJ4,HB⟩:=hcut
  cases kq with
  | zero => exact absurd HA.out (by simp [lapidarylaw15_ArcBack.j0])
  | succ kj4 =>
   have H:=HA.out
   clear HA
   simp only [lapidarylaw15_ArcBack.j0] at H
   by_cases c8 : x28_4 = true
   ·subst c8
    have H1 : ((lapidarylaw15_known.f kj4).bind fun t311 => (some t311)) = some r:=by rw [if_pos rfl] at H;exact H
    clear H
    have H:=H1
    clear H1
    replace H:=Option.bind_eq_some_iff.mp H
    obtain ⟨t311,A90,H⟩:=H
    replace H : (some t311) = some r:=H
    have A9:=aMx11b A90
    clear A90
    obtain rfl:=Option.some.inj H
    go_wp2_with (first|((with_reducible refine gate_callee (f:=9) rfl ?_);refine goesL_ (some 29) rfl rfl Try.func9 (by kernel_rfl) rfl #[] rfl (by (try simp only [List.map_toArray,List.map_cons,List.map_nil]);first|done|rfl|(simp only [List.length_drop,List.length_take];rfl)) ?_;(with_reducible refine (lapidarylaw15_known.calls kj4  t311 _ A9.out).mono ?_);rintro e w10 ⟨rfl,hb⟩;refine ⟨_,rfl,?_⟩;have n0_:=aMx11b (below_step (by repeat (with_reducible first|exact HB.out|apply below_alloc|apply pw_below_drewN|apply below_drew1)) hb);clear HB;have HB:=n0_;clear n0_;(try clear hb);(try clear hb2);(try clear hk);(try clear hi)))
    go_ret
    exact ⟨by first | rfl | (simp [errW_none,errW_some]<;>rfl) | (simp [*,errW_none,errW_some]<;>rfl),by repeat (first | (with_reducible first | exact HB.out | apply below_alloc | apply pw_below_drewN | apply below_drew1) | exact HB.out)⟩
   ·replace c8:=Bool.eq_false_iff.mpr c8
    subst c8
    have H1 : ((arc_Encode.f kj4 l0).bind fun bt312 => (if bt312.2 = 0 then (if (bt312.1.length : Int) = 0 then (some false) else ((arc_Decode.f bt312.1).bind fun bt316 => (if 0 ≤ (Int.tmod (wrap64 (a2)) (bt312.1.length : Int)) then (if (Int.tmod (wrap64 (a2)) (bt312.1.length : Int)) ≤ (bt312.1.length : Int) then ((arc_Decode.f (bt312.1.take ((Int.tmod (wrap64 (a2)) (bt312.1.length : Int)) : Int).toNat)).bind fun bt324 => ((lapidaryref00_Copy.f bt312.1).bind fun t328 => (if t328.length < 140737488355328 then ((arc_Decode.f (t328++[a3])).bind fun bt334 => (if bt316.2 = 0 then ((lapidaryref15_Same.f kj4 bt316.1 l0).bind fun t338 => (if t338 = true then (if bt324.2 = 11 then (if bt334.2 = 11 then (lapidarylaw15_ArcBack.j1 kj4 l1) else (some false)) else (some false)) else (some false))) else (some false))) else (none)))) else (none)) else (none)))) else (lapidarylaw15_ArcBack.j1 kj4 l1))) = some r:=by rw [if_neg (show ¬ (false = true) by decide)] at H;exact H
    clear H
    have H:=H1
    clear H1
    replace H:=Option.bind_eq_some_iff.mp H
    obtain ⟨⟨t312,t313⟩,A110,H⟩:=H
    replace H : (if t313 = 0 then (if (t312.length : Int) = 0 then (some false) else ((arc_Decode.f t312).bind fun bt316 => (if 0 ≤ (Int.tmod (wrap64 (a2)) (t312.length : Int)) then (if (Int.tmod (wrap64 (a2)) (t312.length : Int)) ≤ (t312.length : Int) then ((arc_Decode.f (t312.take ((Int.tmod (wrap64 (a2)) (t312.length : Int)) : Int).toNat)).bind fun bt324 => ((lapidaryref00_Copy.f t312).bind fun t328 => (if t328.length < 140737488355328 then ((arc_Decode.f (t328++[a3])).bind fun bt334 => (if bt316.2 = 0 then ((lapidaryref15_Same.f kj4 bt316.1 l0).bind fun t338 => (if t338 = true then (if bt324.2 = 11 then (if bt334.2 = 11 then (lapidarylaw15_ArcBack.j1 kj4 l1) else (some false)) else (some false)) else (some false))) else (some false))) else (none)))) else (none)) else (none)))) else (lapidarylaw15_ArcBack.j1 kj4 l1)) = some r:=H
    have A11:=aMx11b A110
    clear A110
    have HC12:=aMx11b H
    clear H
    go_upto_if 36 with (first | ((with_reducible refine gate_callee (f:=10) rfl ?_);refine goesL_ (some 32) rfl rfl Try.func10 (by kernel_rfl) rfl #[.slice A0 l0.length c0] rfl (by (try simp only [List.map_toArray,List.map_cons,List.map_nil]);first | done | rfl | (simp only [List.length_drop,List.length_take];rfl)) ?_;(with_reducible refine (arc_Encode.calls kj4 _ _ l0 t312 t313 _ ?side1 ?side2 A11.out).mono ?_);(case side1 => repeat (first | exact (Kd.C_below HR0.out HB.out) | (with_reducible refine Kd.C_alloc ?_ _) | (with_reducible refine Kd.C_drewN ?_ _) | (with_reducible refine Kd.C_drew ?_)));(case side2 => exact HC0.out);rintro e w13 ⟨v314,rfl,ho0,hb⟩;refine ⟨_,rfl,?_⟩;have n0_:=aMx11b (Kd.R_lower ho0 (below_size (by repeat (first | (with_reducible first | exact HB.out | apply below_alloc | apply pw_below_drewN | apply below_drew1) | exact HB.out))));have n1_:=aMx11b (below_step (by repeat (first | (with_reducible first | exact HB.out | apply below_alloc | apply pw_below_drewN | apply below_drew1) | exact HB.out)) hb);clear HB;have HO315:=n0_;have HB:=n1_;clear n0_ n1_;(try clear hb);(try clear hb2);(try clear hk);(try clear hi);(try clear ho0)))
    (try simp only [Act.put,sAx11b,sBx11b,sCx11b])
    go_cut [] (fun wc => ∃ (kq : Nat),Aside0 (lapidarylaw15_ArcBack.j1 kq l1 = some r) ∧ Aside0 (kq ≤ kj4) ∧ Aside0 (Below w.heap.size w wc))
    case first =>
     have H:=HC12.out
     clear HC12
     by_cases c14 : t313 = 0
     ·rw [if_pos c14] at H
      have c14b0 : (t313 == 0) = true:=beq_iff_eq.mpr c14
      have c14b1 : (t313 != 0) = false:=bne_eq_false_iff_eq.mpr c14
      clear c14
      (first | rw [c14b0] | (simp only [i64_w,i32_w];rw [c14b0]) | skip)
      by_cases c15 : (t312.length : Int) = 0
      ·rw [if_pos c15] at H
       have c15b0 : ((t312.length : Int) == 0) = true:=beq_iff_eq.mpr c15
       have c15b1 : ((t312.length : Int) != 0) = false:=bne_eq_false_iff_eq.mpr c15
       clear c15
       obtain rfl:=Option.some.inj H
       obtain ⟨Ao16,co16,eo16⟩:=Kd.R_slice HO315.out
       subst eo16
       go_wp2
       go_ret
       exact ⟨by first | rfl | (simp [errW_none,errW_some]<;>rfl) | (simp [*,errW_none,errW_some]<;>rfl),by repeat (first | (with_reducible first | exact HB.out | apply below_alloc | apply pw_below_drewN | apply below_drew1) | exact HB.out)⟩
      ·rw [if_neg c15] at H
       have c15b0 : ((t312.length : Int) == 0) = false:=beq_eq_false_iff_ne.mpr c15
       have c15b1 : ((t312.length : Int) != 0) = true:=bne_iff_ne.mpr c15
       have c15b2 : ¬ (t312 = []):=fun h_ => c15 (by rw [h_];rfl)
       replace H:=Option.bind_eq_some_iff.mp H
       obtain ⟨⟨t316,t317⟩,A170,H⟩:=H
       replace H : (if 0 ≤ (Int.tmod (wrap64 (a2)) (t312.length : Int)) then (if (Int.tmod (wrap64 (a2)) (t312.length : Int)) ≤ (t312.length : Int) then ((arc_Decode.f (t312.take ((Int.tmod (wrap64 (a2)) (t312.length : Int)) : Int).toNat)).bind fun bt324 => ((lapidaryref00_Copy.f t312).bind fun t328 => (if t328.length < 140737488355328 then ((arc_Decode.f (t328++[a3])).bind fun bt334 => (if t317 = 0 then ((lapidaryref15_Same.f kj4 t316 l0).bind fun t338 => (if t338 = true then (if bt324.2 = 11 then (if bt334.2 = 11 then (lapidarylaw15_ArcBack.j1 kj4 l1) else (some false)) else (some false)) else (some false))) else (some false))) else (none)))) else (none)) else (none)) = some r:=H
       have A17:=aMx11b A170
       clear A170
       obtain ⟨ji18,hji18⟩ : ∃ j_ : Int,(Int.tmod (wrap64 (a2)) (t312.length : Int)) = j_:=⟨_,rfl⟩
       replace H : (if 0 ≤ (ji18) then (if (ji18) ≤ (t312.length : Int) then ((arc_Decode.f (t312.take ((ji18) : Int).toNat)).bind fun bt324 => ((lapidaryref00_Copy.f t312).bind fun t328 => (if t328.length < 140737488355328 then ((arc_Decode.f (t328++[a3])).bind fun bt334 => (if t317 = 0 then ((lapidaryref15_Same.f kj4 t316 l0).bind fun t338 => (if t338 = true then (if bt324.2 = 11 then (if bt334.2 = 11 then (lapidarylaw15_ArcBack.j1 kj4 l1) else (some false)) else (some false)) else (some false))) else (some false))) else (none)))) else (none)) else (none)) = some r:=by first | (rw [hji18] at H;exact H) | (simp only [hji18] at H ⊢;exact H)
       (try rw [hji18] at A17)
       by_cases c19 : 0 ≤ (ji18)
       ·rw [if_pos c19] at H
        have c19b0:=eq_true c19
        have c19b1 : decide (0 ≤ (ji18)) = true:=decide_eq_true c19
        clear c19
        by_cases c20 : (ji18) ≤ (t312.length : Int)
        ·rw [if_pos c20] at H
         have c20b0:=eq_true c20
         have c20b1 : decide ((ji18) ≤ (t312.length : Int)) = true:=decide_eq_true c20
         clear c20
         obtain ⟨y320,hy320⟩ : ∃ y_ : List Int,y_ = (t312.take ((ji18) : Int).toNat):=⟨_,rfl⟩
         replace H : ((arc_Decode.f y320).bind fun bt324 => ((lapidaryref00_Copy.f t312).bind fun t328 => (if t328.length < 140737488355328 then ((arc_Decode.f (t328++[a3])).bind fun bt334 => (if t317 = 0 then ((lapidaryref15_Same.f kj4 t316 l0).bind fun t338 => (if t338 = true then (if bt324.2 = 11 then (if bt334.2 = 11 then (lapidarylaw15_ArcBack.j1 kj4 l1) else (some false)) else (some false)) else (some false))) else (some false))) else (none)))) = some r:=by first | (rw [hy320];with_reducible exact H) | (have H2_:=(Option.bind_some _ _).symm.trans H;rw [hy320];with_reducible exact H2_) | (have H2_:=(Option.bind_some _ _).symm.trans H;with_reducible exact H2_) | with_reducible exact H | (rw [hy320];exact H) | exact H
         have Ny320:=aMx11b hy320
         clear hy320
         replace H:=Option.bind_eq_some_iff.mp H
         obtain ⟨⟨t324,t325⟩,A210,H⟩:=H
         replace H : ((lapidaryref00_Copy.f t312).bind fun t328 => (if t328.length < 140737488355328 then ((arc_Decode.f (t328++[a3])).bind fun bt334 => (if t317 = 0 then ((lapidaryref15_Same.f kj4 t316 l0).bind fun t338 => (if t338 = true then (if t325 = 11 then (if bt334.2 = 11 then (lapidarylaw15_ArcBack.j1 kj4 l1) else (some false)) else (some false)) else (some false))) else (some false))) else (none))) = some r:=H
         have A21:=aMx11b A210
         clear A210
         replace H:=Option.bind_eq_some_iff.mp H
         obtain ⟨t328,A220,H⟩:=H
         replace H : (if t328.length < 140737488355328 then ((arc_Decode.f (t328++[a3])).bind fun bt334 => (if t317 = 0 then ((lapidaryref15_Same.f kj4 t316 l0).bind fun t338 => (if t338 = true then (if t325 = 11 then (if bt334.2 = 11 then (lapidarylaw15_ArcBack.j1 kj4 l1) else (some false)) else (some false)) else (some false))) else (some false))) else (none)) = some r:=H
         have A22:=aMx11b A220
         clear A220
         by_cases c23 : t328.length < 140737488355328
         ·rw [if_pos c23] at H
          have LMc23:=aMx11b c23
          clear c23
          obtain ⟨y331,hy331⟩ : ∃ y_ : List Int,y_ = (t328++[a3]):=⟨_,rfl⟩
          replace H : ((arc_Decode.f y331).bind fun bt334 => (if t317 = 0 then ((lapidaryref15_Same.f kj4 t316 l0).bind fun t338 => (if t338 = true then (if t325 = 11 then (if bt334.2 = 11 then (lapidarylaw15_ArcBack.j1 kj4 l1) else (some false)) else (some false)) else (some false))) else (some false))) = some r:=by first | (rw [hy331];with_reducible exact H) | (have H2_:=(Option.bind_some _ _).symm.trans H;rw [hy331];with_reducible exact H2_) | (have H2_:=(Option.bind_some _ _).symm.trans H;with_reducible exact H2_) | with_reducible exact H | (rw [hy331];exact H) | exact H
          have Ny331:=aMx11b hy331
          clear hy331
          replace H:=Option.bind_eq_some_iff.mp H
          obtain ⟨⟨t334,t335⟩,A240,H⟩:=H
          replace H : (if t317 = 0 then ((lapidaryref15_Same.f kj4 t316 l0).bind fun t338 => (if t338 = true then (if t325 = 11 then (if t335 = 11 then (lapidarylaw15_ArcBack.j1 kj4 l1) else (some false)) else (some false)) else (some false))) else (some false)) = some r:=H
          have A24:=aMx11b A240
          clear A240
          by_cases c25 : t317 = 0
          ·rw [if_pos c25] at H
           have c25b0 : (t317 == 0) = true:=beq_iff_eq.mpr c25
           have c25b1 : (t317 != 0) = false:=bne_eq_false_iff_eq.mpr c25
           clear c25
           replace H:=Option.bind_eq_some_iff.mp H
           obtain ⟨t338,A260,H⟩:=H
           replace H : (if t338 = true then (if t325 = 11 then (if t335 = 11 then (lapidarylaw15_ArcBack.j1 kj4 l1) else (some false)) else (some false)) else (some false)) = some r:=H
           have A26:=aMx11b A260
           clear A260
           by_cases c27 : t338 = true
           ·subst c27
            have H1 : (if t325 = 11 then (if t335 = 11 then (lapidarylaw15_ArcBack.j1 kj4 l1) else (some false)) else (some false)) = some r:=by rw [if_pos rfl] at H;exact H
            clear H
            have H:=H1
            clear H1
            by_cases c28 : t325 = 11
            ·rw [if_pos c28] at H
             have c28b0 : (t325 == 11) = true:=beq_iff_eq.mpr c28
             have c28b1 : (t325 != 11) = false:=bne_eq_false_iff_eq.mpr c28
             clear c28
             by_cases c29 : t335 = 11
             ·rw [if_pos c29] at H
              have c29b0 : (t335 == 11) = true:=beq_iff_eq.mpr c29
              have c29b1 : (t335 != 11) = false:=bne_eq_false_iff_eq.mpr c29
              clear c29
              have H':=aMx11b H
              clear H
              obtain ⟨Ao30,co30,eo30⟩:=Kd.R_slice HO315.out
              subst eo30
              go_wp2_with (first|((with_reducible refine gate_callee (f:=12) rfl ?_);refine goesL_ (some 42) rfl rfl Try.func12 (by kernel_rfl) rfl #[.slice Ao30 t312.length co30] rfl (by (try simp only [List.map_toArray,List.map_cons,List.map_nil]);first|done|rfl|(simp only [List.length_drop,List.length_take];rfl)) ?_;(with_reducible refine (arc_Decode.calls _ _ t312 t316 t317 _ ?side1 ?side2 A17.out).mono ?_);(case side1 => repeat (first|exact (Kd.R_reads' HO315.out).2.2|(with_reducible first|refine Kd.C_alloc ?_ _|refine Kd.C_drewN ?_ _|refine Kd.C_drew ?_)));(case side2 => exact (Kd.R_reads' HO315.out).2.1);rintro e w31 ⟨v318,rfl,ho0,hb⟩;refine ⟨_,rfl,?_⟩;have n0_:=aMx11b (Kd.R_below (by (with_reducible repeat (first|apply Kd.R_alloc|apply Kd.R_drewN|apply Kd.R_drew));exact HO315.out) hb);have n1_:=aMx11b (Kd.S_lower ho0 (below_size (by repeat (with_reducible first|exact HB.out|apply below_alloc|apply pw_below_drewN|apply below_drew1))));have n2_:=aMx11b (below_step (by repeat (with_reducible first|exact HB.out|apply below_alloc|apply pw_below_drewN|apply below_drew1)) hb);clear HO315;clear HB;have HO315:=n0_;have HO319:=n1_;have HB:=n2_;clear n0_ n1_ n2_;(try clear hb);(try clear hb2);(try clear hk);(try clear hi);(try clear ho0);have q32 : ((ji18) : Int) ≤ ((t312.length : Int) : Int):=of_decide_eq_true (by first|(with_reducible assumption)|assumption);obtain ⟨i032,hi032,_,hsz32,_⟩:=info_parts info5;have hroom32 : t312.length ≤ co30:=(Kd.R_reads' HO315.out).2.1;have hC32 : Kd.C (Kd.int .u8) _ Ao30 t312.length t312:=(Kd.R_reads' HO315.out).2.2;have hcut32:=cut_to (P:=Try.prog) 23 5 .i64 Try.underlying23 hi032 Ao30 t312.length co30 (ji18) (of_decide_eq_true (by first|(with_reducible assumption)|assumption)) q32 hroom32;have hr32:=Kd.C_take (m:=((ji18) : Int).toNat) hC32 (by omega);have hy32 : y320.length = ((ji18) : Int).toNat:=(by rw [Ny320.out,List.length_take];omega);rw [← Ny320.out] at hr32;rw [← hy32] at hcut32;have HR323:=aMx11b hr32;have HC323:=aMx11b (show y320.length ≤ co30 from by omega);clear hr32 hC32 hroom32 hi032 hsz32;have KY32:=aMx11b hy32;clear hy32;have KL32:=aMx11b (show ((ji18) : Int).toNat ≤ t312.length from by omega);replace q32:=eq_true q32)|((with_reducible refine gate_callee (f:=12) rfl ?_);refine goesL_ (some 53) rfl rfl Try.func12 (by kernel_rfl) rfl #[.slice Ao30 y320.length co30] rfl (by (try simp only [List.map_toArray,List.map_cons,List.map_nil]);first|done|rfl|(simp only [List.length_drop,List.length_take];rfl)) ?_;(with_reducible refine (arc_Decode.calls _ _ y320 t324 t325 _ ?side1 ?side2 A21.out).mono ?_);(case side1 => repeat (first|exact (by repeat (first|(with_reducible exact HR323.out)|(with_reducible first|refine Kd.C_alloc ?_ _|refine Kd.C_drewN ?_ _|refine Kd.C_drew ?_)|exact HR323.out))|(with_reducible first|refine Kd.C_alloc ?_ _|refine Kd.C_drewN ?_ _|refine Kd.C_drew ?_)));(case side2 => exact HC323.out);rintro e w33 ⟨v326,rfl,ho0,hb⟩;refine ⟨_,rfl,?_⟩;have n0_:=aMx11b (Kd.R_below (by (with_reducible repeat (first|apply Kd.R_alloc|apply Kd.R_drewN|apply Kd.R_drew));exact HO315.out) hb);have n1_:=aMx11b (Kd.S_elder' (by (with_reducible repeat (first|apply Kd.S_alloc|apply Kd.S_drewN|apply Kd.S_drew));exact HO319.out) (Kd.S_base ho0) hb);have n2_:=aMx11b (Kd.S_lower (Kd.S_new' ho0 (Kd.S_lt (by (with_reducible repeat (first|apply Kd.S_alloc|apply Kd.S_drewN|apply Kd.S_drew));exact HO319.out))) (below_size (by repeat (with_reducible first|exact HB.out|apply below_alloc|apply pw_below_drewN|apply below_drew1))));have n3_:=aMx11b (Kd.C_below (by repeat (first|(with_reducible exact HR323.out)|(with_reducible first|refine Kd.C_alloc ?_ _|refine Kd.C_drewN ?_ _|refine Kd.C_drew ?_)|exact HR323.out)) hb);have n4_:=aMx11b (below_step (by repeat (with_reducible first|exact HB.out|apply below_alloc|apply pw_below_drewN|apply below_drew1)) hb);clear HO315;clear HO319;clear HR323;clear HB;have HO315:=n0_;have HO319:=n1_;have HO327:=n2_;have HR323:=n3_;have HB:=n4_;clear n0_ n1_ n2_ n3_ n4_;(try clear hb);(try clear hb2);(try clear hk);(try clear hi);(try clear ho0))|((with_reducible refine gate_callee (f:=18) rfl ?_);refine goesL_ (some 57) rfl rfl Try.func18 (by kernel_rfl) rfl #[.slice Ao30 t312.length co30] rfl (by (try simp only [List.map_toArray,List.map_cons,List.map_nil]);first|done|rfl|(simp only [List.length_drop,List.length_take];rfl)) ?_;(with_reducible refine (lapidaryref00_Copy.calls _ _ t312 t328 _ ?side1 ?side2 A22.out).mono ?_);(case side1 => repeat (first|exact (Kd.R_reads' HO315.out).2.2|(with_reducible first|refine Kd.C_alloc ?_ _|refine Kd.C_drewN ?_ _|refine Kd.C_drew ?_)));(case side2 => exact (Kd.R_reads' HO315.out).2.1);rintro e w34 ⟨v329,rfl,ho0,hb⟩;refine ⟨_,rfl,?_⟩;have n0_:=aMx11b (Kd.R_elder' (by (with_reducible repeat (first|apply Kd.R_alloc|apply Kd.R_drewN|apply Kd.R_drew));exact HO315.out) (Kd.R_base ho0) hb);have n1_:=aMx11b (Kd.S_below (by (with_reducible repeat (first|apply Kd.S_alloc|apply Kd.S_drewN|apply Kd.S_drew));exact HO319.out) hb);have n2_:=aMx11b (Kd.S_below (by (with_reducible repeat (first|apply Kd.S_alloc|apply Kd.S_drewN|apply Kd.S_drew));exact HO327.out) hb);have n3_:=aMx11b (Kd.R_lower (Kd.R_new' ho0 (Kd.R_lt (by (with_reducible repeat (first|apply Kd.R_alloc|apply Kd.R_drewN|apply Kd.R_drew));exact HO315.out))) (below_size (by repeat (with_reducible first|exact HB.out|apply below_alloc|apply pw_below_drewN|apply below_drew1))));have n4_:=aMx11b (Kd.C_below (by repeat (first|(with_reducible exact HR323.out)|(with_reducible first|refine Kd.C_alloc ?_ _|refine Kd.C_drewN ?_ _|refine Kd.C_drew ?_)|exact HR323.out)) hb);have n5_:=aMx11b (below_step (by repeat (with_reducible first|exact HB.out|apply below_alloc|apply pw_below_drewN|apply below_drew1)) hb);clear HO315;clear HO319;clear HO327;clear HR323;clear HB;have HO315:=n0_;have HO319:=n1_;have HO327:=n2_;have HO330:=n3_;have HR323:=n4_;have HB:=n5_;clear n0_ n1_ n2_ n3_ n4_ n5_;(try clear hb);(try clear hb2);(try clear hk);(try clear hi);(try clear ho0))|((with_reducible refine gate_builtin (b:=.append) (xs:=#[.tmp 58,.tmp 60]) rfl ?_);(try (refine gate_guard (by rfl) ?_;dsimp only));at_builtin;refine Kd.R_append (Kd.int .u8) (w0:=w) w.heap.size rfl (.tmp 58) (.tmp 60) 23 5 (.int .u8 0) 1 rfl Try.underlying23 info5 rfl (by decide) (by omega) v329 t328 a3 [.int .u8 a3] (fun k_ => some k_ ≠ (.slice Ao30 t312.length co30 : Value).ownBlock) (fun _ => False) rfl rfl ?aP (fun _ hk => hk.elim) ?aF ?aO ?aB ?aS ?aL ?_;(case aP => exact rfl);(case aB => exact (by repeat (with_reducible first|exact HB.out|apply below_alloc|apply pw_below_drewN|apply below_drew1)));(case aF => exact (fun k_ hk => Kd.fresh' (Kd.R_lt (by (with_reducible repeat (first|apply Kd.R_alloc|apply Kd.R_drewN|apply Kd.R_drew));exact HO315.out)) k_ hk));(case aO => exact (by (with_reducible repeat (first|apply Kd.R_alloc|apply Kd.R_drewN|apply Kd.R_drew));exact Kd.R_mono HO330.out (fun _ hk => hk.2)));(case aS => exact (below_size (by repeat (with_reducible first|exact HB.out|apply below_alloc|apply pw_below_drewN|apply below_drew1))));(case aL => have:=LMc23.out;omega);intro v332 w35 ho hb hg hat;rw [← Ny331.out] at ho;have n0_:=aMx11b (Kd.R_after (ok:=(fun _ => True)) (by (with_reducible repeat (first|apply Kd.R_alloc|apply Kd.R_drewN|apply Kd.R_drew));exact HO315.out) hg hat);have n1_:=aMx11b (Kd.S_over' (by (with_reducible repeat (first|apply Kd.S_alloc|apply Kd.S_drewN|apply Kd.S_drew));exact HO319.out) (Kd.R_typed (by (with_reducible repeat (first|apply Kd.R_alloc|apply Kd.R_drewN|apply Kd.R_drew));exact HO330.out)) (by decide) hg);have n2_:=aMx11b (Kd.S_over' (by (with_reducible repeat (first|apply Kd.S_alloc|apply Kd.S_drewN|apply Kd.S_drew));exact HO327.out) (Kd.R_typed (by (with_reducible repeat (first|apply Kd.R_alloc|apply Kd.R_drewN|apply Kd.R_drew));exact HO330.out)) (by decide) hg);have n3_:=aMx11b (hb);have n4_:=aMx11b ((show Kd.C (Kd.int .u8) w35 Ao30 y320.length y320 from by rw [Ny320.out];exact Kd.C_take (m:=((ji18) : Int).toNat) ((Kd.R_reads' (Kd.R_after (ok:=(fun _ => True)) (by (with_reducible repeat (first|apply Kd.R_alloc|apply Kd.R_drewN|apply Kd.R_drew));exact HO315.out) hg hat)).2.2) KL32.out));have n5_:=aMx11b (ho);clear HO315;clear HO319;clear HO327;clear HB;clear HR323;clear HO330;have HO315:=n0_;have HO319:=n1_;have HO327:=n2_;have HB:=n3_;have HR323:=n4_;have HO333:=n5_;clear n0_ n1_ n2_ n3_ n4_ n5_;clear ho hb hg hat;obtain ⟨Ao36,co36,eo36⟩:=Kd.R_slice HO333.out;subst eo36)|((with_reducible refine gate_callee (f:=12) rfl ?_);refine goesL_ (some 64) rfl rfl Try.func12 (by kernel_rfl) rfl #[.slice Ao36 y331.length co36] rfl (by (try simp only [List.map_toArray,List.map_cons,List.map_nil]);first|done|rfl|(simp only [List.length_drop,List.length_take];rfl)) ?_;(with_reducible refine (arc_Decode.calls _ _ y331 t334 t335 _ ?side1 ?side2 A24.out).mono ?_);(case side1 => repeat (first|exact (Kd.R_reads' HO333.out).2.2|(with_reducible first|refine Kd.C_alloc ?_ _|refine Kd.C_drewN ?_ _|refine Kd.C_drew ?_)));(case side2 => exact (Kd.R_reads' HO333.out).2.1);rintro e w37 ⟨v336,rfl,ho0,hb⟩;refine ⟨_,rfl,?_⟩;have n0_:=aMx11b (Kd.R_below (by (with_reducible repeat (first|apply Kd.R_alloc|apply Kd.R_drewN|apply Kd.R_drew));exact HO315.out) hb);have n1_:=aMx11b (Kd.S_elder' (by (with_reducible repeat (first|apply Kd.S_alloc|apply Kd.S_drewN|apply Kd.S_drew));exact HO319.out) (Kd.S_base ho0) hb);have n2_:=aMx11b (Kd.S_elder' (by (with_reducible repeat (first|apply Kd.S_alloc|apply Kd.S_drewN|apply Kd.S_drew));exact HO327.out) (Kd.S_base ho0) hb);have n3_:=aMx11b (Kd.R_below (by (with_reducible repeat (first|apply Kd.R_alloc|apply Kd.R_drewN|apply Kd.R_drew));exact HO333.out) hb);have n4_:=aMx11b (Kd.S_lower (Kd.S_new' (Kd.S_new' ho0 (Kd.S_lt (by (with_reducible repeat (first|apply Kd.S_alloc|apply Kd.S_drewN|apply Kd.S_drew));exact HO319.out))) (Kd.S_lt (by (with_reducible repeat (first|apply Kd.S_alloc|apply Kd.S_drewN|apply Kd.S_drew));exact HO327.out))) (below_size (by repeat (with_reducible first|exact HB.out|apply below_alloc|apply pw_below_drewN|apply below_drew1))));have n5_:=aMx11b (Kd.C_below (by repeat (first|(with_reducible exact HR323.out)|(with_reducible first|refine Kd.C_alloc ?_ _|refine Kd.C_drewN ?_ _|refine Kd.C_drew ?_)|exact HR323.out)) hb);have n6_:=aMx11b (below_step (by repeat (with_reducible first|exact HB.out|apply below_alloc|apply pw_below_drewN|apply below_drew1)) hb);clear HO315;clear HO319;clear HO327;clear HO333;clear HR323;clear HB;have HO315:=n0_;have HO319:=n1_;have HO327:=n2_;have HO333:=n3_;have HO337:=n4_;have HR323:=n5_;have HB:=n6_;clear n0_ n1_ n2_ n3_ n4_ n5_ n6_;(try clear hb);(try clear hb2);(try clear hk);(try clear hi);(try clear ho0);obtain ⟨Ao38,co38,eo38⟩:=Kd.S_slice HO319.out;subst eo38)|(go_at_call 17;(with_reducible refine (lapidaryref15_Same.calls kj4 _ _ t316 _ _ l0 true _ ?side1 ?side2 ?side3 ?side4 A26.out).mono ?_);(case side1 => repeat (first|exact (Kd.S_reads' HO319.out).2.2|(with_reducible first|refine Kd.C_alloc ?_ _|refine Kd.C_drewN ?_ _|refine Kd.C_drew ?_)));(case side2 => exact (Kd.S_reads' HO319.out).2.1);(case side3 => repeat (first|exact (Kd.C_below HR0.out HB.out)|(with_reducible first|refine Kd.C_alloc ?_ _|refine Kd.C_drewN ?_ _|refine Kd.C_drew ?_)));(case side4 => exact HC0.out);rintro e w' ⟨rfl,⟨nd,rfl⟩⟩))
              go_meet
              case rel => exact ⟨_,H',⟨by have:=HJ4.out;first | omega | exact Nat.le_refl _⟩,⟨by repeat (first | (with_reducible first | exact HB.out | apply below_alloc | apply pw_below_drewN | apply below_drew1) | exact HB.out)⟩⟩
             ·rw [if_neg c29] at H
              have c29b0 : (t335 == 11) = false:=beq_eq_false_iff_ne.mpr c29
              have c29b1 : (t335 != 11) = true:=bne_iff_ne.mpr c29
              obtain rfl:=Option.some.inj H
              obtain ⟨Ao39,co39,eo39⟩:=Kd.R_slice HO315.out
              subst eo39
              go_wp2_with (first|((with_reducible refine gate_callee (f:=12) rfl ?_);refine goesL_ (some 42) rfl rfl Try.func12 (by kernel_rfl) rfl #[.slice Ao39 t312.length co39] rfl (by (try simp only [List.map_toArray,List.map_cons,List.map_nil]);first|done|rfl|(simp only [List.length_drop,List.length_take];rfl)) ?_;(with_reducible refine (arc_Decode.calls _ _ t312 t316 t317 _ ?side1 ?side2 A17.out).mono ?_);(case side1 => repeat (first|exact (Kd.R_reads' HO315.out).2.2|(with_reducible first|refine Kd.C_alloc ?_ _|refine Kd.C_drewN ?_ _|refine Kd.C_drew ?_)));(case side2 => exact (Kd.R_reads' HO315.out).2.1);rintro e w40 ⟨v318,rfl,ho0,hb⟩;refine ⟨_,rfl,?_⟩;have n0_:=aMx11b (Kd.R_below (by (with_reducible repeat (first|apply Kd.R_alloc|apply Kd.R_drewN|apply Kd.R_drew));exact HO315.out) hb);have n1_:=aMx11b (Kd.S_lower ho0 (below_size (by repeat (with_reducible first|exact HB.out|apply below_alloc|apply pw_below_drewN|apply below_drew1))));have n2_:=aMx11b (below_step (by repeat (with_reducible first|exact HB.out|apply below_alloc|apply pw_below_drewN|apply below_drew1)) hb);clear HO315;clear HB;have HO315:=n0_;have HO319:=n1_;have HB:=n2_;clear n0_ n1_ n2_;(try clear hb);(try clear hb2);(try clear hk);(try clear hi);(try clear ho0);have q41 : ((ji18) : Int) ≤ ((t312.length : Int) : Int):=of_decide_eq_true (by first|(with_reducible assumption)|assumption);obtain ⟨i041,hi041,_,hsz41,_⟩:=info_parts info5;have hroom41 : t312.length ≤ co39:=(Kd.R_reads' HO315.out).2.1;have hC41 : Kd.C (Kd.int .u8) _ Ao39 t312.length t312:=(Kd.R_reads' HO315.out).2.2;have hcut41:=cut_to (P:=Try.prog) 23 5 .i64 Try.underlying23 hi041 Ao39 t312.length co39 (ji18) (of_decide_eq_true (by first|(with_reducible assumption)|assumption)) q41 hroom41;have hr41:=Kd.C_take (m:=((ji18) : Int).toNat) hC41 (by omega);have hy41 : y320.length = ((ji18) : Int).toNat:=(by rw [Ny320.out,List.length_take];omega);rw [← Ny320.out] at hr41;rw [← hy41] at hcut41;have HR323:=aMx11b hr41;have HC323:=aMx11b (show y320.length ≤ co39 from by omega);clear hr41 hC41 hroom41 hi041 hsz41;have KY41:=aMx11b hy41;clear hy41;have KL41:=aMx11b (show ((ji18) : Int).toNat ≤ t312.length from by omega);replace q41:=eq_true q41)|((with_reducible refine gate_callee (f:=12) rfl ?_);refine goesL_ (some 53) rfl rfl Try.func12 (by kernel_rfl) rfl #[.slice Ao39 y320.length co39] rfl (by (try simp only [List.map_toArray,List.map_cons,List.map_nil]);first|done|rfl|(simp only [List.length_drop,List.length_take];rfl)) ?_;(with_reducible refine (arc_Decode.calls _ _ y320 t324 t325 _ ?side1 ?side2 A21.out).mono ?_);(case side1 => repeat (first|exact (by repeat (first|(with_reducible exact HR323.out)|(with_reducible first|refine Kd.C_alloc ?_ _|refine Kd.C_drewN ?_ _|refine Kd.C_drew ?_)|exact HR323.out))|(with_reducible first|refine Kd.C_alloc ?_ _|refine Kd.C_drewN ?_ _|refine Kd.C_drew ?_)));(case side2 => exact HC323.out);rintro e w42 ⟨v326,rfl,ho0,hb⟩;refine ⟨_,rfl,?_⟩;have n0_:=aMx11b (Kd.R_below (by (with_reducible repeat (first|apply Kd.R_alloc|apply Kd.R_drewN|apply Kd.R_drew));exact HO315.out) hb);have n1_:=aMx11b (Kd.S_elder' (by (with_reducible repeat (first|apply Kd.S_alloc|apply Kd.S_drewN|apply Kd.S_drew));exact HO319.out) (Kd.S_base ho0) hb);have n2_:=aMx11b (Kd.S_lower (Kd.S_new' ho0 (Kd.S_lt (by (with_reducible repeat (first|apply Kd.S_alloc|apply Kd.S_drewN|apply Kd.S_drew));exact HO319.out))) (below_size (by repeat (with_reducible first|exact HB.out|apply below_alloc|apply pw_below_drewN|apply below_drew1))));have n3_:=aMx11b (Kd.C_below (by repeat (first|(with_reducible exact HR323.out)|(with_reducible first|refine Kd.C_alloc ?_ _|refine Kd.C_drewN ?_ _|refine Kd.C_drew ?_)|exact HR323.out)) hb);have n4_:=aMx11b (below_step (by repeat (with_reducible first|exact HB.out|apply below_alloc|apply pw_below_drewN|apply below_drew1)) hb);clear HO315;clear HO319;clear HR323;clear HB;have HO315:=n0_;have HO319:=n1_;have HO327:=n2_;have HR323:=n3_;have HB:=n4_;clear n0_ n1_ n2_ n3_ n4_;(try clear hb);(try clear hb2);(try clear hk);(try clear hi);(try clear ho0))|((with_reducible refine gate_callee (f:=18) rfl ?_);refine goesL_ (some 57) rfl rfl Try.func18 (by kernel_rfl) rfl #[.slice Ao39 t312.length co39] rfl (by (try simp only [List.map_toArray,List.map_cons,List.map_nil]);first|done|rfl|(simp only [List.length_drop,List.length_take];rfl)) ?_;(with_reducible refine (lapidaryref00_Copy.calls _ _ t312 t328 _ ?side1 ?side2 A22.out).mono ?_);(case side1 => repeat (first|exact (Kd.R_reads' HO315.out).2.2|(with_reducible first|refine Kd.C_alloc ?_ _|refine Kd.C_drewN ?_ _|refine Kd.C_drew ?_)));(case side2 => exact (Kd.R_reads' HO315.out).2.1);rintro e w43 ⟨v329,rfl,ho0,hb⟩;refine ⟨_,rfl,?_⟩;have n0_:=aMx11b (Kd.R_elder' (by (with_reducible repeat (first|apply Kd.R_alloc|apply Kd.R_drewN|apply Kd.R_drew));exact HO315.out) (Kd.R_base ho0) hb);have n1_:=aMx11b (Kd.S_below (by (with_reducible repeat (first|apply Kd.S_alloc|apply Kd.S_drewN|apply Kd.S_drew));exact HO319.out) hb);have n2_:=aMx11b (Kd.S_below (by (with_reducible repeat (first|apply Kd.S_alloc|apply Kd.S_drewN|apply Kd.S_drew));exact HO327.out) hb);have n3_:=aMx11b (Kd.R_lower (Kd.R_new' ho0 (Kd.R_lt (by (with_reducible repeat (first|apply Kd.R_alloc|apply Kd.R_drewN|apply Kd.R_drew));exact HO315.out))) (below_size (by repeat (with_reducible first|exact HB.out|apply below_alloc|apply pw_below_drewN|apply below_drew1))));have n4_:=aMx11b (Kd.C_below (by repeat (first|(with_reducible exact HR323.out)|(with_reducible first|refine Kd.C_alloc ?_ _|refine Kd.C_drewN ?_ _|refine Kd.C_drew ?_)|exact HR323.out)) hb);have n5_:=aMx11b (below_step (by repeat (with_reducible first|exact HB.out|apply below_alloc|apply pw_below_drewN|apply below_drew1)) hb);clear HO315;clear HO319;clear HO327;clear HR323;clear HB;have HO315:=n0_;have HO319:=n1_;have HO327:=n2_;have HO330:=n3_;have HR323:=n4_;have HB:=n5_;clear n0_ n1_ n2_ n3_ n4_ n5_;(try clear hb);(try clear hb2);(try clear hk);(try clear hi);(try clear ho0))|((with_reducible refine gate_builtin (b:=.append) (xs:=#[.tmp 58,.tmp 60]) rfl ?_);(try (refine gate_guard (by rfl) ?_;dsimp only));at_builtin;refine Kd.R_append (Kd.int .u8) (w0:=w) w.heap.size rfl (.tmp 58) (.tmp 60) 23 5 (.int .u8 0) 1 rfl Try.underlying23 info5 rfl (by decide) (by omega) v329 t328 a3 [.int .u8 a3] (fun k_ => some k_ ≠ (.slice Ao39 t312.length co39 : Value).ownBlock) (fun _ => False) rfl rfl ?aP (fun _ hk => hk.elim) ?aF ?aO ?aB ?aS ?aL ?_;(case aP => exact rfl);(case aB => exact (by repeat (with_reducible first|exact HB.out|apply below_alloc|apply pw_below_drewN|apply below_drew1)));(case aF => exact (fun k_ hk => Kd.fresh' (Kd.R_lt (by (with_reducible repeat (first|apply Kd.R_alloc|apply Kd.R_drewN|apply Kd.R_drew));exact HO315.out)) k_ hk));(case aO => exact (by (with_reducible repeat (first|apply Kd.R_alloc|apply Kd.R_drewN|apply Kd.R_drew));exact Kd.R_mono HO330.out (fun _ hk => hk.2)));(case aS => exact (below_size (by repeat (with_reducible first|exact HB.out|apply below_alloc|apply pw_below_drewN|apply below_drew1))));(case aL => have:=LMc23.out;omega);intro v332 w44 ho hb hg hat;rw [← Ny331.out] at ho;have n0_:=aMx11b (Kd.R_after (ok:=(fun _ => True)) (by (with_reducible repeat (first|apply Kd.R_alloc|apply Kd.R_drewN|apply Kd.R_drew));exact HO315.out) hg hat);have n1_:=aMx11b (Kd.S_over' (by (with_reducible repeat (first|apply Kd.S_alloc|apply Kd.S_drewN|apply Kd.S_drew));exact HO319.out) (Kd.R_typed (by (with_reducible repeat (first|apply Kd.R_alloc|apply Kd.R_drewN|apply Kd.R_drew));exact HO330.out)) (by decide) hg);have n2_:=aMx11b (Kd.S_over' (by (with_reducible repeat (first|apply Kd.S_alloc|apply Kd.S_drewN|apply Kd.S_drew));exact HO327.out) (Kd.R_typed (by (with_reducible repeat (first|apply Kd.R_alloc|apply Kd.R_drewN|apply Kd.R_drew));exact HO330.out)) (by decide) hg);have n3_:=aMx11b (hb);have n4_:=aMx11b ((show Kd.C (Kd.int .u8) w44 Ao39 y320.length y320 from by rw [Ny320.out];exact Kd.C_take (m:=((ji18) : Int).toNat) ((Kd.R_reads' (Kd.R_after (ok:=(fun _ => True)) (by (with_reducible repeat (first|apply Kd.R_alloc|apply Kd.R_drewN|apply Kd.R_drew));exact HO315.out) hg hat)).2.2) KL41.out));have n5_:=aMx11b (ho);clear HO315;clear HO319;clear HO327;clear HB;clear HR323;clear HO330;have HO315:=n0_;have HO319:=n1_;have HO327:=n2_;have HB:=n3_;have HR323:=n4_;have HO333:=n5_;clear n0_ n1_ n2_ n3_ n4_ n5_;clear ho hb hg hat;obtain ⟨Ao45,co45,eo45⟩:=Kd.R_slice HO333.out;subst eo45)|((with_reducible refine gate_callee (f:=12) rfl ?_);refine goesL_ (some 64) rfl rfl Try.func12 (by kernel_rfl) rfl #[.slice Ao45 y331.length co45] rfl (by (try simp only [List.map_toArray,List.map_cons,List.map_nil]);first|done|rfl|(simp only [List.length_drop,List.length_take];rfl)) ?_;(with_reducible refine (arc_Decode.calls _ _ y331 t334 t335 _ ?side1 ?side2 A24.out).mono ?_);(case side1 => repeat (first|exact (Kd.R_reads' HO333.out).2.2|(with_reducible first|refine Kd.C_alloc ?_ _|refine Kd.C_drewN ?_ _|refine Kd.C_drew ?_)));(case side2 => exact (Kd.R_reads' HO333.out).2.1);rintro e w46 ⟨v336,rfl,ho0,hb⟩;refine ⟨_,rfl,?_⟩;have n0_:=aMx11b (Kd.R_below (by (with_reducible repeat (first|apply Kd.R_alloc|apply Kd.R_drewN|apply Kd.R_drew));exact HO315.out) hb);have n1_:=aMx11b (Kd.S_elder' (by (with_reducible repeat (first|apply Kd.S_alloc|apply Kd.S_drewN|apply Kd.S_drew));exact HO319.out) (Kd.S_base ho0) hb);have n2_:=aMx11b (Kd.S_elder' (by (with_reducible repeat (first|apply Kd.S_alloc|apply Kd.S_drewN|apply Kd.S_drew));exact HO327.out) (Kd.S_base ho0) hb);have n3_:=aMx11b (Kd.R_below (by (with_reducible repeat (first|apply Kd.R_alloc|apply Kd.R_drewN|apply Kd.R_drew));exact HO333.out) hb);have n4_:=aMx11b (Kd.S_lower (Kd.S_new' (Kd.S_new' ho0 (Kd.S_lt (by (with_reducible repeat (first|apply Kd.S_alloc|apply Kd.S_drewN|apply Kd.S_drew));exact HO319.out))) (Kd.S_lt (by (with_reducible repeat (first|apply Kd.S_alloc|apply Kd.S_drewN|apply Kd.S_drew));exact HO327.out))) (below_size (by repeat (with_reducible first|exact HB.out|apply below_alloc|apply pw_below_drewN|apply below_drew1))));have n5_:=aMx11b (Kd.C_below (by repeat (first|(with_reducible exact HR323.out)|(with_reducible first|refine Kd.C_alloc ?_ _|refine Kd.C_drewN ?_ _|refine Kd.C_drew ?_)|exact HR323.out)) hb);have n6_:=aMx11b (below_step (by repeat (with_reducible first|exact HB.out|apply below_alloc|apply pw_below_drewN|apply below_drew1)) hb);clear HO315;clear HO319;clear HO327;clear HO333;clear HR323;clear HB;have HO315:=n0_;have HO319:=n1_;have HO327:=n2_;have HO333:=n3_;have HO337:=n4_;have HR323:=n5_;have HB:=n6_;clear n0_ n1_ n2_ n3_ n4_ n5_ n6_;(try clear hb);(try clear hb2);(try clear hk);(try clear hi);(try clear ho0);obtain ⟨Ao47,co47,eo47⟩:=Kd.S_slice HO319.out;subst eo47)|(go_at_call 17;(with_reducible refine (lapidaryref15_Same.calls kj4 _ _ t316 _ _ l0 true _ ?side1 ?side2 ?side3 ?side4 A26.out).mono ?_);(case side1 => repeat (first|exact (Kd.S_reads' HO319.out).2.2|(with_reducible first|refine Kd.C_alloc ?_ _|refine Kd.C_drewN ?_ _|refine Kd.C_drew ?_)));(case side2 => exact (Kd.S_reads' HO319.out).2.1);(case side3 => repeat (first|exact (Kd.C_below HR0.out HB.out)|(with_reducible first|refine Kd.C_alloc ?_ _|refine Kd.C_drewN ?_ _|refine Kd.C_drew ?_)));(case side4 => exact HC0.out);rintro e w' ⟨rfl,⟨nd,rfl⟩⟩))
              go_ret
              exact ⟨by first | rfl | (simp [errW_none,errW_some]<;>rfl) | (simp only [← hji18];first | rfl | (simp [errW_none,errW_some]<;>rfl)) | (simp [*,errW_none,errW_some]<;>rfl),by repeat (first | (with_reducible first | exact HB.out | apply below_alloc | apply pw_below_drewN | apply below_drew1) | exact HB.out)⟩
            ·rw [if_neg c28] at H
             have c28b0 : (t325 == 11) = false:=beq_eq_false_iff_ne.mpr c28
             have c28b1 : (t325 != 11) = true:=bne_iff_ne.mpr c28
             obtain rfl:=Option.some.inj H
             obtain ⟨Ao48,co48,eo48⟩:=Kd.R_slice HO315.out
             subst eo48
             go_wp2_with (first|((with_reducible refine gate_callee (f:=12) rfl ?_);refine goesL_ (some 42) rfl rfl Try.func12 (by kernel_rfl) rfl #[.slice Ao48 t312.length co48] rfl (by (try simp only [List.map_toArray,List.map_cons,List.map_nil]);first|done|rfl|(simp only [List.length_drop,List.length_take];rfl)) ?_;(with_reducible refine (arc_Decode.calls _ _ t312 t316 t317 _ ?side1 ?side2 A17.out).mono ?_);(case side1 => repeat (first|exact (Kd.R_reads' HO315.out).2.2|(with_reducible first|refine Kd.C_alloc ?_ _|refine Kd.C_drewN ?_ _|refine Kd.C_drew ?_)));(case side2 => exact (Kd.R_reads' HO315.out).2.1);rintro e w49 ⟨v318,rfl,ho0,hb⟩;refine ⟨_,rfl,?_⟩;have n0_:=aMx11b (Kd.R_below (by (with_reducible repeat (first|apply Kd.R_alloc|apply Kd.R_drewN|apply Kd.R_drew));exact HO315.out) hb);have n1_:=aMx11b (Kd.S_lower ho0 (below_size (by repeat (with_reducible first|exact HB.out|apply below_alloc|apply pw_below_drewN|apply below_drew1))));have n2_:=aMx11b (below_step (by repeat (with_reducible first|exact HB.out|apply below_alloc|apply pw_below_drewN|apply below_drew1)) hb);clear HO315;clear HB;have HO315:=n0_;have HO319:=n1_;have HB:=n2_;clear n0_ n1_ n2_;(try clear hb);(try clear hb2);(try clear hk);(try clear hi);(try clear ho0);have q50 : ((ji18) : Int) ≤ ((t312.length : Int) : Int):=of_decide_eq_true (by first|(with_reducible assumption)|assumption);obtain ⟨i050,hi050,_,hsz50,_⟩:=info_parts info5;have hroom50 : t312.length ≤ co48:=(Kd.R_reads' HO315.out).2.1;have hC50 : Kd.C (Kd.int .u8) _ Ao48 t312.length t312:=(Kd.R_reads' HO315.out).2.2;have hcut50:=cut_to (P:=Try.prog) 23 5 .i64 Try.underlying23 hi050 Ao48 t312.length co48 (ji18) (of_decide_eq_true (by first|(with_reducible assumption)|assumption)) q50 hroom50;have hr50:=Kd.C_take (m:=((ji18) : Int).toNat) hC50 (by omega);have hy50 : y320.length = ((ji18) : Int).toNat:=(by rw [Ny320.out,List.length_take];omega);rw [← Ny320.out] at hr50;rw [← hy50] at hcut50;have HR323:=aMx11b hr50;have HC323:=aMx11b (show y320.length ≤ co48 from by omega);clear hr50 hC50 hroom50 hi050 hsz50;have KY50:=aMx11b hy50;clear hy50;have KL50:=aMx11b (show ((ji18) : Int).toNat ≤ t312.length from by omega);replace q50:=eq_true q50)|((with_reducible refine gate_callee (f:=12) rfl ?_);refine goesL_ (some 53) rfl rfl Try.func12 (by kernel_rfl) rfl #[.slice Ao48 y320.length co48] rfl (by (try simp only [List.map_toArray,List.map_cons,List.map_nil]);first|done|rfl|(simp only [List.length_drop,List.length_take];rfl)) ?_;(with_reducible refine (arc_Decode.calls _ _ y320 t324 t325 _ ?side1 ?side2 A21.out).mono ?_);(case side1 => repeat (first|exact (by repeat (first|(with_reducible exact HR323.out)|(with_reducible first|refine Kd.C_alloc ?_ _|refine Kd.C_drewN ?_ _|refine Kd.C_drew ?_)|exact HR323.out))|(with_reducible first|refine Kd.C_alloc ?_ _|refine Kd.C_drewN ?_ _|refine Kd.C_drew ?_)));(case side2 => exact HC323.out);rintro e w51 ⟨v326,rfl,ho0,hb⟩;refine ⟨_,rfl,?_⟩;have n0_:=aMx11b (Kd.R_below (by (with_reducible repeat (first|apply Kd.R_alloc|apply Kd.R_drewN|apply Kd.R_drew));exact HO315.out) hb);have n1_:=aMx11b (Kd.S_elder' (by (with_reducible repeat (first|apply Kd.S_alloc|apply Kd.S_drewN|apply Kd.S_drew));exact HO319.out) (Kd.S_base ho0) hb);have n2_:=aMx11b (Kd.S_lower (Kd.S_new' ho0 (Kd.S_lt (by (with_reducible repeat (first|apply Kd.S_alloc|apply Kd.S_drewN|apply Kd.S_drew));exact HO319.out))) (below_size (by repeat (with_reducible first|exact HB.out|apply below_alloc|apply pw_below_drewN|apply below_drew1))));have n3_:=aMx11b (Kd.C_below (by repeat (first|(with_reducible exact HR323.out)|(with_reducible first|refine Kd.C_alloc ?_ _|refine Kd.C_drewN ?_ _|refine Kd.C_drew ?_)|exact HR323.out)) hb);have n4_:=aMx11b (below_step (by repeat (with_reducible first|exact HB.out|apply below_alloc|apply pw_below_drewN|apply below_drew1)) hb);clear HO315;clear HO319;clear HR323;clear HB;have HO315:=n0_;have HO319:=n1_;have HO327:=n2_;have HR323:=n3_;have HB:=n4_;clear n0_ n1_ n2_ n3_ n4_;(try clear hb);(try clear hb2);(try clear hk);(try clear hi);(try clear ho0))|((with_reducible refine gate_callee (f:=18) rfl ?_);refine goesL_ (some 57) rfl rfl Try.func18 (by kernel_rfl) rfl #[.slice Ao48 t312.length co48] rfl (by (try simp only [List.map_toArray,List.map_cons,List.map_nil]);first|done|rfl|(simp only [List.length_drop,List.length_take];rfl)) ?_;(with_reducible refine (lapidaryref00_Copy.calls _ _ t312 t328 _ ?side1 ?side2 A22.out).mono ?_);(case side1 => repeat (first|exact (Kd.R_reads' HO315.out).2.2|(with_reducible first|refine Kd.C_alloc ?_ _|refine Kd.C_drewN ?_ _|refine Kd.C_drew ?_)));(case side2 => exact (Kd.R_reads' HO315.out).2.1);rintro e w52 ⟨v329,rfl,ho0,hb⟩;refine ⟨_,rfl,?_⟩;have n0_:=aMx11b (Kd.R_elder' (by (with_reducible repeat (first|apply Kd.R_alloc|apply Kd.R_drewN|apply Kd.R_drew));exact HO315.out) (Kd.R_base ho0) hb);have n1_:=aMx11b (Kd.S_below (by (with_reducible repeat (first|apply Kd.S_alloc|apply Kd.S_drewN|apply Kd.S_drew));exact HO319.out) hb);have n2_:=aMx11b (Kd.S_below (by (with_reducible repeat (first|apply Kd.S_alloc|apply Kd.S_drewN|apply Kd.S_drew));exact HO327.out) hb);have n3_:=aMx11b (Kd.R_lower (Kd.R_new' ho0 (Kd.R_lt (by (with_reducible repeat (first|apply Kd.R_alloc|apply Kd.R_drewN|apply Kd.R_drew));exact HO315.out))) (below_size (by repeat (with_reducible first|exact HB.out|apply below_alloc|apply pw_below_drewN|apply below_drew1))));have n4_:=aMx11b (Kd.C_below (by repeat (first|(with_reducible exact HR323.out)|(with_reducible first|refine Kd.C_alloc ?_ _|refine Kd.C_drewN ?_ _|refine Kd.C_drew ?_)|exact HR323.out)) hb);have n5_:=aMx11b (below_step (by repeat (with_reducible first|exact HB.out|apply below_alloc|apply pw_below_drewN|apply below_drew1)) hb);clear HO315;clear HO319;clear HO327;clear HR323;clear HB;have HO315:=n0_;have HO319:=n1_;have HO327:=n2_;have HO330:=n3_;have HR323:=n4_;have HB:=n5_;clear n0_ n1_ n2_ n3_ n4_ n5_;(try clear hb);(try clear hb2);(try clear hk);(try clear hi);(try clear ho0))|((with_reducible refine gate_builtin (b:=.append) (xs:=#[.tmp 58,.tmp 60]) rfl ?_);(try (refine gate_guard (by rfl) ?_;dsimp only));at_builtin;refine Kd.R_append (Kd.int .u8) (w0:=w) w.heap.size rfl (.tmp 58) (.tmp 60) 23 5 (.int .u8 0) 1 rfl Try.underlying23 info5 rfl (by decide) (by omega) v329 t328 a3 [.int .u8 a3] (fun k_ => some k_ ≠ (.slice Ao48 t312.length co48 : Value).ownBlock) (fun _ => False) rfl rfl ?aP (fun _ hk => hk.elim) ?aF ?aO ?aB ?aS ?aL ?_;(case aP => exact rfl);(case aB => exact (by repeat (with_reducible first|exact HB.out|apply below_alloc|apply pw_below_drewN|apply below_drew1)));(case aF => exact (fun k_ hk => Kd.fresh' (Kd.R_lt (by (with_reducible repeat (first|apply Kd.R_alloc|apply Kd.R_drewN|apply Kd.R_drew));exact HO315.out)) k_ hk));(case aO => exact (by (with_reducible repeat (first|apply Kd.R_alloc|apply Kd.R_drewN|apply Kd.R_drew));exact Kd.R_mono HO330.out (fun _ hk => hk.2)));(case aS => exact (below_size (by repeat (with_reducible first|exact HB.out|apply below_alloc|apply pw_below_drewN|apply below_drew1))));(case aL => have:=LMc23.out;omega);intro v332 w53 ho hb hg hat;rw [← Ny331.out] at ho;have n0_:=aMx11b (Kd.R_after (ok:=(fun _ => True)) (by (with_reducible repeat (first|apply Kd.R_alloc|apply Kd.R_drewN|apply Kd.R_drew));exact HO315.out) hg hat);have n1_:=aMx11b (Kd.S_over' (by (with_reducible repeat (first|apply Kd.S_alloc|apply Kd.S_drewN|apply Kd.S_drew));exact HO319.out) (Kd.R_typed (by (with_reducible repeat (first|apply Kd.R_alloc|apply Kd.R_drewN|apply Kd.R_drew));exact HO330.out)) (by decide) hg);have n2_:=aMx11b (Kd.S_over' (by (with_reducible repeat (first|apply Kd.S_alloc|apply Kd.S_drewN|apply Kd.S_drew));exact HO327.out) (Kd.R_typed (by (with_reducible repeat (first|apply Kd.R_alloc|apply Kd.R_drewN|apply Kd.R_drew));exact HO330.out)) (by decide) hg);have n3_:=aMx11b (hb);have n4_:=aMx11b ((show Kd.C (Kd.int .u8) w53 Ao48 y320.length y320 from by rw [Ny320.out];exact Kd.C_take (m:=((ji18) : Int).toNat) ((Kd.R_reads' (Kd.R_after (ok:=(fun _ => True)) (by (with_reducible repeat (first|apply Kd.R_alloc|apply Kd.R_drewN|apply Kd.R_drew));exact HO315.out) hg hat)).2.2) KL50.out));have n5_:=aMx11b (ho);clear HO315;clear HO319;clear HO327;clear HB;clear HR323;clear HO330;have HO315:=n0_;have HO319:=n1_;have HO327:=n2_;have HB:=n3_;have HR323:=n4_;have HO333:=n5_;clear n0_ n1_ n2_ n3_ n4_ n5_;clear ho hb hg hat;obtain ⟨Ao54,co54,eo54⟩:=Kd.R_slice HO333.out;subst eo54)|((with_reducible refine gate_callee (f:=12) rfl ?_);refine goesL_ (some 64) rfl rfl Try.func12 (by kernel_rfl) rfl #[.slice Ao54 y331.length co54] rfl (by (try simp only [List.map_toArray,List.map_cons,List.map_nil]);first|done|rfl|(simp only [List.length_drop,List.length_take];rfl)) ?_;(with_reducible refine (arc_Decode.calls _ _ y331 t334 t335 _ ?side1 ?side2 A24.out).mono ?_);(case side1 => repeat (first|exact (Kd.R_reads' HO333.out).2.2|(with_reducible first|refine Kd.C_alloc ?_ _|refine Kd.C_drewN ?_ _|refine Kd.C_drew ?_)));(case side2 => exact (Kd.R_reads' HO333.out).2.1);rintro e w55 ⟨v336,rfl,ho0,hb⟩;refine ⟨_,rfl,?_⟩;have n0_:=aMx11b (Kd.R_below (by (with_reducible repeat (first|apply Kd.R_alloc|apply Kd.R_drewN|apply Kd.R_drew));exact HO315.out) hb);have n1_:=aMx11b (Kd.S_elder' (by (with_reducible repeat (first|apply Kd.S_alloc|apply Kd.S_drewN|apply Kd.S_drew));exact HO319.out) (Kd.S_base ho0) hb);have n2_:=aMx11b (Kd.S_elder' (by (with_reducible repeat (first|apply Kd.S_alloc|apply Kd.S_drewN|apply Kd.S_drew));exact HO327.out) (Kd.S_base ho0) hb);have n3_:=aMx11b (Kd.R_below (by (with_reducible repeat (first|apply Kd.R_alloc|apply Kd.R_drewN|apply Kd.R_drew));exact HO333.out) hb);have n4_:=aMx11b (Kd.S_lower (Kd.S_new' (Kd.S_new' ho0 (Kd.S_lt (by (with_reducible repeat (first|apply Kd.S_alloc|apply Kd.S_drewN|apply Kd.S_drew));exact HO319.out))) (Kd.S_lt (by (with_reducible repeat (first|apply Kd.S_alloc|apply Kd.S_drewN|apply Kd.S_drew));exact HO327.out))) (below_size (by repeat (with_reducible first|exact HB.out|apply below_alloc|apply pw_below_drewN|apply below_drew1))));have n5_:=aMx11b (Kd.C_below (by repeat (first|(with_reducible exact HR323.out)|(with_reducible first|refine Kd.C_alloc ?_ _|refine Kd.C_drewN ?_ _|refine Kd.C_drew ?_)|exact HR323.out)) hb);have n6_:=aMx11b (below_step (by repeat (with_reducible first|exact HB.out|apply below_alloc|apply pw_below_drewN|apply below_drew1)) hb);clear HO315;clear HO319;clear HO327;clear HO333;clear HR323;clear HB;have HO315:=n0_;have HO319:=n1_;have HO327:=n2_;have HO333:=n3_;have HO337:=n4_;have HR323:=n5_;have HB:=n6_;clear n0_ n1_ n2_ n3_ n4_ n5_ n6_;(try clear hb);(try clear hb2);(try clear hk);(try clear hi);(try clear ho0);obtain ⟨Ao56,co56,eo56⟩:=Kd.S_slice HO319.out;subst eo56)|(go_at_call 17;(with_reducible refine (lapidaryref15_Same.calls kj4 _ _ t316 _ _ l0 true _ ?side1 ?side2 ?side3 ?side4 A26.out).mono ?_);(case side1 => repeat (first|exact (Kd.S_reads' HO319.out).2.2|(with_reducible first|refine Kd.C_alloc ?_ _|refine Kd.C_drewN ?_ _|refine Kd.C_drew ?_)));(case side2 => exact (Kd.S_reads' HO319.out).2.1);(case side3 => repeat (first|exact (Kd.C_below HR0.out HB.out)|(with_reducible first|refine Kd.C_alloc ?_ _|refine Kd.C_drewN ?_ _|refine Kd.C_drew ?_)));(case side4 => exact HC0.out);rintro e w' ⟨rfl,⟨nd,rfl⟩⟩))
             go_ret
             exact ⟨by first | rfl | (simp [errW_none,errW_some]<;>rfl) | (simp only [← hji18];first | rfl | (simp [errW_none,errW_some]<;>rfl)) | (simp [*,errW_none,errW_some]<;>rfl),by repeat (first | (with_reducible first | exact HB.out | apply below_alloc | apply pw_below_drewN | apply below_drew1) | exact HB.out)⟩
           ·replace c27:=Bool.eq_false_iff.mpr c27
            subst c27
            have H1 : (some false) = some r:=by rw [if_neg (show ¬ (false = true) by decide)] at H;exact H
            clear H
            have H:=H1
            clear H1
            obtain rfl:=Option.some.inj H
            obtain ⟨Ao57,co57,eo57⟩:=Kd.R_slice HO315.out
            subst eo57
            go_wp2_with (first|((with_reducible refine gate_callee (f:=12) rfl ?_);refine goesL_ (some 42) rfl rfl Try.func12 (by kernel_rfl) rfl #[.slice Ao57 t312.length co57] rfl (by (try simp only [List.map_toArray,List.map_cons,List.map_nil]);first|done|rfl|(simp only [List.length_drop,List.length_take];rfl)) ?_;(with_reducible refine (arc_Decode.calls _ _ t312 t316 t317 _ ?side1 ?side2 A17.out).mono ?_);(case side1 => repeat (first|exact (Kd.R_reads' HO315.out).2.2|(with_reducible first|refine Kd.C_alloc ?_ _|refine Kd.C_drewN ?_ _|refine Kd.C_drew ?_)));(case side2 => exact (Kd.R_reads' HO315.out).2.1);rintro e w58 ⟨v318,rfl,ho0,hb⟩;refine ⟨_,rfl,?_⟩;have n0_:=aMx11b (Kd.R_below (by (with_reducible repeat (first|apply Kd.R_alloc|apply Kd.R_drewN|apply Kd.R_drew));exact HO315.out) hb);have n1_:=aMx11b (Kd.S_lower ho0 (below_size (by repeat (with_reducible first|exact HB.out|apply below_alloc|apply pw_below_drewN|apply below_drew1))));have n2_:=aMx11b (below_step (by repeat (with_reducible first|exact HB.out|apply below_alloc|apply pw_below_drewN|apply below_drew1)) hb);clear HO315;clear HB;have HO315:=n0_;have HO319:=n1_;have HB:=n2_;clear n0_ n1_ n2_;(try clear hb);(try clear hb2);(try clear hk);(try clear hi);(try clear ho0);have q59 : ((ji18) : Int) ≤ ((t312.length : Int) : Int):=of_decide_eq_true (by first|(with_reducible assumption)|assumption);obtain ⟨i059,hi059,_,hsz59,_⟩:=info_parts info5;have hroom59 : t312.length ≤ co57:=(Kd.R_reads' HO315.out).2.1;have hC59 : Kd.C (Kd.int .u8) _ Ao57 t312.length t312:=(Kd.R_reads' HO315.out).2.2;have hcut59:=cut_to (P:=Try.prog) 23 5 .i64 Try.underlying23 hi059 Ao57 t312.length co57 (ji18) (of_decide_eq_true (by first|(with_reducible assumption)|assumption)) q59 hroom59;have hr59:=Kd.C_take (m:=((ji18) : Int).toNat) hC59 (by omega);have hy59 : y320.length = ((ji18) : Int).toNat:=(by rw [Ny320.out,List.length_take];omega);rw [← Ny320.out] at hr59;rw [← hy59] at hcut59;have HR323:=aMx11b hr59;have HC323:=aMx11b (show y320.length ≤ co57 from by omega);clear hr59 hC59 hroom59 hi059 hsz59;have KY59:=aMx11b hy59;clear hy59;have KL59:=aMx11b (show ((ji18) : Int).toNat ≤ t312.length from by omega);replace q59:=eq_true q59)|((with_reducible refine gate_callee (f:=12) rfl ?_);refine goesL_ (some 53) rfl rfl Try.func12 (by kernel_rfl) rfl #[.slice Ao57 y320.length co57] rfl (by (try simp only [List.map_toArray,List.map_cons,List.map_nil]);first|done|rfl|(simp only [List.length_drop,List.length_take];rfl)) ?_;(with_reducible refine (arc_Decode.calls _ _ y320 t324 t325 _ ?side1 ?side2 A21.out).mono ?_);(case side1 => repeat (first|exact (by repeat (first|(with_reducible exact HR323.out)|(with_reducible first|refine Kd.C_alloc ?_ _|refine Kd.C_drewN ?_ _|refine Kd.C_drew ?_)|exact HR323.out))|(with_reducible first|refine Kd.C_alloc ?_ _|refine Kd.C_drewN ?_ _|refine Kd.C_drew ?_)));(case side2 => exact HC323.out);rintro e w60 ⟨v326,rfl,ho0,hb⟩;refine ⟨_,rfl,?_⟩;have n0_:=aMx11b (Kd.R_below (by (with_reducible repeat (first|apply Kd.R_alloc|apply Kd.R_drewN|apply Kd.R_drew));exact HO315.out) hb);have n1_:=aMx11b (Kd.S_elder' (by (with_reducible repeat (first|apply Kd.S_alloc|apply Kd.S_drewN|apply Kd.S_drew));exact HO319.out) (Kd.S_base ho0) hb);have n2_:=aMx11b (Kd.S_lower (Kd.S_new' ho0 (Kd.S_lt (by (with_reducible repeat (first|apply Kd.S_alloc|apply Kd.S_drewN|apply Kd.S_drew));exact HO319.out))) (below_size (by repeat (with_reducible first|exact HB.out|apply below_alloc|apply pw_below_drewN|apply below_drew1))));have n3_:=aMx11b (Kd.C_below (by repeat (first|(with_reducible exact HR323.out)|(with_reducible first|refine Kd.C_alloc ?_ _|refine Kd.C_drewN ?_ _|refine Kd.C_drew ?_)|exact HR323.out)) hb);have n4_:=aMx11b (below_step (by repeat (with_reducible first|exact HB.out|apply below_alloc|apply pw_below_drewN|apply below_drew1)) hb);clear HO315;clear HO319;clear HR323;clear HB;have HO315:=n0_;have HO319:=n1_;have HO327:=n2_;have HR323:=n3_;have HB:=n4_;clear n0_ n1_ n2_ n3_ n4_;(try clear hb);(try clear hb2);(try clear hk);(try clear hi);(try clear ho0))|((with_reducible refine gate_callee (f:=18) rfl ?_);refine goesL_ (some 57) rfl rfl Try.func18 (by kernel_rfl) rfl #[.slice Ao57 t312.length co57] rfl (by (try simp only [List.map_toArray,List.map_cons,List.map_nil]);first|done|rfl|(simp only [List.length_drop,List.length_take];rfl)) ?_;(with_reducible refine (lapidaryref00_Copy.calls _ _ t312 t328 _ ?side1 ?side2 A22.out).mono ?_);(case side1 => repeat (first|exact (Kd.R_reads' HO315.out).2.2|(with_reducible first|refine Kd.C_alloc ?_ _|refine Kd.C_drewN ?_ _|refine Kd.C_drew ?_)));(case side2 => exact (Kd.R_reads' HO315.out).2.1);rintro e w61 ⟨v329,rfl,ho0,hb⟩;refine ⟨_,rfl,?_⟩;have n0_:=aMx11b (Kd.R_elder' (by (with_reducible repeat (first|apply Kd.R_alloc|apply Kd.R_drewN|apply Kd.R_drew));exact HO315.out) (Kd.R_base ho0) hb);have n1_:=aMx11b (Kd.S_below (by (with_reducible repeat (first|apply Kd.S_alloc|apply Kd.S_drewN|apply Kd.S_drew));exact HO319.out) hb);have n2_:=aMx11b (Kd.S_below (by (with_reducible repeat (first|apply Kd.S_alloc|apply Kd.S_drewN|apply Kd.S_drew));exact HO327.out) hb);have n3_:=aMx11b (Kd.R_lower (Kd.R_new' ho0 (Kd.R_lt (by (with_reducible repeat (first|apply Kd.R_alloc|apply Kd.R_drewN|apply Kd.R_drew));exact HO315.out))) (below_size (by repeat (with_reducible first|exact HB.out|apply below_alloc|apply pw_below_drewN|apply below_drew1))));have n4_:=aMx11b (Kd.C_below (by repeat (first|(with_reducible exact HR323.out)|(with_reducible first|refine Kd.C_alloc ?_ _|refine Kd.C_drewN ?_ _|refine Kd.C_drew ?_)|exact HR323.out)) hb);have n5_:=aMx11b (below_step (by repeat (with_reducible first|exact HB.out|apply below_alloc|apply pw_below_drewN|apply below_drew1)) hb);clear HO315;clear HO319;clear HO327;clear HR323;clear HB;have HO315:=n0_;have HO319:=n1_;have HO327:=n2_;have HO330:=n3_;have HR323:=n4_;have HB:=n5_;clear n0_ n1_ n2_ n3_ n4_ n5_;(try clear hb);(try clear hb2);(try clear hk);(try clear hi);(try clear ho0))|((with_reducible refine gate_builtin (b:=.append) (xs:=#[.tmp 58,.tmp 60]) rfl ?_);(try (refine gate_guard (by rfl) ?_;dsimp only));at_builtin;refine Kd.R_append (Kd.int .u8) (w0:=w) w.heap.size rfl (.tmp 58) (.tmp 60) 23 5 (.int .u8 0) 1 rfl Try.underlying23 info5 rfl (by decide) (by omega) v329 t328 a3 [.int .u8 a3] (fun k_ => some k_ ≠ (.slice Ao57 t312.length co57 : Value).ownBlock) (fun _ => False) rfl rfl ?aP (fun _ hk => hk.elim) ?aF ?aO ?aB ?aS ?aL ?_;(case aP => exact rfl);(case aB => exact (by repeat (with_reducible first|exact HB.out|apply below_alloc|apply pw_below_drewN|apply below_drew1)));(case aF => exact (fun k_ hk => Kd.fresh' (Kd.R_lt (by (with_reducible repeat (first|apply Kd.R_alloc|apply Kd.R_drewN|apply Kd.R_drew));exact HO315.out)) k_ hk));(case aO => exact (by (with_reducible repeat (first|apply Kd.R_alloc|apply Kd.R_drewN|apply Kd.R_drew));exact Kd.R_mono HO330.out (fun _ hk => hk.2)));(case aS => exact (below_size (by repeat (with_reducible first|exact HB.out|apply below_alloc|apply pw_below_drewN|apply below_drew1))));(case aL => have:=LMc23.out;omega);intro v332 w62 ho hb hg hat;rw [← Ny331.out] at ho;have n0_:=aMx11b (Kd.R_after (ok:=(fun _ => True)) (by (with_reducible repeat (first|apply Kd.R_alloc|apply Kd.R_drewN|apply Kd.R_drew));exact HO315.out) hg hat);have n1_:=aMx11b (Kd.S_over' (by (with_reducible repeat (first|apply Kd.S_alloc|apply Kd.S_drewN|apply Kd.S_drew));exact HO319.out) (Kd.R_typed (by (with_reducible repeat (first|apply Kd.R_alloc|apply Kd.R_drewN|apply Kd.R_drew));exact HO330.out)) (by decide) hg);have n2_:=aMx11b (Kd.S_over' (by (with_reducible repeat (first|apply Kd.S_alloc|apply Kd.S_drewN|apply Kd.S_drew));exact HO327.out) (Kd.R_typed (by (with_reducible repeat (first|apply Kd.R_alloc|apply Kd.R_drewN|apply Kd.R_drew));exact HO330.out)) (by decide) hg);have n3_:=aMx11b (hb);have n4_:=aMx11b ((show Kd.C (Kd.int .u8) w62 Ao57 y320.length y320 from by rw [Ny320.out];exact Kd.C_take (m:=((ji18) : Int).toNat) ((Kd.R_reads' (Kd.R_after (ok:=(fun _ => True)) (by (with_reducible repeat (first|apply Kd.R_alloc|apply Kd.R_drewN|apply Kd.R_drew));exact HO315.out) hg hat)).2.2) KL59.out));have n5_:=aMx11b (ho);clear HO315;clear HO319;clear HO327;clear HB;clear HR323;clear HO330;have HO315:=n0_;have HO319:=n1_;have HO327:=n2_;have HB:=n3_;have HR323:=n4_;have HO333:=n5_;clear n0_ n1_ n2_ n3_ n4_ n5_;clear ho hb hg hat;obtain ⟨Ao63,co63,eo63⟩:=Kd.R_slice HO333.out;subst eo63)|((with_reducible refine gate_callee (f:=12) rfl ?_);refine goesL_ (some 64) rfl rfl Try.func12 (by kernel_rfl) rfl #[.slice Ao63 y331.length co63] rfl (by (try simp only [List.map_toArray,List.map_cons,List.map_nil]);first|done|rfl|(simp only [List.length_drop,List.length_take];rfl)) ?_;(with_reducible refine (arc_Decode.calls _ _ y331 t334 t335 _ ?side1 ?side2 A24.out).mono ?_);(case side1 => repeat (first|exact (Kd.R_reads' HO333.out).2.2|(with_reducible first|refine Kd.C_alloc ?_ _|refine Kd.C_drewN ?_ _|refine Kd.C_drew ?_)));(case side2 => exact (Kd.R_reads' HO333.out).2.1);rintro e w64 ⟨v336,rfl,ho0,hb⟩;refine ⟨_,rfl,?_⟩;have n0_:=aMx11b (Kd.R_below (by (with_reducible repeat (first|apply Kd.R_alloc|apply Kd.R_drewN|apply Kd.R_drew));exact HO315.out) hb);have n1_:=aMx11b (Kd.S_elder' (by (with_reducible repeat (first|apply Kd.S_alloc|apply Kd.S_drewN|apply Kd.S_drew));exact HO319.out) (Kd.S_base ho0) hb);have n2_:=aMx11b (Kd.S_elder' (by (with_reducible repeat (first|apply Kd.S_alloc|apply Kd.S_drewN|apply Kd.S_drew));exact HO327.out) (Kd.S_base ho0) hb);have n3_:=aMx11b (Kd.R_below (by (with_reducible repeat (first|apply Kd.R_alloc|apply Kd.R_drewN|apply Kd.R_drew));exact HO333.out) hb);have n4_:=aMx11b (Kd.S_lower (Kd.S_new' (Kd.S_new' ho0 (Kd.S_lt (by (with_reducible repeat (first|apply Kd.S_alloc|apply Kd.S_drewN|apply Kd.S_drew));exact HO319.out))) (Kd.S_lt (by (with_reducible repeat (first|apply Kd.S_alloc|apply Kd.S_drewN|apply Kd.S_drew));exact HO327.out))) (below_size (by repeat (with_reducible first|exact HB.out|apply below_alloc|apply pw_below_drewN|apply below_drew1))));have n5_:=aMx11b (Kd.C_below (by repeat (first|(with_reducible exact HR323.out)|(with_reducible first|refine Kd.C_alloc ?_ _|refine Kd.C_drewN ?_ _|refine Kd.C_drew ?_)|exact HR323.out)) hb);have n6_:=aMx11b (below_step (by repeat (with_reducible first|exact HB.out|apply below_alloc|apply pw_below_drewN|apply below_drew1)) hb);clear HO315;clear HO319;clear HO327;clear HO333;clear HR323;clear HB;have HO315:=n0_;have HO319:=n1_;have HO327:=n2_;have HO333:=n3_;have HO337:=n4_;have HR323:=n5_;have HB:=n6_;clear n0_ n1_ n2_ n3_ n4_ n5_ n6_;(try clear hb);(try clear hb2);(try clear hk);(try clear hi);(try clear ho0);obtain ⟨Ao65,co65,eo65⟩:=Kd.S_slice HO319.out;subst eo65)|(go_at_call 17;(with_reducible refine (lapidaryref15_Same.calls kj4 _ _ t316 _ _ l0 false _ ?side1 ?side2 ?side3 ?side4 A26.out).mono ?_);(case side1 => repeat (first|exact (Kd.S_reads' HO319.out).2.2|(with_reducible first|refine Kd.C_alloc ?_ _|refine Kd.C_drewN ?_ _|refine Kd.C_drew ?_)));(case side2 => exact (Kd.S_reads' HO319.out).2.1);(case side3 => repeat (first|exact (Kd.C_below HR0.out HB.out)|(with_reducible first|refine Kd.C_alloc ?_ _|refine Kd.C_drewN ?_ _|refine Kd.C_drew ?_)));(case side4 => exact HC0.out);rintro e w' ⟨rfl,⟨nd,rfl⟩⟩))
            go_ret
            exact ⟨by first | rfl | (simp [errW_none,errW_some]<;>rfl) | (simp only [← hji18];first | rfl | (simp [errW_none,errW_some]<;>rfl)) | (simp [*,errW_none,errW_some]<;>rfl),by repeat (first | (with_reducible first | exact HB.out | apply below_alloc | apply pw_below_drewN | apply below_drew1) | exact HB.out)⟩
          ·rw [if_neg c25] at H
           have c25b0 : (t317 == 0) = false:=beq_eq_false_iff_ne.mpr c25
           have c25b1 : (t317 != 0) = true:=bne_iff_ne.mpr c25
           obtain rfl:=Option.some.inj H
           obtain ⟨Ao66,co66,eo66⟩:=Kd.R_slice HO315.out
           subst eo66
           go_wp2_with (first|((with_reducible refine gate_callee (f:=12) rfl ?_);refine goesL_ (some 42) rfl rfl Try.func12 (by kernel_rfl) rfl #[.slice Ao66 t312.length co66] rfl (by (try simp only [List.map_toArray,List.map_cons,List.map_nil]);first|done|rfl|(simp only [List.length_drop,List.length_take];rfl)) ?_;(with_reducible refine (arc_Decode.calls _ _ t312 t316 t317 _ ?side1 ?side2 A17.out).mono ?_);(case side1 => repeat (first|exact (Kd.R_reads' HO315.out).2.2|(with_reducible first|refine Kd.C_alloc ?_ _|refine Kd.C_drewN ?_ _|refine Kd.C_drew ?_)));(case side2 => exact (Kd.R_reads' HO315.out).2.1);rintro e w67 ⟨v318,rfl,ho0,hb⟩;refine ⟨_,rfl,?_⟩;have n0_:=aMx11b (Kd.R_below (by (with_reducible repeat (first|apply Kd.R_alloc|apply Kd.R_drewN|apply Kd.R_drew));exact HO315.out) hb);have n1_:=aMx11b (Kd.S_lower ho0 (below_size (by repeat (with_reducible first|exact HB.out|apply below_alloc|apply pw_below_drewN|apply below_drew1))));have n2_:=aMx11b (below_step (by repeat (with_reducible first|exact HB.out|apply below_alloc|apply pw_below_drewN|apply below_drew1)) hb);clear HO315;clear HB;have HO315:=n0_;have HO319:=n1_;have HB:=n2_;clear n0_ n1_ n2_;(try clear hb);(try clear hb2);(try clear hk);(try clear hi);(try clear ho0);have q68 : ((ji18) : Int) ≤ ((t312.length : Int) : Int):=of_decide_eq_true (by first|(with_reducible assumption)|assumption);obtain ⟨i068,hi068,_,hsz68,_⟩:=info_parts info5;have hroom68 : t312.length ≤ co66:=(Kd.R_reads' HO315.out).2.1;have hC68 : Kd.C (Kd.int .u8) _ Ao66 t312.length t312:=(Kd.R_reads' HO315.out).2.2;have hcut68:=cut_to (P:=Try.prog) 23 5 .i64 Try.underlying23 hi068 Ao66 t312.length co66 (ji18) (of_decide_eq_true (by first|(with_reducible assumption)|assumption)) q68 hroom68;have hr68:=Kd.C_take (m:=((ji18) : Int).toNat) hC68 (by omega);have hy68 : y320.length = ((ji18) : Int).toNat:=(by rw [Ny320.out,List.length_take];omega);rw [← Ny320.out] at hr68;rw [← hy68] at hcut68;have HR323:=aMx11b hr68;have HC323:=aMx11b (show y320.length ≤ co66 from by omega);clear hr68 hC68 hroom68 hi068 hsz68;have KY68:=aMx11b hy68;clear hy68;have KL68:=aMx11b (show ((ji18) : Int).toNat ≤ t312.length from by omega);replace q68:=eq_true q68)|((with_reducible refine gate_callee (f:=12) rfl ?_);refine goesL_ (some 53) rfl rfl Try.func12 (by kernel_rfl) rfl #[.slice Ao66 y320.length co66] rfl (by (try simp only [List.map_toArray,List.map_cons,List.map_nil]);first|done|rfl|(simp only [List.length_drop,List.length_take];rfl)) ?_;(with_reducible refine (arc_Decode.calls _ _ y320 t324 t325 _ ?side1 ?side2 A21.out).mono ?_);(case side1 => repeat (first|exact (by repeat (first|(with_reducible exact HR323.out)|(with_reducible first|refine Kd.C_alloc ?_ _|refine Kd.C_drewN ?_ _|refine Kd.C_drew ?_)|exact HR323.out))|(with_reducible first|refine Kd.C_alloc ?_ _|refine Kd.C_drewN ?_ _|refine Kd.C_drew ?_)));(case side2 => exact HC323.out);rintro e w69 ⟨v326,rfl,ho0,hb⟩;refine ⟨_,rfl,?_⟩;have n0_:=aMx11b (Kd.R_below (by (with_reducible repeat (first|apply Kd.R_alloc|apply Kd.R_drewN|apply Kd.R_drew));exact HO315.out) hb);have n1_:=aMx11b (Kd.S_elder' (by (with_reducible repeat (first|apply Kd.S_alloc|apply Kd.S_drewN|apply Kd.S_drew));exact HO319.out) (Kd.S_base ho0) hb);have n2_:=aMx11b (Kd.S_lower (Kd.S_new' ho0 (Kd.S_lt (by (with_reducible repeat (first|apply Kd.S_alloc|apply Kd.S_drewN|apply Kd.S_drew));exact HO319.out))) (below_size (by repeat (with_reducible first|exact HB.out|apply below_alloc|apply pw_below_drewN|apply below_drew1))));have n3_:=aMx11b (Kd.C_below (by repeat (first|(with_reducible exact HR323.out)|(with_reducible first|refine Kd.C_alloc ?_ _|refine Kd.C_drewN ?_ _|refine Kd.C_drew ?_)|exact HR323.out)) hb);have n4_:=aMx11b (below_step (by repeat (with_reducible first|exact HB.out|apply below_alloc|apply pw_below_drewN|apply below_drew1)) hb);clear HO315;clear HO319;clear HR323;clear HB;have HO315:=n0_;have HO319:=n1_;have HO327:=n2_;have HR323:=n3_;have HB:=n4_;clear n0_ n1_ n2_ n3_ n4_;(try clear hb);(try clear hb2);(try clear hk);(try clear hi);(try clear ho0))|((with_reducible refine gate_callee (f:=18) rfl ?_);refine goesL_ (some 57) rfl rfl Try.func18 (by kernel_rfl) rfl #[.slice Ao66 t312.length co66] rfl (by (try simp only [List.map_toArray,List.map_cons,List.map_nil]);first|done|rfl|(simp only [List.length_drop,List.length_take];rfl)) ?_;(with_reducible refine (lapidaryref00_Copy.calls _ _ t312 t328 _ ?side1 ?side2 A22.out).mono ?_);(case side1 => repeat (first|exact (Kd.R_reads' HO315.out).2.2|(with_reducible first|refine Kd.C_alloc ?_ _|refine Kd.C_drewN ?_ _|refine Kd.C_drew ?_)));(case side2 => exact (Kd.R_reads' HO315.out).2.1);rintro e w70 ⟨v329,rfl,ho0,hb⟩;refine ⟨_,rfl,?_⟩;have n0_:=aMx11b (Kd.R_elder' (by (with_reducible repeat (first|apply Kd.R_alloc|apply Kd.R_drewN|apply Kd.R_drew));exact HO315.out) (Kd.R_base ho0) hb);have n1_:=aMx11b (Kd.S_below (by (with_reducible repeat (first|apply Kd.S_alloc|apply Kd.S_drewN|apply Kd.S_drew));exact HO319.out) hb);have n2_:=aMx11b (Kd.S_below (by (with_reducible repeat (first|apply Kd.S_alloc|apply Kd.S_drewN|apply Kd.S_drew));exact HO327.out) hb);have n3_:=aMx11b (Kd.R_lower (Kd.R_new' ho0 (Kd.R_lt (by (with_reducible repeat (first|apply Kd.R_alloc|apply Kd.R_drewN|apply Kd.R_drew));exact HO315.out))) (below_size (by repeat (with_reducible first|exact HB.out|apply below_alloc|apply pw_below_drewN|apply below_drew1))));have n4_:=aMx11b (Kd.C_below (by repeat (first|(with_reducible exact HR323.out)|(with_reducible first|refine Kd.C_alloc ?_ _|refine Kd.C_drewN ?_ _|refine Kd.C_drew ?_)|exact HR323.out)) hb);have n5_:=aMx11b (below_step (by repeat (with_reducible first|exact HB.out|apply below_alloc|apply pw_below_drewN|apply below_drew1)) hb);clear HO315;clear HO319;clear HO327;clear HR323;clear HB;have HO315:=n0_;have HO319:=n1_;have HO327:=n2_;have HO330:=n3_;have HR323:=n4_;have HB:=n5_;clear n0_ n1_ n2_ n3_ n4_ n5_;(try clear hb);(try clear hb2);(try clear hk);(try clear hi);(try clear ho0))|((with_reducible refine gate_builtin (b:=.append) (xs:=#[.tmp 58,.tmp 60]) rfl ?_);(try (refine gate_guard (by rfl) ?_;dsimp only));at_builtin;refine Kd.R_append (Kd.int .u8) (w0:=w) w.heap.size rfl (.tmp 58) (.tmp 60) 23 5 (.int .u8 0) 1 rfl Try.underlying23 info5 rfl (by decide) (by omega) v329 t328 a3 [.int .u8 a3] (fun k_ => some k_ ≠ (.slice Ao66 t312.length co66 : Value).ownBlock) (fun _ => False) rfl rfl ?aP (fun _ hk => hk.elim) ?aF ?aO ?aB ?aS ?aL ?_;(case aP => exact rfl);(case aB => exact (by repeat (with_reducible first|exact HB.out|apply below_alloc|apply pw_below_drewN|apply below_drew1)));(case aF => exact (fun k_ hk => Kd.fresh' (Kd.R_lt (by (with_reducible repeat (first|apply Kd.R_alloc|apply Kd.R_drewN|apply Kd.R_drew));exact HO315.out)) k_ hk));(case aO => exact (by (with_reducible repeat (first|apply Kd.R_alloc|apply Kd.R_drewN|apply Kd.R_drew));exact Kd.R_mono HO330.out (fun _ hk => hk.2)));(case aS => exact (below_size (by repeat (with_reducible first|exact HB.out|apply below_alloc|apply pw_below_drewN|apply below_drew1))));(case aL => have:=LMc23.out;omega);intro v332 w71 ho hb hg hat;rw [← Ny331.out] at ho;have n0_:=aMx11b (Kd.R_after (ok:=(fun _ => True)) (by (with_reducible repeat (first|apply Kd.R_alloc|apply Kd.R_drewN|apply Kd.R_drew));exact HO315.out) hg hat);have n1_:=aMx11b (Kd.S_over' (by (with_reducible repeat (first|apply Kd.S_alloc|apply Kd.S_drewN|apply Kd.S_drew));exact HO319.out) (Kd.R_typed (by (with_reducible repeat (first|apply Kd.R_alloc|apply Kd.R_drewN|apply Kd.R_drew));exact HO330.out)) (by decide) hg);have n2_:=aMx11b (Kd.S_over' (by (with_reducible repeat (first|apply Kd.S_alloc|apply Kd.S_drewN|apply Kd.S_drew));exact HO327.out) (Kd.R_typed (by (with_reducible repeat (first|apply Kd.R_alloc|apply Kd.R_drewN|apply Kd.R_drew));exact HO330.out)) (by decide) hg);have n3_:=aMx11b (hb);have n4_:=aMx11b ((show Kd.C (Kd.int .u8) w71 Ao66 y320.length y320 from by rw [Ny320.out];exact Kd.C_take (m:=((ji18) : Int).toNat) ((Kd.R_reads' (Kd.R_after (ok:=(fun _ => True)) (by (with_reducible repeat (first|apply Kd.R_alloc|apply Kd.R_drewN|apply Kd.R_drew));exact HO315.out) hg hat)).2.2) KL68.out));have n5_:=aMx11b (ho);clear HO315;clear HO319;clear HO327;clear HB;clear HR323;clear HO330;have HO315:=n0_;have HO319:=n1_;have HO327:=n2_;have HB:=n3_;have HR323:=n4_;have HO333:=n5_;clear n0_ n1_ n2_ n3_ n4_ n5_;clear ho hb hg hat;obtain ⟨Ao72,co72,eo72⟩:=Kd.R_slice HO333.out;subst eo72)|((with_reducible refine gate_callee (f:=12) rfl ?_);refine goesL_ (some 64) rfl rfl Try.func12 (by kernel_rfl) rfl #[.slice Ao72 y331.length co72] rfl (by (try simp only [List.map_toArray,List.map_cons,List.map_nil]);first|done|rfl|(simp only [List.length_drop,List.length_take];rfl)) ?_;(with_reducible refine (arc_Decode.calls _ _ y331 t334 t335 _ ?side1 ?side2 A24.out).mono ?_);(case side1 => repeat (first|exact (Kd.R_reads' HO333.out).2.2|(with_reducible first|refine Kd.C_alloc ?_ _|refine Kd.C_drewN ?_ _|refine Kd.C_drew ?_)));(case side2 => exact (Kd.R_reads' HO333.out).2.1);rintro e w73 ⟨v336,rfl,ho0,hb⟩;refine ⟨_,rfl,?_⟩;have n0_:=aMx11b (Kd.R_below (by (with_reducible repeat (first|apply Kd.R_alloc|apply Kd.R_drewN|apply Kd.R_drew));exact HO315.out) hb);have n1_:=aMx11b (Kd.S_elder' (by (with_reducible repeat (first|apply Kd.S_alloc|apply Kd.S_drewN|apply Kd.S_drew));exact HO319.out) (Kd.S_base ho0) hb);have n2_:=aMx11b (Kd.S_elder' (by (with_reducible repeat (first|apply Kd.S_alloc|apply Kd.S_drewN|apply Kd.S_drew));exact HO327.out) (Kd.S_base ho0) hb);have n3_:=aMx11b (Kd.R_below (by (with_reducible repeat (first|apply Kd.R_alloc|apply Kd.R_drewN|apply Kd.R_drew));exact HO333.out) hb);have n4_:=aMx11b (Kd.S_lower (Kd.S_new' (Kd.S_new' ho0 (Kd.S_lt (by (with_reducible repeat (first|apply Kd.S_alloc|apply Kd.S_drewN|apply Kd.S_drew));exact HO319.out))) (Kd.S_lt (by (with_reducible repeat (first|apply Kd.S_alloc|apply Kd.S_drewN|apply Kd.S_drew));exact HO327.out))) (below_size (by repeat (with_reducible first|exact HB.out|apply below_alloc|apply pw_below_drewN|apply below_drew1))));have n5_:=aMx11b (Kd.C_below (by repeat (first|(with_reducible exact HR323.out)|(with_reducible first|refine Kd.C_alloc ?_ _|refine Kd.C_drewN ?_ _|refine Kd.C_drew ?_)|exact HR323.out)) hb);have n6_:=aMx11b (below_step (by repeat (with_reducible first|exact HB.out|apply below_alloc|apply pw_below_drewN|apply below_drew1)) hb);clear HO315;clear HO319;clear HO327;clear HO333;clear HR323;clear HB;have HO315:=n0_;have HO319:=n1_;have HO327:=n2_;have HO333:=n3_;have HO337:=n4_;have HR323:=n5_;have HB:=n6_;clear n0_ n1_ n2_ n3_ n4_ n5_ n6_;(try clear hb);(try clear hb2);(try clear hk);(try clear hi);(try clear ho0)))
           go_ret
           exact ⟨by first | rfl | (simp [errW_none,errW_some]<;>rfl) | (simp only [← hji18];first | rfl | (simp [errW_none,errW_some]<;>rfl)) | (simp [*,errW_none,errW_some]<;>rfl),by repeat (first | (with_reducible first | exact HB.out | apply below_alloc | apply pw_below_drewN | apply below_drew1) | exact HB.out)⟩
         ·rw [if_neg c23] at H
          exact absurd H (by simp)
        ·rw [if_neg c20] at H
         exact absurd H (by simp)
       ·rw [if_neg c19] at H
        exact absurd H (by simp)
     ·rw [if_neg c14] at H
      have c14b0 : (t313 == 0) = false:=beq_eq_false_iff_ne.mpr c14
      have c14b1 : (t313 != 0) = true:=bne_iff_ne.mpr c14
      (first | rw [c14b0] | (simp only [i64_w,i32_w];rw [c14b0]) | skip)
      have H':=aMx11b H
      clear H
      go_wp2
      go_meet
      case rel => exact ⟨_,H',⟨by have:=HJ4.out;first | omega | exact Nat.le_refl _⟩,⟨by repeat (first | (with_reducible first | exact HB.out | apply below_alloc | apply pw_below_drewN | apply below_drew1) | exact HB.out)⟩⟩
    case rest =>
     clear HC12
     try clear c1
     try clear c2
     try clear p2
     try clear q3
     try clear c4
     try clear q4
     try clear q5
     try clear p6
     try clear q6
     try clear c7
     try clear c8
     try clear c9
     try clear c10
     try clear c12
     try clear c14
     try clear c14b0
     try clear c14b1
     try clear c15
     try clear c15b0
     try clear c15b1
     try clear c15b2
     try clear c18
     try clear c19
     try clear c19b0
     try clear c19b1
     try clear c20
     try clear c20b0
     try clear c20b1
     try clear c23
     try clear c25
     try clear c25b0
     try clear c25b1
     try clear c27
     try clear c28
     try clear c28b0
     try clear c28b1
     try clear c29
     try clear c29b0
     try clear c29b1
     try clear q32
     try clear q41
     try clear q50
     try clear q59
     try clear p64
     try clear q68
     try clear p2
     try clear q32
     try clear q41
     try clear q50
     try clear q59
     try clear q68
     obtain ⟨kq,HA,HJ11,HB⟩:=hcut
     cases kq with
     | zero => exact absurd HA.out (by simp [lapidarylaw15_ArcBack.j1])
     | succ kj11 =>
      have H:=HA.out
      clear HA
      simp only [lapidarylaw15_ArcBack.j1] at H
      replace H:=Option.bind_eq_some_iff.mp H
      obtain ⟨⟨t339,t340⟩,A740,H⟩:=H
      replace H : (if t340 = 0 then ((arc_Encode.f kj11 t339).bind fun bt343 => (if bt343.2 = 0 then ((lapidaryref00_Same.f bt343.1 l1).bind fun t347 => (if t347 = true then ((lapidarylaw15_known.f kj11).bind fun t348 => (some t348)) else (some false))) else (some false))) else (if (t339.length : Int) = 0 then ((lapidarylaw15_known.f kj11).bind fun t349 => (some t349)) else (some false))) = some r:=H
      have A74:=aMx11b A740
      clear A740
      by_cases c75 : t340 = 0
      ·rw [if_pos c75] at H
       have c75b0 : (t340 == 0) = true:=beq_iff_eq.mpr c75
       have c75b1 : (t340 != 0) = false:=bne_eq_false_iff_eq.mpr c75
       clear c75
       replace H:=Option.bind_eq_some_iff.mp H
       obtain ⟨⟨t343,t344⟩,A760,H⟩:=H
       replace H : (if t344 = 0 then ((lapidaryref00_Same.f t343 l1).bind fun t347 => (if t347 = true then ((lapidarylaw15_known.f kj11).bind fun t348 => (some t348)) else (some false))) else (some false)) = some r:=H
       have A76:=aMx11b A760
       clear A760
       by_cases c77 : t344 = 0
       ·rw [if_pos c77] at H
        have c77b0 : (t344 == 0) = true:=beq_iff_eq.mpr c77
        have c77b1 : (t344 != 0) = false:=bne_eq_false_iff_eq.mpr c77
        clear c77
        replace H:=Option.bind_eq_some_iff.mp H
        obtain ⟨t347,A780,H⟩:=H
        replace H : (if t347 = true then ((lapidarylaw15_known.f kj11).bind fun t348 => (some t348)) else (some false)) = some r:=H
        have A78:=aMx11b A780
        clear A780
        by_cases c79 : t347 = true
        ·subst c79
         have H1 : ((lapidarylaw15_known.f kj11).bind fun t348 => (some t348)) = some r:=by rw [if_pos rfl] at H;exact H
         clear H
         have H:=H1
         clear H1
         replace H:=Option.bind_eq_some_iff.mp H
         obtain ⟨t348,A800,H⟩:=H
         replace H : (some t348) = some r:=H
         have A80:=aMx11b A800
         clear A800
         obtain rfl:=Option.some.inj H
         go_wp2_with (first|((with_reducible refine gate_callee (f:=12) rfl ?_);refine goesL_ (some 85) rfl rfl Try.func12 (by kernel_rfl) rfl #[.slice A1 l1.length c1] rfl (by (try simp only [List.map_toArray,List.map_cons,List.map_nil]);first|done|rfl|(simp only [List.length_drop,List.length_take];rfl)) ?_;(with_reducible refine (arc_Decode.calls _ _ l1 t339 t340 _ ?side1 ?side2 A74.out).mono ?_);(case side1 => repeat (first|exact (Kd.C_below HR1.out HB.out)|(with_reducible first|refine Kd.C_alloc ?_ _|refine Kd.C_drewN ?_ _|refine Kd.C_drew ?_)));(case side2 => exact HC1.out);rintro e w81 ⟨v341,rfl,ho0,hb⟩;refine ⟨_,rfl,?_⟩;have n0_:=aMx11b (Kd.S_lower ho0 (below_size (by repeat (with_reducible first|exact HB.out|apply below_alloc|apply pw_below_drewN|apply below_drew1))));have n1_:=aMx11b (below_step (by repeat (with_reducible first|exact HB.out|apply below_alloc|apply pw_below_drewN|apply below_drew1)) hb);clear HB;have HO342:=n0_;have HB:=n1_;clear n0_ n1_;(try clear hb);(try clear hb2);(try clear hk);(try clear hi);(try clear ho0);obtain ⟨Ao82,co82,eo82⟩:=Kd.S_slice HO342.out;subst eo82)|((with_reducible refine gate_callee (f:=10) rfl ?_);refine goesL_ (some 98) rfl rfl Try.func10 (by kernel_rfl) rfl #[.slice Ao82 t339.length co82] rfl (by (try simp only [List.map_toArray,List.map_cons,List.map_nil]);first|done|rfl|(simp only [List.length_drop,List.length_take];rfl)) ?_;(with_reducible refine (arc_Encode.calls kj11 _ _ t339 t343 t344 _ ?side1 ?side2 A76.out).mono ?_);(case side1 => repeat (first|exact (Kd.S_reads' HO342.out).2.2|(with_reducible first|refine Kd.C_alloc ?_ _|refine Kd.C_drewN ?_ _|refine Kd.C_drew ?_)));(case side2 => exact (Kd.S_reads' HO342.out).2.1);rintro e w83 ⟨v345,rfl,ho0,hb⟩;refine ⟨_,rfl,?_⟩;have n0_:=aMx11b (Kd.S_below (by (with_reducible repeat (first|apply Kd.S_alloc|apply Kd.S_drewN|apply Kd.S_drew));exact HO342.out) hb);have n1_:=aMx11b (Kd.R_lower ho0 (below_size (by repeat (with_reducible first|exact HB.out|apply below_alloc|apply pw_below_drewN|apply below_drew1))));have n2_:=aMx11b (below_step (by repeat (with_reducible first|exact HB.out|apply below_alloc|apply pw_below_drewN|apply below_drew1)) hb);clear HO342;clear HB;have HO342:=n0_;have HO346:=n1_;have HB:=n2_;clear n0_ n1_ n2_;(try clear hb);(try clear hb2);(try clear hk);(try clear hi);(try clear ho0);obtain ⟨Ao84,co84,eo84⟩:=Kd.R_slice HO346.out;subst eo84)|(go_at_call 14;(with_reducible refine (lapidaryref00_Same.calls _ _ t343 _ _ l1 true _ ?side1 ?side2 ?side3 ?side4 A78.out).mono ?_);(case side1 => repeat (first|exact (Kd.R_reads' HO346.out).2.2|(with_reducible first|refine Kd.C_alloc ?_ _|refine Kd.C_drewN ?_ _|refine Kd.C_drew ?_)));(case side2 => exact (Kd.R_reads' HO346.out).2.1);(case side3 => repeat (first|exact (Kd.C_below HR1.out HB.out)|(with_reducible first|refine Kd.C_alloc ?_ _|refine Kd.C_drewN ?_ _|refine Kd.C_drew ?_)));(case side4 => exact HC1.out);rintro e w' ⟨rfl,⟨nd,rfl⟩⟩)|(go_at_call 9;(with_reducible refine (lapidarylaw15_known.calls kj11  t348 _ A80.out).mono ?_);rintro e w85 ⟨rfl,hb⟩;have n0_:=aMx11b (Kd.S_below (by (with_reducible repeat (first|apply Kd.S_alloc|apply Kd.S_drewN|apply Kd.S_drew));exact HO342.out) hb);have n1_:=aMx11b (Kd.R_below (by (with_reducible repeat (first|apply Kd.R_alloc|apply Kd.R_drewN|apply Kd.R_drew));exact HO346.out) hb);have n2_:=aMx11b (below_step (by repeat (with_reducible first|exact HB.out|apply below_alloc|apply pw_below_drewN|apply below_drew1)) hb);clear HO342;clear HO346;clear HB;have HO342:=n0_;have HO346:=n1_;have HB:=n2_;clear n0_ n1_ n2_;(try clear hb);(try clear hb2);(try clear hk);(try clear hi)))
         go_ret
         exact ⟨by first | rfl | (simp [errW_none,errW_some]<;>rfl) | (simp [*,errW_none,errW_some]<;>rfl),by repeat (first | (with_reducible first | exact HB.out | apply below_alloc | apply pw_below_drewN | apply below_drew1) | exact HB.out)⟩
        ·replace c79:=Bool.eq_false_iff.mpr c79
         subst c79
         have H1 : (some false) = some r:=by rw [if_neg (show ¬ (false = true) by decide)] at H;exact H
         clear H
         have H:=H1
         clear H1
         obtain rfl:=Option.some.inj H
         go_wp2_with (first|((with_reducible refine gate_callee (f:=12) rfl ?_);refine goesL_ (some 85) rfl rfl Try.func12 (by kernel_rfl) rfl #[.slice A1 l1.length c1] rfl (by (try simp only [List.map_toArray,List.map_cons,List.map_nil]);first|done|rfl|(simp only [List.length_drop,List.length_take];rfl)) ?_;(with_reducible refine (arc_Decode.calls _ _ l1 t339 t340 _ ?side1 ?side2 A74.out).mono ?_);(case side1 => repeat (first|exact (Kd.C_below HR1.out HB.out)|(with_reducible first|refine Kd.C_alloc ?_ _|refine Kd.C_drewN ?_ _|refine Kd.C_drew ?_)));(case side2 => exact HC1.out);rintro e w86 ⟨v341,rfl,ho0,hb⟩;refine ⟨_,rfl,?_⟩;have n0_:=aMx11b (Kd.S_lower ho0 (below_size (by repeat (with_reducible first|exact HB.out|apply below_alloc|apply pw_below_drewN|apply below_drew1))));have n1_:=aMx11b (below_step (by repeat (with_reducible first|exact HB.out|apply below_alloc|apply pw_below_drewN|apply below_drew1)) hb);clear HB;have HO342:=n0_;have HB:=n1_;clear n0_ n1_;(try clear hb);(try clear hb2);(try clear hk);(try clear hi);(try clear ho0);obtain ⟨Ao87,co87,eo87⟩:=Kd.S_slice HO342.out;subst eo87)|((with_reducible refine gate_callee (f:=10) rfl ?_);refine goesL_ (some 98) rfl rfl Try.func10 (by kernel_rfl) rfl #[.slice Ao87 t339.length co87] rfl (by (try simp only [List.map_toArray,List.map_cons,List.map_nil]);first|done|rfl|(simp only [List.length_drop,List.length_take];rfl)) ?_;(with_reducible refine (arc_Encode.calls kj11 _ _ t339 t343 t344 _ ?side1 ?side2 A76.out).mono ?_);(case side1 => repeat (first|exact (Kd.S_reads' HO342.out).2.2|(with_reducible first|refine Kd.C_alloc ?_ _|refine Kd.C_drewN ?_ _|refine Kd.C_drew ?_)));(case side2 => exact (Kd.S_reads' HO342.out).2.1);rintro e w88 ⟨v345,rfl,ho0,hb⟩;refine ⟨_,rfl,?_⟩;have n0_:=aMx11b (Kd.S_below (by (with_reducible repeat (first|apply Kd.S_alloc|apply Kd.S_drewN|apply Kd.S_drew));exact HO342.out) hb);have n1_:=aMx11b (Kd.R_lower ho0 (below_size (by repeat (with_reducible first|exact HB.out|apply below_alloc|apply pw_below_drewN|apply below_drew1))));have n2_:=aMx11b (below_step (by repeat (with_reducible first|exact HB.out|apply below_alloc|apply pw_below_drewN|apply below_drew1)) hb);clear HO342;clear HB;have HO342:=n0_;have HO346:=n1_;have HB:=n2_;clear n0_ n1_ n2_;(try clear hb);(try clear hb2);(try clear hk);(try clear hi);(try clear ho0);obtain ⟨Ao89,co89,eo89⟩:=Kd.R_slice HO346.out;subst eo89)|(go_at_call 14;(with_reducible refine (lapidaryref00_Same.calls _ _ t343 _ _ l1 false _ ?side1 ?side2 ?side3 ?side4 A78.out).mono ?_);(case side1 => repeat (first|exact (Kd.R_reads' HO346.out).2.2|(with_reducible first|refine Kd.C_alloc ?_ _|refine Kd.C_drewN ?_ _|refine Kd.C_drew ?_)));(case side2 => exact (Kd.R_reads' HO346.out).2.1);(case side3 => repeat (first|exact (Kd.C_below HR1.out HB.out)|(with_reducible first|refine Kd.C_alloc ?_ _|refine Kd.C_drewN ?_ _|refine Kd.C_drew ?_)));(case side4 => exact HC1.out);rintro e w' ⟨rfl,⟨nd,rfl⟩⟩))
         go_ret
         exact ⟨by first | rfl | (simp [errW_none,errW_some]<;>rfl) | (simp [*,errW_none,errW_some]<;>rfl),by repeat (first | (with_reducible first | exact HB.out | apply below_alloc | apply pw_below_drewN | apply below_drew1) | exact HB.out)⟩
       ·rw [if_neg c77] at H
        have c77b0 : (t344 == 0) = false:=beq_eq_false_iff_ne.mpr c77
        have c77b1 : (t344 != 0) = true:=bne_iff_ne.mpr c77
        obtain rfl:=Option.some.inj H
        go_wp2_with (first|((with_reducible refine gate_callee (f:=12) rfl ?_);refine goesL_ (some 85) rfl rfl Try.func12 (by kernel_rfl) rfl #[.slice A1 l1.length c1] rfl (by (try simp only [List.map_toArray,List.map_cons,List.map_nil]);first|done|rfl|(simp only [List.length_drop,List.length_take];rfl)) ?_;(with_reducible refine (arc_Decode.calls _ _ l1 t339 t340 _ ?side1 ?side2 A74.out).mono ?_);(case side1 => repeat (first|exact (Kd.C_below HR1.out HB.out)|(with_reducible first|refine Kd.C_alloc ?_ _|refine Kd.C_drewN ?_ _|refine Kd.C_drew ?_)));(case side2 => exact HC1.out);rintro e w90 ⟨v341,rfl,ho0,hb⟩;refine ⟨_,rfl,?_⟩;have n0_:=aMx11b (Kd.S_lower ho0 (below_size (by repeat (with_reducible first|exact HB.out|apply below_alloc|apply pw_below_drewN|apply below_drew1))));have n1_:=aMx11b (below_step (by repeat (with_reducible first|exact HB.out|apply below_alloc|apply pw_below_drewN|apply below_drew1)) hb);clear HB;have HO342:=n0_;have HB:=n1_;clear n0_ n1_;(try clear hb);(try clear hb2);(try clear hk);(try clear hi);(try clear ho0);obtain ⟨Ao91,co91,eo91⟩:=Kd.S_slice HO342.out;subst eo91)|((with_reducible refine gate_callee (f:=10) rfl ?_);refine goesL_ (some 98) rfl rfl Try.func10 (by kernel_rfl) rfl #[.slice Ao91 t339.length co91] rfl (by (try simp only [List.map_toArray,List.map_cons,List.map_nil]);first|done|rfl|(simp only [List.length_drop,List.length_take];rfl)) ?_;(with_reducible refine (arc_Encode.calls kj11 _ _ t339 t343 t344 _ ?side1 ?side2 A76.out).mono ?_);(case side1 => repeat (first|exact (Kd.S_reads' HO342.out).2.2|(with_reducible first|refine Kd.C_alloc ?_ _|refine Kd.C_drewN ?_ _|refine Kd.C_drew ?_)));(case side2 => exact (Kd.S_reads' HO342.out).2.1);rintro e w92 ⟨v345,rfl,ho0,hb⟩;refine ⟨_,rfl,?_⟩;have n0_:=aMx11b (Kd.S_below (by (with_reducible repeat (first|apply Kd.S_alloc|apply Kd.S_drewN|apply Kd.S_drew));exact HO342.out) hb);have n1_:=aMx11b (Kd.R_lower ho0 (below_size (by repeat (with_reducible first|exact HB.out|apply below_alloc|apply pw_below_drewN|apply below_drew1))));have n2_:=aMx11b (below_step (by repeat (with_reducible first|exact HB.out|apply below_alloc|apply pw_below_drewN|apply below_drew1)) hb);clear HO342;clear HB;have HO342:=n0_;have HO346:=n1_;have HB:=n2_;clear n0_ n1_ n2_;(try clear hb);(try clear hb2);(try clear hk);(try clear hi);(try clear ho0)))
        go_ret
        exact ⟨by first | rfl | (simp [errW_none,errW_some]<;>rfl) | (simp [*,errW_none,errW_some]<;>rfl),by repeat (first | (with_reducible first | exact HB.out | apply below_alloc | apply pw_below_drewN | apply below_drew1) | exact HB.out)⟩
      ·rw [if_neg c75] at H
       have c75b0 : (t340 == 0) = false:=beq_eq_false_iff_ne.mpr c75
       have c75b1 : (t340 != 0) = true:=bne_iff_ne.mpr c75
       by_cases c93 : (t339.length : Int) = 0
       ·rw [if_pos c93] at H
        have c93b0 : ((t339.length : Int) == 0) = true:=beq_iff_eq.mpr c93
        have c93b1 : ((t339.length : Int) != 0) = false:=bne_eq_false_iff_eq.mpr c93
        clear c93
        replace H:=Option.bind_eq_some_iff.mp H
        obtain ⟨t349,A940,H⟩:=H
        replace H : (some t349) = some r:=H
        have A94:=aMx11b A940
        clear A940
        obtain rfl:=Option.some.inj H
        go_wp2_with (first|((with_reducible refine gate_callee (f:=12) rfl ?_);refine goesL_ (some 85) rfl rfl Try.func12 (by kernel_rfl) rfl #[.slice A1 l1.length c1] rfl (by (try simp only [List.map_toArray,List.map_cons,List.map_nil]);first|done|rfl|(simp only [List.length_drop,List.length_take];rfl)) ?_;(with_reducible refine (arc_Decode.calls _ _ l1 t339 t340 _ ?side1 ?side2 A74.out).mono ?_);(case side1 => repeat (first|exact (Kd.C_below HR1.out HB.out)|(with_reducible first|refine Kd.C_alloc ?_ _|refine Kd.C_drewN ?_ _|refine Kd.C_drew ?_)));(case side2 => exact HC1.out);rintro e w95 ⟨v341,rfl,ho0,hb⟩;refine ⟨_,rfl,?_⟩;have n0_:=aMx11b (Kd.S_lower ho0 (below_size (by repeat (with_reducible first|exact HB.out|apply below_alloc|apply pw_below_drewN|apply below_drew1))));have n1_:=aMx11b (below_step (by repeat (with_reducible first|exact HB.out|apply below_alloc|apply pw_below_drewN|apply below_drew1)) hb);clear HB;have HO342:=n0_;have HB:=n1_;clear n0_ n1_;(try clear hb);(try clear hb2);(try clear hk);(try clear hi);(try clear ho0);obtain ⟨Ao96,co96,eo96⟩:=Kd.S_slice HO342.out;subst eo96)|(go_at_call 9;(with_reducible refine (lapidarylaw15_known.calls kj11  t349 _ A94.out).mono ?_);rintro e w97 ⟨rfl,hb⟩;have n0_:=aMx11b (Kd.S_below (by (with_reducible repeat (first|apply Kd.S_alloc|apply Kd.S_drewN|apply Kd.S_drew));exact HO342.out) hb);have n1_:=aMx11b (below_step (by repeat (with_reducible first|exact HB.out|apply below_alloc|apply pw_below_drewN|apply below_drew1)) hb);clear HO342;clear HB;have HO342:=n0_;have HB:=n1_;clear n0_ n1_;(try clear hb);(try clear hb2);(try clear hk);(try clear hi)))
        go_ret
        exact ⟨by first | rfl | (simp [errW_none,errW_some]<;>rfl) | (simp [*,errW_none,errW_some]<;>rfl),by repeat (first | (with_reducible first | exact HB.out | apply below_alloc | apply pw_below_drewN | apply below_drew1) | exact HB.out)⟩
       ·rw [if_neg c93] at H
        have c93b0 : ((t339.length : Int) == 0) = false:=beq_eq_false_iff_ne.mpr c93
        have c93b1 : ((t339.length : Int) != 0) = true:=bne_iff_ne.mpr c93
        have c93b2 : ¬ (t339 = []):=fun h_ => c93 (by rw [h_];rfl)
        obtain rfl:=Option.some.inj H
        go_wp2_with (first|((with_reducible refine gate_callee (f:=12) rfl ?_);refine goesL_ (some 85) rfl rfl Try.func12 (by kernel_rfl) rfl #[.slice A1 l1.length c1] rfl (by (try simp only [List.map_toArray,List.map_cons,List.map_nil]);first|done|rfl|(simp only [List.length_drop,List.length_take];rfl)) ?_;(with_reducible refine (arc_Decode.calls _ _ l1 t339 t340 _ ?side1 ?side2 A74.out).mono ?_);(case side1 => repeat (first|exact (Kd.C_below HR1.out HB.out)|(with_reducible first|refine Kd.C_alloc ?_ _|refine Kd.C_drewN ?_ _|refine Kd.C_drew ?_)));(case side2 => exact HC1.out);rintro e w98 ⟨v341,rfl,ho0,hb⟩;refine ⟨_,rfl,?_⟩;have n0_:=aMx11b (Kd.S_lower ho0 (below_size (by repeat (with_reducible first|exact HB.out|apply below_alloc|apply pw_below_drewN|apply below_drew1))));have n1_:=aMx11b (below_step (by repeat (with_reducible first|exact HB.out|apply below_alloc|apply pw_below_drewN|apply below_drew1)) hb);clear HB;have HO342:=n0_;have HB:=n1_;clear n0_ n1_;(try clear hb);(try clear hb2);(try clear hk);(try clear hi);(try clear ho0);obtain ⟨Ao99,co99,eo99⟩:=Kd.S_slice HO342.out;subst eo99))
        go_ret
        exact ⟨by first | rfl | (simp [errW_none,errW_some]<;>rfl) | (simp [*,errW_none,errW_some]<;>rfl),by repeat (first | (with_reducible first | exact HB.out | apply below_alloc | apply pw_below_drewN | apply below_drew1) | exact HB.out)⟩

end Go.Proofs.Ytmfeokapjmpjfaa.PArc
