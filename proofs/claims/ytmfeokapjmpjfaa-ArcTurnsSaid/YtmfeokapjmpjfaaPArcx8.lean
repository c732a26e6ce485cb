-- Written for this claim by a program of this session.
import Derived.Test.YtmfeokapjmpjfaaPArcx0
import Derived.Test.YtmfeokapjmpjfaaPArcx7
namespace Go.Proofs.Ytmfeokapjmpjfaa.PArc
open Go.RowKit Go.Proofs.YtmfeokapjmpjfaaW.PrintWords Go.Proofs.YtmfeokapjmpjfaaW.PrintLast Go.Proofs.YtmfeokapjmpjfaaW.PrintMore
attribute [local go_sem] max2_int min2_int max_two min_two max_three min_three max_four min_four   -- for this text's walks alone
set_option linter.unusedVariables false
set_option linter.unusedSimpArgs false

theorem sAx8 {α : Type _} {l : List α} {i : Nat} {a : α} : l.toArray.setIfInBounds i a = (l.set i a).toArray := List.setIfInBounds_toArray ..
theorem sBx8 {α : Type _} {x y : α} {l : List α} : (x :: l).set 0 y = y :: l := rfl
theorem sCx8 {α : Type _} {x y : α} {l : List α} {i : Nat} : (x :: l).set (i + 1) y = x :: l.set i y := rfl
theorem aMx8 {p : Prop} (h : p) : Aside0 p := ⟨h⟩
/-! ### lapidaryref01_PutInt: function 25 -/
def lapidaryref01_PutInt.f (k : Nat) (a0 : Int) : Option (List Int) := (lapidaryref01_Zig.f a0).bind fun t214 => ((lapidaryref01_Put.f k t214).bind fun t215 => (some t215))
theorem lapidaryref01_PutInt.mono : ∀ a0 k, LeO (lapidaryref01_PutInt.f k a0) (lapidaryref01_PutInt.f (k + 1) a0) := by
  intro a0 k
  unfold lapidaryref01_PutInt.f
  repeat' first
      | (with_reducible exact lapidaryref01_Put.mono _ _)
      | (with_reducible exact LeO.refl _)
      | (with_reducible exact LeO.none _)
      | (with_reducible refine LeO.ite ?_ ?_)
      | (with_reducible refine LeO.bind ?_ (fun _ => ?_))
      | exact lapidaryref01_Put.mono _ _
      | exact LeO.none _
      | refine LeO.ite ?_ ?_
      | refine LeO.bind ?_ (fun _ => ?_)
set_option maxHeartbeats 8000000 in
set_option maxRecDepth 100000 in
theorem lapidaryref01_PutInt.calls (k : Nat) (a0 : Int) (r : List Int) (w : World) (h : lapidaryref01_PutInt.f k a0 = some r) :
  Calls Try.prog 25 #[.int .i64 a0] w fun e w' => ∃ v0_ : Value,e = .returned (v0_) ∧ Kd.R (Kd.int .u8) 5 w' w.heap.size (fun _ => True) v0_ r ∧ Below w.heap.size w w':=by
 have HB:=aMx8 (Below.refl w.heap.size w)
 have H : ((lapidaryref01_Zig.f a0).bind fun t214 => ((lapidaryref01_Put.f k t214).bind fun t215 => (some t215))) = some r:=h
 clear h
 replace H:=Option.bind_eq_some_iff.mp H
 obtain ⟨t214,A20,H⟩:=H
 replace H : ((lapidaryref01_Put.f k t214).bind fun t215 => (some t215)) = some r:=H
 have A2:=aMx8 A20
 clear A20
 replace H:=Option.bind_eq_some_iff.mp H
 obtain ⟨t215,A30,H⟩:=H
 replace H : (some t215) = some r:=H
 have A3:=aMx8 A30
 clear A30
 obtain rfl:=Option.some.inj H
 go_enter Try.func25,Try.ntmps25
 go_wp2_with (first|((with_reducible refine gate_callee (f:=33) rfl ?_);refine goesL_ (some 4) rfl rfl Try.func33 (by kernel_rfl) rfl #[.int .i64 a0] rfl (by (try simp only [List.map_toArray,List.map_cons,List.map_nil]);first|done|rfl|(simp only [List.length_drop,List.length_take];rfl)) ?_;(with_reducible refine (lapidaryref01_Zig.calls a0 t214 _ A2.out).mono ?_);rintro e w' ⟨rfl,⟨nd,rfl⟩⟩;refine ⟨_,rfl,?_⟩)|((with_reducible refine gate_callee (f:=24) rfl ?_);refine goesL_ (some 5) rfl rfl Try.func24 (by kernel_rfl) rfl #[.int .u64 t214] rfl (by (try simp only [List.map_toArray,List.map_cons,List.map_nil]);first|done|rfl|(simp only [List.length_drop,List.length_take];rfl)) ?_;(with_reducible refine (lapidaryref01_Put.calls k t214 t215 _ A3.out).mono ?_);rintro e w4 ⟨v216,rfl,ho0,hb⟩;refine ⟨_,rfl,?_⟩;have n0_:=aMx8 (Kd.R_lower ho0 (below_size (by repeat (with_reducible first|exact HB.out|apply below_alloc|apply pw_below_drewN|apply below_drew1))));have n1_:=aMx8 (below_step (by repeat (with_reducible first|exact HB.out|apply below_alloc|apply pw_below_drewN|apply below_drew1)) hb);clear HB;have HO217:=n0_;have HB:=n1_;clear n0_ n1_;(try clear hb);(try clear hb2);(try clear hk);(try clear hi);(try clear ho0)))
 go_ret
 exact ⟨_,by first | rfl | (simp [errW_none,errW_some]<;>rfl) | (simp [*,errW_none,errW_some]<;>rfl),by (with_reducible repeat (first | apply Kd.R_alloc | apply Kd.R_drewN | apply Kd.R_drew));exact HO217.out,by repeat (first | (with_reducible first | exact HB.out | apply below_alloc | apply pw_below_drewN | apply below_drew1) | exact HB.out)⟩

/-! ### lapidaryref15_Encode: function 11 -/
mutual
def lapidaryref15_Encode.l0 : Nat → List (List (S48)) → List Int → Int → Int → Int → Option (List Int × Int)
  | 0, _, _, _, _, _ => none
  | k + 1, x0, x5, x6, x7, x8 => if x8 < (x0.length : Int) then (if 0 ≤ x8 then ((lapidaryref01_Put.f k (IntKind.u64.wrap (((rd_L2 x0 x8).length : Int)))).bind fun t223 => (if x5.length + t223.length < 140737488355328 then (lapidaryref15_Encode.l1 k x0 (x5 ++ t223) x6 x7 x8 0) else (none))) else (none)) else (some (x5, 0))
def lapidaryref15_Encode.l1 : Nat → List (List (S48)) → List Int → Int → Int → Int → Int → Option (List Int × Int)
  | 0, _, _, _, _, _, _ => none
  | k + 1, x0, x5, x6, x7, x8, x9 => if 0 ≤ x8 then (if x8 < (x0.length : Int) then (if x9 < ((rd_L2 x0 x8).length : Int) then (if 0 ≤ x9 then ((lapidaryref01_PutInt.f k (wrap64 (((rd_T48 (rd_L2 x0 x8) x9).f0) - x6))).bind fun t232 => (if x5.length + t232.length < 140737488355328 then ((some (x5 ++ t232 : List Int)).bind fun y235 => ((lapidaryref01_PutInt.f k (wrap64 (((rd_T48 (rd_L2 x0 x8) x9).f1) - x7))).bind fun t240 => (if y235.length + t240.length < 140737488355328 then (lapidaryref15_Encode.l1 k x0 (y235 ++ t240) ((rd_T48 (rd_L2 x0 x8) x9).f0) ((rd_T48 (rd_L2 x0 x8) x9).f1) x8 (wrap64 (x9 + 1))) else (none)))) else (none))) else (none)) else (lapidaryref15_Encode.l0 k x0 x5 x6 x7 (wrap64 (x8 + 1)))) else (none)) else (none)
end
def lapidaryref15_Encode.f (k : Nat) (l0 : List (List (S48))) : Option (List Int × Int) := (lapidaryref15_Check.f k l0).bind fun t218 => (if t218 = 0 then ((lapidaryref01_Put.f k (IntKind.u64.wrap ((l0.length : Int)))).bind fun t219 => (lapidaryref15_Encode.l0 k l0 t219 0 0 0)) else (some (([] : List Int), t218)))
theorem lapidaryref15_Encode.mono_l : ∀ k, (∀ y0 y1 y2 y3 y4, LeO (lapidaryref15_Encode.l0 k y0 y1 y2 y3 y4) (lapidaryref15_Encode.l0 (k + 1) y0 y1 y2 y3 y4)) ∧ (∀ y0 y1 y2 y3 y4 y5, LeO (lapidaryref15_Encode.l1 k y0 y1 y2 y3 y4 y5) (lapidaryref15_Encode.l1 (k + 1) y0 y1 y2 y3 y4 y5))
  | 0 => ⟨fun _ _ _ _ _ r h => by simp [lapidaryref15_Encode.l0] at h, fun _ _ _ _ _ _ r h => by simp [lapidaryref15_Encode.l1] at h⟩
  | k + 1 => by
    obtain ⟨ih0, ih1⟩ := lapidaryref15_Encode.mono_l k
    refine ⟨?_, ?_⟩
    · intro y0 y1 y2 y3 y4
      unfold lapidaryref15_Encode.l0
      repeat' first
      | (with_reducible exact ih0 _ _ _ _ _)
      | (with_reducible exact ih1 _ _ _ _ _ _)
      | (with_reducible exact lapidaryref01_Put.mono _ _)
      | (with_reducible exact lapidaryref01_PutInt.mono _ _)
      | (with_reducible exact lapidaryref15_Check.mono _ _)
      | (with_reducible exact LeO.refl _)
      | (with_reducible exact LeO.none _)
      | (with_reducible refine LeO.ite ?_ ?_)
      | (with_reducible refine LeO.bind ?_ (fun _ => ?_))
      | exact ih0 _ _ _ _ _
      | exact ih1 _ _ _ _ _ _
      | exact lapidaryref01_Put.mono _ _
      | exact lapidaryref01_PutInt.mono _ _
      | exact lapidaryref15_Check.mono _ _
      | exact LeO.none _
      | refine LeO.ite ?_ ?_
      | refine LeO.bind ?_ (fun _ => ?_)
    · intro y0 y1 y2 y3 y4 y5
      unfold lapidaryref15_Encode.l1
      repeat' first
      | (with_reducible exact ih0 _ _ _ _ _)
      | (with_reducible exact ih1 _ _ _ _ _ _)
      | (with_reducible exact lapidaryref01_Put.mono _ _)
      | (with_reducible exact lapidaryref01_PutInt.mono _ _)
      | (with_reducible exact lapidaryref15_Check.mono _ _)
      | (with_reducible exact LeO.refl _)
      | (with_reducible exact LeO.none _)
      | (with_reducible refine LeO.ite ?_ ?_)
      | (with_reducible refine LeO.bind ?_ (fun _ => ?_))
      | exact ih0 _ _ _ _ _
      | exact ih1 _ _ _ _ _ _
      | exact lapidaryref01_Put.mono _ _
      | exact lapidaryref01_PutInt.mono _ _
      | exact lapidaryref15_Check.mono _ _
      | exact LeO.none _
      | refine LeO.ite ?_ ?_
      | refine LeO.bind ?_ (fun _ => ?_)
theorem lapidaryref15_Encode.mono : ∀ a0 k, LeO (lapidaryref15_Encode.f k a0) (lapidaryref15_Encode.f (k + 1) a0) := by
  intro a0 k
  obtain ⟨ih0, ih1⟩ := lapidaryref15_Encode.mono_l k
  unfold lapidaryref15_Encode.f
  repeat' first
      | (with_reducible exact ih0 _ _ _ _ _)
      | (with_reducible exact ih1 _ _ _ _ _ _)
      | (with_reducible exact lapidaryref01_Put.mono _ _)
      | (with_reducible exact lapidaryref01_PutInt.mono _ _)
      | (with_reducible exact lapidaryref15_Check.mono _ _)
      | (with_reducible exact LeO.refl _)
      | (with_reducible exact LeO.none _)
      | (with_reducible refine LeO.ite ?_ ?_)
      | (with_reducible refine LeO.bind ?_ (fun _ => ?_))
      | exact ih0 _ _ _ _ _
      | exact ih1 _ _ _ _ _ _
      | exact lapidaryref01_Put.mono _ _
      | exact lapidaryref01_PutInt.mono _ _
      | exact lapidaryref15_Check.mono _ _
      | exact LeO.none _
      | refine LeO.ite ?_ ?_
      | refine LeO.bind ?_ (fun _ => ?_)
set_option maxHeartbeats 8000000 in
set_option maxRecDepth 100000 in
theorem lapidaryref15_Encode.calls (k : Nat) (A0 : Option Addr) (c0 : Nat) (l0 : List (List (S48))) (r1 : List Int) (r2 : Int) (w : World) (hr0 : Kd.C (Kd.slice 48 k48) w A0 l0.length l0) (hc0 : l0.length ≤ c0) (h : lapidaryref15_Encode.f k l0 = some (r1, r2)) :
  Calls Try.prog 11 #[.slice A0 l0.length c0] w fun e w' => ∃ v0_ : Value,e = .returned (.tuple #[v0_,.int .i64 r2]) ∧ Kd.R (Kd.int .u8) 5 w' w.heap.size (fun _ => True) v0_ r1 ∧ Below w.heap.size w w':=by
 have HR0:=aMx8 hr0
 have HC0:=aMx8 hc0
 clear hr0 hc0
 have HB:=aMx8 (Below.refl w.heap.size w)
 have H : ((lapidaryref15_Check.f k l0).bind fun t218 => (if t218 = 0 then ((lapidaryref01_Put.f k (IntKind.u64.wrap ((l0.length : Int)))).bind fun t219 => (lapidaryref15_Encode.l0 k l0 t219 0 0 0)) else (some (([] : List Int),t218)))) = some (r1,r2):=h
 clear h
 replace H:=Option.bind_eq_some_iff.mp H
 obtain ⟨t218,A20,H⟩:=H
 replace H : (if t218 = 0 then ((lapidaryref01_Put.f k (IntKind.u64.wrap ((l0.length : Int)))).bind fun t219 => (lapidaryref15_Encode.l0 k l0 t219 0 0 0)) else (some (([] : List Int),t218))) = some (r1,r2):=H
 have A2:=aMx8 A20
 clear A20
 by_cases c3 : t218 = 0
 ·rw [if_pos c3] at H
  have c3b0 : (t218 == 0) = true:=beq_iff_eq.mpr c3
  have c3b1 : (t218 != 0) = false:=bne_eq_false_iff_eq.mpr c3
  clear c3
  replace H:=Option.bind_eq_some_iff.mp H
  obtain ⟨t219,A40,H⟩:=H
  replace H : (lapidaryref15_Encode.l0 k l0 t219 0 0 0) = some (r1,r2):=H
  have A4:=aMx8 A40
  clear A40
  have H':=aMx8 H
  clear H
  go_enter Try.func11,Try.ntmps11
  go_wp2_with (first|((with_reducible refine gate_callee (f:=16) rfl ?_);refine goesL_ (some 11) rfl rfl Try.func16 (by kernel_rfl) rfl #[.slice A0 l0.length c0] rfl (by (try simp only [List.map_toArray,List.map_cons,List.map_nil]);first|done|rfl|(simp only [List.length_drop,List.length_take];rfl)) ?_;(with_reducible refine (lapidaryref15_Check.calls k _ _ l0 t218 _ ?side1 ?side2 A2.out).mono ?_);(case side1 => repeat (first|exact HR0.out|(with_reducible first|refine Kd.C_alloc ?_ _|refine Kd.C_drewN ?_ _|refine Kd.C_drew ?_)));(case side2 => exact HC0.out);rintro e w5 ⟨rfl,hb⟩;refine ⟨_,rfl,?_⟩;have n0_:=aMx8 (below_step (by repeat (with_reducible first|exact HB.out|apply below_alloc|apply pw_below_drewN|apply below_drew1)) hb);clear HB;have HB:=n0_;clear n0_;(try clear hb);(try clear hb2);(try clear hk);(try clear hi))|((with_reducible refine gate_callee (f:=24) rfl ?_);refine goesL_ (some 18) rfl rfl Try.func24 (by kernel_rfl) rfl #[.int .u64 (IntKind.u64.wrap ((l0.length : Int)))] rfl (by (try simp only [List.map_toArray,List.map_cons,List.map_nil]);first|done|rfl|(simp only [List.length_drop,List.length_take];rfl)) ?_;(with_reducible refine (lapidaryref01_Put.calls k (IntKind.u64.wrap ((l0.length : Int))) t219 _ A4.out).mono ?_);rintro e w6 ⟨v220,rfl,ho0,hb⟩;refine ⟨_,rfl,?_⟩;have n0_:=aMx8 (Kd.R_lower ho0 (below_size (by repeat (with_reducible first|exact HB.out|apply below_alloc|apply pw_below_drewN|apply below_drew1))));have n1_:=aMx8 (below_step (by repeat (with_reducible first|exact HB.out|apply below_alloc|apply pw_below_drewN|apply below_drew1)) hb);clear HB;have HO221:=n0_;have HB:=n1_;clear n0_ n1_;(try clear hb);(try clear hb2);(try clear hk);(try clear hi);(try clear ho0)))
  go_loopg [5,6,7,8] k (fun kq v5 v6 v7 v8 w' => ∃ (x5_1 : List Int) (x6_1 : Int) (x7_1 : Int) (x8_1 : Int),v6 = .int .i64 x6_1 ∧ v7 = .int .i64 x7_1 ∧ v8 = .int .i64 x8_1 ∧ Aside0 (lapidaryref15_Encode.l0 kq l0 x5_1 x6_1 x7_1 x8_1 = some (r1,r2)) ∧ Aside0 (kq ≤ k) ∧ Aside0 (Kd.R (Kd.int .u8) 5 w' w.heap.size (fun _ => True) v5 x5_1) ∧ Aside0 (Below w.heap.size w w'))
  case atStart => exact ⟨(t219),(0),(0),(0),(by first | rfl | (simp;done) | (simp [*];done)),(by first | rfl | (simp;done) | (simp [*];done)),(by first | rfl | (simp;done) | (simp [*];done)),H',⟨Nat.le_refl _⟩,⟨by (with_reducible repeat (first | apply Kd.R_alloc | apply Kd.R_drewN | apply Kd.R_drew));exact HO221.out⟩,⟨by repeat (first | (with_reducible first | exact HB.out | apply below_alloc | apply pw_below_drewN | apply below_drew1) | exact HB.out)⟩⟩
  case round =>
   clear H'
   try clear c1
   try clear c2
   try clear p2
   try clear c3
   try clear c3b0
   try clear c3b1
   obtain ⟨x5_1,x6_1,x7_1,x8_1,rfl,rfl,rfl,HA,HK1,HO_5,HB⟩:=hrel
   cases gk with
   | zero => exact absurd HA.out (by simp [lapidaryref15_Encode.l0])
   | succ k1 =>
    have H:=HA.out
    clear HA
    simp only [lapidaryref15_Encode.l0] at H
    by_cases c7 : x8_1 < (l0.length : Int)
    ·rw [if_pos c7] at H
     have c7b0 : decide (x8_1 < (l0.length : Int)) = true:=decide_eq_true c7
     clear c7
     by_cases c8 : 0 ≤ x8_1
     ·rw [if_pos c8] at H
      have c8b0 : decide (0 ≤ x8_1) = true:=decide_eq_true c8
      clear c8
      replace H:=Option.bind_eq_some_iff.mp H
      obtain ⟨t223,A90,H⟩:=H
      replace H : (if x5_1.length+t223.length < 140737488355328 then (lapidaryref15_Encode.l1 k1 l0 (x5_1++t223) x6_1 x7_1 x8_1 0) else (none)) = some (r1,r2):=H
      have A9:=aMx8 A90
      clear A90
      by_cases c10 : x5_1.length+t223.length < 140737488355328
      ·rw [if_pos c10] at H
       have LMc10:=aMx8 c10
       clear c10
       obtain ⟨y226,hy226⟩ : ∃ y_ : List Int,y_ = (x5_1++t223):=⟨_,rfl⟩
       replace H : (lapidaryref15_Encode.l1 k1 l0 y226 x6_1 x7_1 x8_1 0) = some (r1,r2):=by first | (rw [hy226];with_reducible exact H) | (have H2_:=(Option.bind_some _ _).symm.trans H;rw [hy226];with_reducible exact H2_) | (have H2_:=(Option.bind_some _ _).symm.trans H;with_reducible exact H2_) | with_reducible exact H | (rw [hy226];exact H) | exact H
       have Ny226:=aMx8 hy226
       clear hy226
       have H':=aMx8 H
       clear H
       have p222 : 0 ≤ (x8_1 : Int):=of_decide_eq_true (by first | (with_reducible assumption) | assumption)
       have q222 : x8_1 < (l0.length : Int):=of_decide_eq_true (by first | (with_reducible assumption) | assumption)
       obtain ⟨ad222,A222_0,c222_0,e222,hx222_0,hl222_0,hi222_0⟩:=at_L2 HR0.out x8_1 p222 q222
       cases e222
       replace hx222_0:=(HB.out.cell (World.block_lt_of_cell? w _ hx222_0)).trans hx222_0
       have HR222_0:=aMx8 hi222_0
       have HC222_0:=aMx8 hl222_0
       clear hi222_0 hl222_0
       replace p222:=eq_true p222
       replace q222:=eq_true q222
       go_wp2_with (first|((with_reducible refine gate_callee (f:=24) rfl ?_);refine goesL_ (some 32) rfl rfl Try.func24 (by kernel_rfl) rfl #[.int .u64 (IntKind.u64.wrap (((rd_L2 l0 x8_1).length : Int)))] rfl (by (try simp only [List.map_toArray,List.map_cons,List.map_nil]);first|done|rfl|(simp only [List.length_drop,List.length_take];rfl)) ?_;(with_reducible refine (lapidaryref01_Put.calls k1 (IntKind.u64.wrap (((rd_L2 l0 x8_1).length : Int))) t223 _ A9.out).mono ?_);rintro e w11 ⟨v224,rfl,ho0,hb⟩;refine ⟨_,rfl,?_⟩;have n0_:=aMx8 (Kd.R_elder' (by (with_reducible repeat (first|apply Kd.R_alloc|apply Kd.R_drewN|apply Kd.R_drew));exact HO_5.out) (Kd.R_base ho0) hb);have n1_:=aMx8 (Kd.R_lower (Kd.R_new' ho0 (Kd.R_lt (by (with_reducible repeat (first|apply Kd.R_alloc|apply Kd.R_drewN|apply Kd.R_drew));exact HO_5.out))) (below_size (by repeat (with_reducible first|exact HB.out|apply below_alloc|apply pw_below_drewN|apply below_drew1))));have n2_:=aMx8 (below_step (by repeat (with_reducible first|exact HB.out|apply below_alloc|apply pw_below_drewN|apply below_drew1)) hb);clear HO_5;clear HB;have HO_5:=n0_;have HO225:=n1_;have HB:=n2_;clear n0_ n1_ n2_;(try clear hb);(try clear hb2);(try clear hk);(try clear hi);(try clear ho0);obtain ⟨Ao13,co13,eo13⟩:=Kd.R_slice HO225.out;subst eo13)|((with_reducible refine gate_builtin (b:=.append) (xs:=#[.tmp 25,.tmp 32]) rfl ?_);at_builtin;refine Kd.R_append_rows (Kd.int .u8) (w0:=w) w.heap.size rfl (.tmp 25) (.tmp 32) 23 5 (.int .u8 0) 1 rfl Try.underlying23 info5 rfl (by decide) (by omega) u5 x5_1 t223 _ _ _ (fun k_ => some k_ ≠ (.slice Ao13 t223.length co13 : Value).ownBlock) (fun _ => False) rfl rfl ?aO ?aR (fun _ _ h => h) (fun _ h => h.elim) ?aF ?aB ?aS ?aL ?_;(case aR => repeat (first|exact (Kd.R_reads' HO225.out).2.2|(with_reducible first|refine Kd.C_alloc ?_ _|refine Kd.C_drewN ?_ _|refine Kd.C_drew ?_)));(case aB => exact (by repeat (with_reducible first|exact HB.out|apply below_alloc|apply pw_below_drewN|apply below_drew1)));(case aF => exact (fun k_ hk => Kd.fresh' (Kd.R_lt (by (with_reducible repeat (first|apply Kd.R_alloc|apply Kd.R_drewN|apply Kd.R_drew));exact HO225.out)) k_ hk));(case aO => exact (by (with_reducible repeat (first|apply Kd.R_alloc|apply Kd.R_drewN|apply Kd.R_drew));exact Kd.R_mono HO_5.out (fun _ hk => hk.2)));(case aS => exact (below_size (by repeat (with_reducible first|exact HB.out|apply below_alloc|apply pw_below_drewN|apply below_drew1))));(case aL => have:=LMc10.out;omega);intro v227 w12 ho hb hg hat;rw [← Ny226.out] at ho;have n0_:=aMx8 (Kd.R_after (ok:=(fun _ => True)) (by (with_reducible repeat (first|apply Kd.R_alloc|apply Kd.R_drewN|apply Kd.R_drew));exact HO225.out) hg hat);have n1_:=aMx8 (hb);have n2_:=aMx8 (ho);clear HO225;clear HB;clear HO_5;have HO225:=n0_;have HB:=n1_;have HO228:=n2_;clear n0_ n1_ n2_;clear ho hb hg hat))
       go_loopg [5,6,7,9] k1 (fun kq v5 v6 v7 v9 w' => ∃ (x5_2 : List Int) (x6_2 : Int) (x7_2 : Int) (x9_2 : Int),v6 = .int .i64 x6_2 ∧ v7 = .int .i64 x7_2 ∧ v9 = .int .i64 x9_2 ∧ Aside0 (lapidaryref15_Encode.l1 kq l0 x5_2 x6_2 x7_2 x8_1 x9_2 = some (r1,r2)) ∧ Aside0 (kq ≤ k1) ∧ Aside0 (Kd.R (Kd.int .u8) 5 w' w.heap.size (fun _ => True) v5 x5_2) ∧ Aside0 (Below w.heap.size w w'))
       case atStart => exact ⟨(y226),(x6_1),(x7_1),(0),(by first | rfl | (simp;done) | (simp [*];done)),(by first | rfl | (simp;done) | (simp [*];done)),(by first | rfl | (simp;done) | (simp [*];done)),H',⟨Nat.le_refl _⟩,⟨by (with_reducible repeat (first | apply Kd.R_alloc | apply Kd.R_drewN | apply Kd.R_drew));exact Kd.R_mono HO228.out (fun _ hk => trivial)⟩,⟨by repeat (first | (with_reducible first | exact HB.out | apply below_alloc | apply pw_below_drewN | apply below_drew1) | exact HB.out)⟩⟩
       case round =>
        clear H'
        try clear c1
        try clear c2
        try clear p2
        try clear q2
        try clear hx2
        try clear c3
        try clear c3b0
        try clear c3b1
        try clear c7
        try clear c7b0
        try clear c8
        try clear c8b0
        try clear c10
        try clear c11
        try clear hx222_0
        try clear p2
        try clear p222
        try clear q222
        obtain ⟨x5_2,x6_2,x7_2,x9_2,rfl,rfl,rfl,HA,HK2,HO_5,HB⟩:=hrel
        cases gk with
        | zero => exact absurd HA.out (by simp [lapidaryref15_Encode.l1])
        | succ k2 =>
         have H:=HA.out
         clear HA
         simp only [lapidaryref15_Encode.l1] at H
         by_cases c14 : 0 ≤ x8_1
         ·rw [if_pos c14] at H
          have c14b0 : decide (0 ≤ x8_1) = true:=decide_eq_true c14
          clear c14
          by_cases c15 : x8_1 < (l0.length : Int)
          ·rw [if_pos c15] at H
           have c15b0 : decide (x8_1 < (l0.length : Int)) = true:=decide_eq_true c15
           clear c15
           by_cases c16 : x9_2 < ((rd_L2 l0 x8_1).length : Int)
           ·rw [if_pos c16] at H
            have c16b0 : decide (x9_2 < ((rd_L2 l0 x8_1).length : Int)) = true:=decide_eq_true c16
            clear c16
            by_cases c17 : 0 ≤ x9_2
            ·rw [if_pos c17] at H
             have c17b0 : decide (0 ≤ x9_2) = true:=decide_eq_true c17
             clear c17
             replace H:=Option.bind_eq_some_iff.mp H
             obtain ⟨t232,A180,H⟩:=H
             replace H : (if x5_2.length+t232.length < 140737488355328 then ((some (x5_2++t232 : List Int)).bind fun y235 => ((lapidaryref01_PutInt.f k2 (wrap64 (((rd_T48 (rd_L2 l0 x8_1) x9_2).f1) - x7_2))).bind fun t240 => (if y235.length+t240.length < 140737488355328 then (lapidaryref15_Encode.l1 k2 l0 (y235++t240) ((rd_T48 (rd_L2 l0 x8_1) x9_2).f0) ((rd_T48 (rd_L2 l0 x8_1) x9_2).f1) x8_1 (wrap64 (x9_2+1))) else (none)))) else (none)) = some (r1,r2):=H
             have A18:=aMx8 A180
             clear A180
             by_cases c19 : x5_2.length+t232.length < 140737488355328
             ·rw [if_pos c19] at H
              have LMc19:=aMx8 c19
              clear c19
              obtain ⟨y235,hy235⟩ : ∃ y_ : List Int,y_ = (x5_2++t232):=⟨_,rfl⟩
              replace H : ((lapidaryref01_PutInt.f k2 (wrap64 (((rd_T48 (rd_L2 l0 x8_1) x9_2).f1) - x7_2))).bind fun t240 => (if y235.length+t240.length < 140737488355328 then (lapidaryref15_Encode.l1 k2 l0 (y235++t240) ((rd_T48 (rd_L2 l0 x8_1) x9_2).f0) ((rd_T48 (rd_L2 l0 x8_1) x9_2).f1) x8_1 (wrap64 (x9_2+1))) else (none))) = some (r1,r2):=by first | (rw [hy235];with_reducible exact H) | (have H2_:=(Option.bind_some _ _).symm.trans H;rw [hy235];with_reducible exact H2_) | (have H2_:=(Option.bind_some _ _).symm.trans H;with_reducible exact H2_) | with_reducible exact H | (rw [hy235];exact H) | exact H
              have Ny235:=aMx8 hy235
              clear hy235
              replace H:=Option.bind_eq_some_iff.mp H
              obtain ⟨t240,A200,H⟩:=H
              replace H : (if y235.length+t240.length < 140737488355328 then (lapidaryref15_Encode.l1 k2 l0 (y235++t240) ((rd_T48 (rd_L2 l0 x8_1) x9_2).f0) ((rd_T48 (rd_L2 l0 x8_1) x9_2).f1) x8_1 (wrap64 (x9_2+1))) else (none)) = some (r1,r2):=H
              have A20:=aMx8 A200
              clear A200
              by_cases c21 : y235.length+t240.length < 140737488355328
              ·rw [if_pos c21] at H
               have LMc21:=aMx8 c21
               clear c21
               obtain ⟨y243,hy243⟩ : ∃ y_ : List Int,y_ = (y235++t240):=⟨_,rfl⟩
               replace H : (lapidaryref15_Encode.l1 k2 l0 y243 ((rd_T48 (rd_L2 l0 x8_1) x9_2).f0) ((rd_T48 (rd_L2 l0 x8_1) x9_2).f1) x8_1 (wrap64 (x9_2+1))) = some (r1,r2):=by first | (rw [hy243];with_reducible exact H) | (have H2_:=(Option.bind_some _ _).symm.trans H;rw [hy243];with_reducible exact H2_) | (have H2_:=(Option.bind_some _ _).symm.trans H;with_reducible exact H2_) | with_reducible exact H | (rw [hy243];exact H) | exact H
               have Ny243:=aMx8 hy243
               clear hy243
               have H':=aMx8 H
               clear H
               have p229 : 0 ≤ (x8_1 : Int):=of_decide_eq_true (by first | (with_reducible assumption) | assumption)
               have q229 : x8_1 < (l0.length : Int):=of_decide_eq_true (by first | (with_reducible assumption) | assumption)
               obtain ⟨ad229,A229_0,c229_0,e229,hx229_0,hl229_0,hi229_0⟩:=at_L2 HR0.out x8_1 p229 q229
               obtain rfl : ad222 = ad229:=(by injection e229)
               replace hx229_0:=(HB.out.cell (World.block_lt_of_cell? w _ hx229_0)).trans hx229_0
               have HR229_0:=aMx8 hi229_0
               have HC229_0:=aMx8 hl229_0
               clear hi229_0 hl229_0
               replace p229:=eq_true p229
               replace q229:=eq_true q229
               have p230 : 0 ≤ (x8_1 : Int):=of_decide_eq_true (by first | (with_reducible assumption) | assumption)
               have q230 : x8_1 < (l0.length : Int):=of_decide_eq_true (by first | (with_reducible assumption) | assumption)
               obtain ⟨ad230,A230_0,c230_0,e230,hx230_0,hl230_0,hi230_0⟩:=at_L2 HR0.out x8_1 p230 q230
               obtain rfl : ad222 = ad230:=(by injection e230)
               replace hx230_0:=(HB.out.cell (World.block_lt_of_cell? w _ hx230_0)).trans hx230_0
               have HR230_0:=aMx8 hi230_0
               have HC230_0:=aMx8 hl230_0
               clear hi230_0 hl230_0
               replace p230:=eq_true p230
               replace q230:=eq_true q230
               have ea_:=Option.some.inj (hx229_0.symm.trans hx230_0)
               injection ea_ with ea_ en_ ec_
               subst ea_
               subst ec_
               clear en_
               have p231 : 0 ≤ (x9_2 : Int):=of_decide_eq_true (by first | (with_reducible assumption) | assumption)
               have q231 : x9_2 < ((rd_L2 l0 x8_1).length : Int):=of_decide_eq_true (by first | (with_reducible assumption) | assumption)
               obtain ⟨ad231,e231,hx231_0,hx231_1,hx231_2⟩:=at_T48 HR230_0.out x9_2 p231 q231
               cases e231
               replace hx231_0:=(HB.out.cell (World.block_lt_of_cell? w _ hx231_0)).trans hx231_0
               replace hx231_1:=(HB.out.cell (World.block_lt_of_cell? w _ hx231_1)).trans hx231_1
               replace hx231_2:=(HB.out.cell (World.block_lt_of_cell? w _ hx231_2)).trans hx231_2
               replace p231:=eq_true p231
               replace q231:=eq_true q231
               go_wp2_with (first|((with_reducible refine gate_callee (f:=25) rfl ?_);refine goesL_ (some 54) rfl rfl Try.func25 (by kernel_rfl) rfl #[.int .i64 (wrap64 (((rd_T48 (rd_L2 l0 x8_1) x9_2).f0) - x6_2))] rfl (by (try simp only [List.map_toArray,List.map_cons,List.map_nil]);first|done|rfl|(simp only [List.length_drop,List.length_take];rfl)) ?_;(with_reducible refine (lapidaryref01_PutInt.calls k2 (wrap64 (((rd_T48 (rd_L2 l0 x8_1) x9_2).f0) - x6_2)) t232 _ A18.out).mono ?_);rintro e w22 ⟨v233,rfl,ho0,hb⟩;refine ⟨_,rfl,?_⟩;have n0_:=aMx8 (Kd.R_elder' (by (with_reducible repeat (first|apply Kd.R_alloc|apply Kd.R_drewN|apply Kd.R_drew));exact HO_5.out) (Kd.R_base ho0) hb);have n1_:=aMx8 (Kd.R_lower (Kd.R_new' ho0 (Kd.R_lt (by (with_reducible repeat (first|apply Kd.R_alloc|apply Kd.R_drewN|apply Kd.R_drew));exact HO_5.out))) (below_size (by repeat (with_reducible first|exact HB.out|apply below_alloc|apply pw_below_drewN|apply below_drew1))));have n2_:=aMx8 (below_step (by repeat (with_reducible first|exact HB.out|apply below_alloc|apply pw_below_drewN|apply below_drew1)) hb);clear HO_5;clear HB;have HO_5:=n0_;have HO234:=n1_;have HB:=n2_;clear n0_ n1_ n2_;(try clear hb);(try clear hb2);(try clear hk);(try clear hi);(try clear ho0);obtain ⟨Ao24,co24,eo24⟩:=Kd.R_slice HO234.out;subst eo24)|((with_reducible refine gate_builtin (b:=.append) (xs:=#[.tmp 43,.tmp 54]) rfl ?_);at_builtin;refine Kd.R_append_rows (Kd.int .u8) (w0:=w) w.heap.size rfl (.tmp 43) (.tmp 54) 23 5 (.int .u8 0) 1 rfl Try.underlying23 info5 rfl (by decide) (by omega) u5 x5_2 t232 _ _ _ (fun k_ => some k_ ≠ (.slice Ao24 t232.length co24 : Value).ownBlock) (fun _ => False) rfl rfl ?aO ?aR (fun _ _ h => h) (fun _ h => h.elim) ?aF ?aB ?aS ?aL ?_;(case aR => repeat (first|exact (Kd.R_reads' HO234.out).2.2|(with_reducible first|refine Kd.C_alloc ?_ _|refine Kd.C_drewN ?_ _|refine Kd.C_drew ?_)));(case aB => exact (by repeat (with_reducible first|exact HB.out|apply below_alloc|apply pw_below_drewN|apply below_drew1)));(case aF => exact (fun k_ hk => Kd.fresh' (Kd.R_lt (by (with_reducible repeat (first|apply Kd.R_alloc|apply Kd.R_drewN|apply Kd.R_drew));exact HO234.out)) k_ hk));(case aO => exact (by (with_reducible repeat (first|apply Kd.R_alloc|apply Kd.R_drewN|apply Kd.R_drew));exact Kd.R_mono HO_5.out (fun _ hk => hk.2)));(case aS => exact (below_size (by repeat (with_reducible first|exact HB.out|apply below_alloc|apply pw_below_drewN|apply below_drew1))));(case aL => have:=LMc19.out;omega);intro v236 w23 ho hb hg hat;rw [← Ny235.out] at ho;have n0_:=aMx8 (Kd.R_after (ok:=(fun _ => True)) (by (with_reducible repeat (first|apply Kd.R_alloc|apply Kd.R_drewN|apply Kd.R_drew));exact HO234.out) hg hat);have n1_:=aMx8 (hb);have n2_:=aMx8 (ho);clear HO234;clear HB;clear HO_5;have HO234:=n0_;have HB:=n1_;have HO237:=n2_;clear n0_ n1_ n2_;clear ho hb hg hat;have p238 : 0 ≤ (x8_1 : Int):=of_decide_eq_true (by first|(with_reducible assumption)|assumption);have q238 : x8_1 < (l0.length : Int):=of_decide_eq_true (by first|(with_reducible assumption)|assumption);obtain ⟨ad238,A238_0,c238_0,e238,hx238_0,hl238_0,hi238_0⟩:=at_L2 HR0.out x8_1 p238 q238;obtain rfl : ad222 = ad238:=(by injection e238);replace hx238_0:=(HB.out.cell (World.block_lt_of_cell? w _ hx238_0)).trans hx238_0;have HR238_0:=aMx8 hi238_0;have HC238_0:=aMx8 hl238_0;clear hi238_0 hl238_0;replace p238:=eq_true p238;replace q238:=eq_true q238;have p239 : 0 ≤ (x9_2 : Int):=of_decide_eq_true (by first|(with_reducible assumption)|assumption);have q239 : x9_2 < ((rd_L2 l0 x8_1).length : Int):=of_decide_eq_true (by first|(with_reducible assumption)|assumption);obtain ⟨ad239,e239,hx239_0,hx239_1,hx239_2⟩:=at_T48 HR238_0.out x9_2 p239 q239;cases e239;replace hx239_0:=(HB.out.cell (World.block_lt_of_cell? w _ hx239_0)).trans hx239_0;replace hx239_1:=(HB.out.cell (World.block_lt_of_cell? w _ hx239_1)).trans hx239_1;replace hx239_2:=(HB.out.cell (World.block_lt_of_cell? w _ hx239_2)).trans hx239_2;replace p239:=eq_true p239;replace q239:=eq_true q239)|((with_reducible refine gate_callee (f:=25) rfl ?_);refine goesL_ (some 67) rfl rfl Try.func25 (by kernel_rfl) rfl #[.int .i64 (wrap64 (((rd_T48 (rd_L2 l0 x8_1) x9_2).f1) - x7_2))] rfl (by (try simp only [List.map_toArray,List.map_cons,List.map_nil]);first|done|rfl|(simp only [List.length_drop,List.length_take];rfl)) ?_;(with_reducible refine (lapidaryref01_PutInt.calls k2 (wrap64 (((rd_T48 (rd_L2 l0 x8_1) x9_2).f1) - x7_2)) t240 _ A20.out).mono ?_);rintro e w25 ⟨v241,rfl,ho0,hb⟩;refine ⟨_,rfl,?_⟩;have n0_:=aMx8 (Kd.R_elder' (by (with_reducible repeat (first|apply Kd.R_alloc|apply Kd.R_drewN|apply Kd.R_drew));exact HO234.out) (Kd.R_base ho0) hb);have n1_:=aMx8 (Kd.R_elder' (by (with_reducible repeat (first|apply Kd.R_alloc|apply Kd.R_drewN|apply Kd.R_drew));exact HO237.out) (Kd.R_base ho0) hb);have n2_:=aMx8 (Kd.R_lower (Kd.R_new' (Kd.R_new' ho0 (Kd.R_lt (by (with_reducible repeat (first|apply Kd.R_alloc|apply Kd.R_drewN|apply Kd.R_drew));exact HO234.out))) (Kd.R_lt (by (with_reducible repeat (first|apply Kd.R_alloc|apply Kd.R_drewN|apply Kd.R_drew));exact HO237.out))) (below_size (by repeat (with_reducible first|exact HB.out|apply below_alloc|apply pw_below_drewN|apply below_drew1))));have n3_:=aMx8 (below_step (by repeat (with_reducible first|exact HB.out|apply below_alloc|apply pw_below_drewN|apply below_drew1)) hb);clear HO234;clear HO237;clear HB;have HO234:=n0_;have HO237:=n1_;have HO242:=n2_;have HB:=n3_;clear n0_ n1_ n2_ n3_;(try clear hb);(try clear hb2);(try clear hk);(try clear hi);(try clear ho0);obtain ⟨Ao27,co27,eo27⟩:=Kd.R_slice HO242.out;subst eo27)|((with_reducible refine gate_builtin (b:=.append) (xs:=#[.tmp 56,.tmp 67]) rfl ?_);at_builtin;refine Kd.R_append_rows (Kd.int .u8) (w0:=w) w.heap.size rfl (.tmp 56) (.tmp 67) 23 5 (.int .u8 0) 1 rfl Try.underlying23 info5 rfl (by decide) (by omega) v236 y235 t240 _ _ _ (fun k_ => some k_ ≠ (.slice Ao24 t232.length co24 : Value).ownBlock ∧ some k_ ≠ (.slice Ao27 t240.length co27 : Value).ownBlock) (fun _ => False) rfl rfl ?aO ?aR (fun _ _ h => h) (fun _ h => h.elim) ?aF ?aB ?aS ?aL ?_;(case aR => repeat (first|exact (Kd.R_reads' HO242.out).2.2|(with_reducible first|refine Kd.C_alloc ?_ _|refine Kd.C_drewN ?_ _|refine Kd.C_drew ?_)));(case aB => exact (by repeat (with_reducible first|exact HB.out|apply below_alloc|apply pw_below_drewN|apply below_drew1)));(case aF => exact (fun k_ hk => ⟨Kd.fresh' (Kd.R_lt (by (with_reducible repeat (first|apply Kd.R_alloc|apply Kd.R_drewN|apply Kd.R_drew));exact HO234.out)) k_ hk,Kd.fresh' (Kd.R_lt (by (with_reducible repeat (first|apply Kd.R_alloc|apply Kd.R_drewN|apply Kd.R_drew));exact HO242.out)) k_ hk⟩));(case aO => exact (by (with_reducible repeat (first|apply Kd.R_alloc|apply Kd.R_drewN|apply Kd.R_drew));exact HO237.out));(case aS => exact (below_size (by repeat (with_reducible first|exact HB.out|apply below_alloc|apply pw_below_drewN|apply below_drew1))));(case aL => have:=LMc21.out;omega);intro v244 w26 ho hb hg hat;rw [← Ny243.out] at ho;have n0_:=aMx8 (Kd.R_after (ok:=(fun k_ => some k_ ≠ (.slice Ao27 t240.length co27 : Value).ownBlock)) (by (with_reducible repeat (first|apply Kd.R_alloc|apply Kd.R_drewN|apply Kd.R_drew));exact Kd.R_mono HO234.out (fun _ hk => ⟨hk.2,hk.1.2⟩)) hg hat);have n1_:=aMx8 (Kd.R_after (ok:=(fun k_ => some k_ ≠ (.slice Ao24 t232.length co24 : Value).ownBlock)) (by (with_reducible repeat (first|apply Kd.R_alloc|apply Kd.R_drewN|apply Kd.R_drew));exact Kd.R_mono HO242.out (fun _ hk => ⟨hk.1.2,hk.2⟩)) hg hat);have n2_:=aMx8 (hb);have n3_:=aMx8 (ho);clear HO234;clear HO242;clear HB;clear HO237;have HO234:=n0_;have HO242:=n1_;have HB:=n2_;have HO245:=n3_;clear n0_ n1_ n2_ n3_;clear ho hb hg hat;have p246 : 0 ≤ (x8_1 : Int):=of_decide_eq_true (by first|(with_reducible assumption)|assumption);have q246 : x8_1 < (l0.length : Int):=of_decide_eq_true (by first|(with_reducible assumption)|assumption);obtain ⟨ad246,A246_0,c246_0,e246,hx246_0,hl246_0,hi246_0⟩:=at_L2 HR0.out x8_1 p246 q246;obtain rfl : ad222 = ad246:=(by injection e246);replace hx246_0:=(HB.out.cell (World.block_lt_of_cell? w _ hx246_0)).trans hx246_0;have HR246_0:=aMx8 hi246_0;have HC246_0:=aMx8 hl246_0;clear hi246_0 hl246_0;replace p246:=eq_true p246;replace q246:=eq_true q246;have p247 : 0 ≤ (x9_2 : Int):=of_decide_eq_true (by first|(with_reducible assumption)|assumption);have q247 : x9_2 < ((rd_L2 l0 x8_1).length : Int):=of_decide_eq_true (by first|(with_reducible assumption)|assumption);obtain ⟨ad247,e247,hx247_0,hx247_1,hx247_2⟩:=at_T48 HR246_0.out x9_2 p247 q247;cases e247;replace hx247_0:=(HB.out.cell (World.block_lt_of_cell? w _ hx247_0)).trans hx247_0;replace hx247_1:=(HB.out.cell (World.block_lt_of_cell? w _ hx247_1)).trans hx247_1;replace hx247_2:=(HB.out.cell (World.block_lt_of_cell? w _ hx247_2)).trans hx247_2;replace p247:=eq_true p247;replace q247:=eq_true q247;have p248 : 0 ≤ (x8_1 : Int):=of_decide_eq_true (by first|(with_reducible assumption)|assumption);have q248 : x8_1 < (l0.length : Int):=of_decide_eq_true (by first|(with_reducible assumption)|assumption);obtain ⟨ad248,A248_0,c248_0,e248,hx248_0,hl248_0,hi248_0⟩:=at_L2 HR0.out x8_1 p248 q248;obtain rfl : ad222 = ad248:=(by injection e248);replace hx248_0:=(HB.out.cell (World.block_lt_of_cell? w _ hx248_0)).trans hx248_0;have HR248_0:=aMx8 hi248_0;have HC248_0:=aMx8 hl248_0;clear hi248_0 hl248_0;replace p248:=eq_true p248;replace q248:=eq_true q248;have ea_:=Option.some.inj (hx246_0.symm.trans hx248_0);injection ea_ with ea_ en_ ec_;subst ea_;subst ec_;clear en_;have p249 : 0 ≤ (x9_2 : Int):=of_decide_eq_true (by first|(with_reducible assumption)|assumption);have q249 : x9_2 < ((rd_L2 l0 x8_1).length : Int):=of_decide_eq_true (by first|(with_reducible assumption)|assumption);obtain ⟨ad249,e249,hx249_0,hx249_1,hx249_2⟩:=at_T48 HR248_0.out x9_2 p249 q249;cases e249;replace hx249_0:=(HB.out.cell (World.block_lt_of_cell? w _ hx249_0)).trans hx249_0;replace hx249_1:=(HB.out.cell (World.block_lt_of_cell? w _ hx249_1)).trans hx249_1;replace hx249_2:=(HB.out.cell (World.block_lt_of_cell? w _ hx249_2)).trans hx249_2;replace p249:=eq_true p249;replace q249:=eq_true q249))
               go_roundg k2
               case measure => have:=HK1.out;have:=HK2.out;omega
               case rel => exact ⟨(y243),((rd_T48 (rd_L2 l0 x8_1) x9_2).f0),((rd_T48 (rd_L2 l0 x8_1) x9_2).f1),(wrap64 (x9_2+1)),(by first | rfl | (simp;done) | (simp [*];done)),(by first | rfl | (simp;done) | (simp [*];done)),(by first | rfl | (simp;done) | (simp [*];done)),H',⟨by have:=HK1.out;have:=HK2.out;omega⟩,⟨by (with_reducible repeat (first | apply Kd.R_alloc | apply Kd.R_drewN | apply Kd.R_drew));exact Kd.R_mono HO245.out (fun _ hk => trivial)⟩,⟨by repeat (first | (with_reducible first | exact HB.out | apply below_alloc | apply pw_below_drewN | apply below_drew1) | exact HB.out)⟩⟩
              ·rw [if_neg c21] at H
               exact absurd H (by simp)
             ·rw [if_neg c19] at H
              exact absurd H (by simp)
            ·rw [if_neg c17] at H
             exact absurd H (by simp)
           ·rw [if_neg c16] at H
            have c16b0 : decide (x9_2 < ((rd_L2 l0 x8_1).length : Int)) = false:=decide_eq_false c16
            clear c16
            have H':=aMx8 H
            clear H
            have p229 : 0 ≤ (x8_1 : Int):=of_decide_eq_true (by first | (with_reducible assumption) | assumption)
            have q229 : x8_1 < (l0.length : Int):=of_decide_eq_true (by first | (with_reducible assumption) | assumption)
            obtain ⟨ad229,A229_0,c229_0,e229,hx229_0,hl229_0,hi229_0⟩:=at_L2 HR0.out x8_1 p229 q229
            obtain rfl : ad222 = ad229:=(by injection e229)
            replace hx229_0:=(HB.out.cell (World.block_lt_of_cell? w _ hx229_0)).trans hx229_0
            have HR229_0:=aMx8 hi229_0
            have HC229_0:=aMx8 hl229_0
            clear hi229_0 hl229_0
            replace p229:=eq_true p229
            replace q229:=eq_true q229
            go_wp2
            go_roundg k2
            case measure => have:=HK1.out;have:=HK2.out;omega
            case rel => exact ⟨(x5_2),(x6_2),(x7_2),(wrap64 (x8_1+1)),(by first | rfl | (simp;done) | (simp [*];done)),(by first | rfl | (simp;done) | (simp [*];done)),(by first | rfl | (simp;done) | (simp [*];done)),H',⟨by have:=HK1.out;have:=HK2.out;omega⟩,⟨by (with_reducible repeat (first | apply Kd.R_alloc | apply Kd.R_drewN | apply Kd.R_drew));exact HO_5.out⟩,⟨by repeat (first | (with_reducible first | exact HB.out | apply below_alloc | apply pw_below_drewN | apply below_drew1) | exact HB.out)⟩⟩
          ·rw [if_neg c15] at H
           exact absurd H (by simp)
         ·rw [if_neg c14] at H
          exact absurd H (by simp)
      ·rw [if_neg c10] at H
       exact absurd H (by simp)
     ·rw [if_neg c8] at H
      exact absurd H (by simp)
    ·rw [if_neg c7] at H
     have c7b0 : decide (x8_1 < (l0.length : Int)) = false:=decide_eq_false c7
     clear c7
     simp only [Option.some.injEq,Prod.mk.injEq] at H
     obtain ⟨rfl,rfl⟩:=H
     go_wp2
     go_ret2
     exact ⟨_,by first | rfl | (simp [errW_none,errW_some]<;>rfl) | (simp [*,errW_none,errW_some]<;>rfl),by (with_reducible repeat (first | apply Kd.R_alloc | apply Kd.R_drewN | apply Kd.R_drew));exact HO_5.out,by repeat (first | (with_reducible first | exact HB.out | apply below_alloc | apply pw_below_drewN | apply below_drew1) | exact HB.out)⟩
 ·rw [if_neg c3] at H
  have c3b0 : (t218 == 0) = false:=beq_eq_false_iff_ne.mpr c3
  have c3b1 : (t218 != 0) = true:=bne_iff_ne.mpr c3
  simp only [Option.some.injEq,Prod.mk.injEq] at H
  obtain ⟨rfl,rfl⟩:=H
  go_enter Try.func11,Try.ntmps11
  go_wp2_with (first|((with_reducible refine gate_callee (f:=16) rfl ?_);refine goesL_ (some 11) rfl rfl Try.func16 (by kernel_rfl) rfl #[.slice A0 l0.length c0] rfl (by (try simp only [List.map_toArray,List.map_cons,List.map_nil]);first|done|rfl|(simp only [List.length_drop,List.length_take];rfl)) ?_;(with_reducible refine (lapidaryref15_Check.calls k _ _ l0 t218 _ ?side1 ?side2 A2.out).mono ?_);(case side1 => repeat (first|exact HR0.out|(with_reducible first|refine Kd.C_alloc ?_ _|refine Kd.C_drewN ?_ _|refine Kd.C_drew ?_)));(case side2 => exact HC0.out);rintro e w28 ⟨rfl,hb⟩;refine ⟨_,rfl,?_⟩;have n0_:=aMx8 (below_step (by repeat (with_reducible first|exact HB.out|apply below_alloc|apply pw_below_drewN|apply below_drew1)) hb);clear HB;have HB:=n0_;clear n0_;(try clear hb);(try clear hb2);(try clear hk);(try clear hi)))
  go_ret2
  exact ⟨_,by first | rfl | (simp [errW_none,errW_some]<;>rfl) | (simp [*,errW_none,errW_some]<;>rfl),by first | exact Kd.R_nil _ _ _ _ _ | exact Kd.N_nil _ _ _ _ _ | exact Kd.V_nil _ _ _ _ _ | exact Kd.Q_nil _ _ _ _ _ | exact Kd.S_nil _ _ _ _ _,by repeat (first | (with_reducible first | exact HB.out | apply below_alloc | apply pw_below_drewN | apply below_drew1) | exact HB.out)⟩

end Go.Proofs.Ytmfeokapjmpjfaa.PArc
