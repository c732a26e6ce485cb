-- Written for this claim by a program of this session.
import Derived.Test.YtmfeokapjmpjfaaPArcx0
import Derived.Test.YtmfeokapjmpjfaaPArcx6
import Derived.Test.YtmfeokapjmpjfaaPArcx7
import Derived.Test.YtmfeokapjmpjfaaPArcx9
namespace Go.Proofs.Ytmfeokapjmpjfaa.PArc
open Go.RowKit Go.Proofs.YtmfeokapjmpjfaaW.PrintWords Go.Proofs.YtmfeokapjmpjfaaW.PrintLast Go.Proofs.YtmfeokapjmpjfaaW.PrintMore
attribute [local go_sem] max2_int min2_int max_two min_two max_three min_three max_four min_four   -- for this text's walks alone
set_option linter.unusedVariables false
set_option linter.unusedSimpArgs false

theorem sAx10 {α : Type _} {l : List α} {i : Nat} {a : α} : l.toArray.setIfInBounds i a = (l.set i a).toArray := List.setIfInBounds_toArray ..
theorem sBx10 {α : Type _} {x y : α} {l : List α} : (x :: l).set 0 y = y :: l := rfl
theorem sCx10 {α : Type _} {x y : α} {l : List α} {i : Nat} : (x :: l).set (i + 1) y = x :: l.set i y := rfl
theorem aMx10 {p : Prop} (h : p) : Aside0 p := ⟨h⟩
/-! ### lapidaryref15_Decode: function 13 -/
mutual
def lapidaryref15_Decode.j0 : Nat → List Int → Bool → Option ((List (List (S48))) × Int)
  | 0, _, _ => none
  | k + 1, x4, x26 => if x26 = true then (some (([] : List (List (S48))), 11)) else (lapidaryref15_Decode.l0 k x4 ([] : List (List (S48))) 1 0 0 0 0)
def lapidaryref15_Decode.l0 : Nat → List Int → List (List (S48)) → Int → Int → Int → Int → Int → Option ((List (List (S48))) × Int)
  | 0, _, _, _, _, _, _, _ => none
  | k + 1, x4, x6, x8, x9, x266000, x266001, x266002 => if 0 < (x4.length : Int) then (if x9 < (rd x4 0) then (if x8 ≥ (x4.length : Int) then (lapidaryref15_Decode.j2 k x4 x6 x8 x9 true x266000 x266001 x266002) else (if 0 ≤ x8 then (if x8 < (x4.length : Int) then (lapidaryref15_Decode.j2 k x4 x6 x8 x9 (decide ((rd x4 x8) > (IntKind.u64.wrap (wrap64 ((x4.length : Int) - x8))))) x266000 x266001 x266002) else (none)) else (none))) else (if x8 = (x4.length : Int) then ((lapidaryref15_Check.f k x6).bind fun t267 => (if t267 = 0 then (some (x6, 0)) else (some (([] : List (List (S48))), 11)))) else (some (([] : List (List (S48))), 11)))) else (none)
def lapidaryref15_Decode.j2 : Nat → List Int → List (List (S48)) → Int → Int → Bool → Int → Int → Int → Option ((List (List (S48))) × Int)
  | 0, _, _, _, _, _, _, _, _ => none
  | k + 1, x4, x6, x8, x9, x50, x266000, x266001, x266002 => if x50 = true then (some (([] : List (List (S48))), 11)) else (if 0 ≤ x8 then (if x8 < (x4.length : Int) then (lapidaryref15_Decode.l1 k x4 x6 (wrap64 (x8 + 1)) x9 (wrap64 (rd x4 x8)) ([] : List (S48)) 0 x266000 x266001 x266002) else (none)) else (none))
def lapidaryref15_Decode.l1 : Nat → List Int → List (List (S48)) → Int → Int → Int → List (S48) → Int → Int → Int → Int → Option ((List (List (S48))) × Int)
  | 0, _, _, _, _, _, _, _, _, _, _ => none
  | k + 1, x4, x6, x8, x9, x10, x11, x12, x266000, x266001, x266002 => if x12 < x10 then (if (wrap64 (x8 + 1)) ≥ (x4.length : Int) then (some (([] : List (List (S48))), 11)) else (if 0 ≤ x8 then (if x8 < (x4.length : Int) then ((lapidaryref01_Zag.f (rd x4 x8)).bind fun t274 => (if 0 ≤ (wrap64 (x8 + 1)) then (if (wrap64 (x8 + 1)) < (x4.length : Int) then ((lapidaryref01_Zag.f (rd x4 (wrap64 (x8 + 1)))).bind fun t276 => (if t274 > 8589934592 then (lapidaryref15_Decode.j4 k x4 x6 x8 x9 x10 x11 x12 t274 t276 true x266000 x266001 x266002) else (if t274 < (-8589934592) then (lapidaryref15_Decode.j4 k x4 x6 x8 x9 x10 x11 x12 t274 t276 true x266000 x266001 x266002) else (if t276 > 8589934592 then (lapidaryref15_Decode.j4 k x4 x6 x8 x9 x10 x11 x12 t274 t276 true x266000 x266001 x266002) else (lapidaryref15_Decode.j4 k x4 x6 x8 x9 x10 x11 x12 t274 t276 (decide (t276 < (-8589934592))) x266000 x266001 x266002))))) else (none)) else (none))) else (none)) else (none))) else (if x6.length < 5864062014805 then (lapidaryref15_Decode.l0 k x4 (x6 ++ [x11]) x8 (IntKind.u64.wrap (x9 + 1)) x266000 x266001 x266002) else (none))
def lapidaryref15_Decode.j4 : Nat → List Int → List (List (S48)) → Int → Int → Int → List (S48) → Int → Int → Int → Bool → Int → Int → Int → Option ((List (List (S48))) × Int)
  | 0, _, _, _, _, _, _, _, _, _, _, _, _, _ => none
  | k + 1, x4, x6, x8, x9, x10, x11, x12, x13, x14, x92, x266000, x266001, x266002 => if x92 = true then (some (([] : List (List (S48))), 11)) else ((lapidaryref09_Right.f k (([(⟨wrap64 (x266000 + x13), wrap64 (x266001 + x14), 0⟩ : S48)] : List (S48)))).bind fun t280 => (if t280 = true then (if x11.length < 5864062014805 then (lapidaryref15_Decode.l1 k x4 x6 (wrap64 (x8 + 2)) x9 x10 (x11 ++ [(⟨wrap64 (x266000 + x13), wrap64 (x266001 + x14), 0⟩ : S48)]) (wrap64 (x12 + 1)) (wrap64 (x266000 + x13)) (wrap64 (x266001 + x14)) 0) else (none)) else (some (([] : List (List (S48))), 11))))
end
def lapidaryref15_Decode.f (k : Nat) (l0 : List Int) : Option ((List (List (S48))) × Int) := (lapidaryref01_All.f k l0).bind fun bt261 => (if bt261.2 = 0 then (lapidaryref15_Decode.j0 k bt261.1 ((bt261.1.length : Int) == 0)) else (lapidaryref15_Decode.j0 k bt261.1 true))
theorem lapidaryref15_Decode.mono_l : ∀ k, (∀ y0 y1, LeO (lapidaryref15_Decode.j0 k y0 y1) (lapidaryref15_Decode.j0 (k + 1) y0 y1)) ∧ (∀ y0 y1 y2 y3 y4 y5 y6, LeO (lapidaryref15_Decode.l0 k y0 y1 y2 y3 y4 y5 y6) (lapidaryref15_Decode.l0 (k + 1) y0 y1 y2 y3 y4 y5 y6)) ∧ (∀ y0 y1 y2 y3 y4 y5 y6 y7, LeO (lapidaryref15_Decode.j2 k y0 y1 y2 y3 y4 y5 y6 y7) (lapidaryref15_Decode.j2 (k + 1) y0 y1 y2 y3 y4 y5 y6 y7)) ∧ (∀ y0 y1 y2 y3 y4 y5 y6 y7 y8 y9, LeO (lapidaryref15_Decode.l1 k y0 y1 y2 y3 y4 y5 y6 y7 y8 y9) (lapidaryref15_Decode.l1 (k + 1) y0 y1 y2 y3 y4 y5 y6 y7 y8 y9)) ∧ (∀ y0 y1 y2 y3 y4 y5 y6 y7 y8 y9 y10 y11 y12, LeO (lapidaryref15_Decode.j4 k y0 y1 y2 y3 y4 y5 y6 y7 y8 y9 y10 y11 y12) (lapidaryref15_Decode.j4 (k + 1) y0 y1 y2 y3 y4 y5 y6 y7 y8 y9 y10 y11 y12))
  | 0 => ⟨fun _ _ r h => by simp [lapidaryref15_Decode.j0] at h, fun _ _ _ _ _ _ _ r h => by simp [lapidaryref15_Decode.l0] at h, fun _ _ _ _ _ _ _ _ r h => by simp [lapidaryref15_Decode.j2] at h, fun _ _ _ _ _ _ _ _ _ _ r h => by simp [lapidaryref15_Decode.l1] at h, fun _ _ _ _ _ _ _ _ _ _ _ _ _ r h => by simp [lapidaryref15_Decode.j4] at h⟩
  | k + 1 => by
    obtain ⟨ih0, ih1, ih2, ih3, ih4⟩ := lapidaryref15_Decode.mono_l k
    refine ⟨?_, ?_, ?_, ?_, ?_⟩
    · intro y0 y1
      unfold lapidaryref15_Decode.j0
      repeat' first
      | (with_reducible exact ih0 _ _)
      | (with_reducible exact ih1 _ _ _ _ _ _ _)
      | (with_reducible exact ih2 _ _ _ _ _ _ _ _)
      | (with_reducible exact ih3 _ _ _ _ _ _ _ _ _ _)
      | (with_reducible exact ih4 _ _ _ _ _ _ _ _ _ _ _ _ _)
      | (with_reducible exact lapidaryref01_All.mono _ _)
      | (with_reducible exact lapidaryref09_Right.mono _ _)
      | (with_reducible exact lapidaryref15_Check.mono _ _)
      | (with_reducible exact LeO.refl _)
      | (with_reducible exact LeO.none _)
      | (with_reducible refine LeO.ite ?_ ?_)
      | (with_reducible refine LeO.bind ?_ (fun _ => ?_))
      | exact ih0 _ _
      | exact ih1 _ _ _ _ _ _ _
      | exact ih2 _ _ _ _ _ _ _ _
      | exact ih3 _ _ _ _ _ _ _ _ _ _
      | exact ih4 _ _ _ _ _ _ _ _ _ _ _ _ _
      | exact lapidaryref01_All.mono _ _
      | exact lapidaryref09_Right.mono _ _
      | exact lapidaryref15_Check.mono _ _
      | exact LeO.none _
      | refine LeO.ite ?_ ?_
      | refine LeO.bind ?_ (fun _ => ?_)
    · intro y0 y1 y2 y3 y4 y5 y6
      unfold lapidaryref15_Decode.l0
      repeat' first
      | (with_reducible exact ih0 _ _)
      | (with_reducible exact ih1 _ _ _ _ _ _ _)
      | (with_reducible exact ih2 _ _ _ _ _ _ _ _)
      | (with_reducible exact ih3 _ _ _ _ _ _ _ _ _ _)
      | (with_reducible exact ih4 _ _ _ _ _ _ _ _ _ _ _ _ _)
      | (with_reducible exact lapidaryref01_All.mono _ _)
      | (with_reducible exact lapidaryref09_Right.mono _ _)
      | (with_reducible exact lapidaryref15_Check.mono _ _)
      | (with_reducible exact LeO.refl _)
      | (with_reducible exact LeO.none _)
      | (with_reducible refine LeO.ite ?_ ?_)
      | (with_reducible refine LeO.bind ?_ (fun _ => ?_))
      | exact ih0 _ _
      | exact ih1 _ _ _ _ _ _ _
      | exact ih2 _ _ _ _ _ _ _ _
      | exact ih3 _ _ _ _ _ _ _ _ _ _
      | exact ih4 _ _ _ _ _ _ _ _ _ _ _ _ _
      | exact lapidaryref01_All.mono _ _
      | exact lapidaryref09_Right.mono _ _
      | exact lapidaryref15_Check.mono _ _
      | exact LeO.none _
      | refine LeO.ite ?_ ?_
      | refine LeO.bind ?_ (fun _ => ?_)
    · intro y0 y1 y2 y3 y4 y5 y6 y7
      unfold lapidaryref15_Decode.j2
      repeat' first
      | (with_reducible exact ih0 _ _)
      | (with_reducible exact ih1 _ _ _ _ _ _ _)
      | (with_reducible exact ih2 _ _ _ _ _ _ _ _)
      | (with_reducible exact ih3 _ _ _ _ _ _ _ _ _ _)
      | (with_reducible exact ih4 _ _ _ _ _ _ _ _ _ _ _ _ _)
      | (with_reducible exact lapidaryref01_All.mono _ _)
      | (with_reducible exact lapidaryref09_Right.mono _ _)
      | (with_reducible exact lapidaryref15_Check.mono _ _)
      | (with_reducible exact LeO.refl _)
      | (with_reducible exact LeO.none _)
      | (with_reducible refine LeO.ite ?_ ?_)
      | (with_reducible refine LeO.bind ?_ (fun _ => ?_))
      | exact ih0 _ _
      | exact ih1 _ _ _ _ _ _ _
      | exact ih2 _ _ _ _ _ _ _ _
      | exact ih3 _ _ _ _ _ _ _ _ _ _
      | exact ih4 _ _ _ _ _ _ _ _ _ _ _ _ _
      | exact lapidaryref01_All.mono _ _
      | exact lapidaryref09_Right.mono _ _
      | exact lapidaryref15_Check.mono _ _
      | exact LeO.none _
      | refine LeO.ite ?_ ?_
      | refine LeO.bind ?_ (fun _ => ?_)
    · intro y0 y1 y2 y3 y4 y5 y6 y7 y8 y9
      unfold lapidaryref15_Decode.l1
      repeat' first
      | (with_reducible exact ih0 _ _)
      | (with_reducible exact ih1 _ _ _ _ _ _ _)
      | (with_reducible exact ih2 _ _ _ _ _ _ _ _)
      | (with_reducible exact ih3 _ _ _ _ _ _ _ _ _ _)
      | (with_reducible exact ih4 _ _ _ _ _ _ _ _ _ _ _ _ _)
      | (with_reducible exact lapidaryref01_All.mono _ _)
      | (with_reducible exact lapidaryref09_Right.mono _ _)
      | (with_reducible exact lapidaryref15_Check.mono _ _)
      | (with_reducible exact LeO.refl _)
      | (with_reducible exact LeO.none _)
      | (with_reducible refine LeO.ite ?_ ?_)
      | (with_reducible refine LeO.bind ?_ (fun _ => ?_))
      | exact ih0 _ _
      | exact ih1 _ _ _ _ _ _ _
      | exact ih2 _ _ _ _ _ _ _ _
      | exact ih3 _ _ _ _ _ _ _ _ _ _
      | exact ih4 _ _ _ _ _ _ _ _ _ _ _ _ _
      | exact lapidaryref01_All.mono _ _
      | exact lapidaryref09_Right.mono _ _
      | exact lapidaryref15_Check.mono _ _
      | exact LeO.none _
      | refine LeO.ite ?_ ?_
      | refine LeO.bind ?_ (fun _ => ?_)
    · intro y0 y1 y2 y3 y4 y5 y6 y7 y8 y9 y10 y11 y12
      unfold lapidaryref15_Decode.j4
      repeat' first
      | (with_reducible exact ih0 _ _)
      | (with_reducible exact ih1 _ _ _ _ _ _ _)
      | (with_reducible exact ih2 _ _ _ _ _ _ _ _)
      | (with_reducible exact ih3 _ _ _ _ _ _ _ _ _ _)
      | (with_reducible exact ih4 _ _ _ _ _ _ _ _ _ _ _ _ _)
      | (with_reducible exact lapidaryref01_All.mono _ _)
      | (with_reducible exact lapidaryref09_Right.mono _ _)
      | (with_reducible exact lapidaryref15_Check.mono _ _)
      | (with_reducible exact LeO.refl _)
      | (with_reducible exact LeO.none _)
      | (with_reducible refine LeO.ite ?_ ?_)
      | (with_reducible refine LeO.bind ?_ (fun _ => ?_))
      | exact ih0 _ _
      | exact ih1 _ _ _ _ _ _ _
      | exact ih2 _ _ _ _ _ _ _ _
      | exact ih3 _ _ _ _ _ _ _ _ _ _
      | exact ih4 _ _ _ _ _ _ _ _ _ _ _ _ _
      | exact lapidaryref01_All.mono _ _
      | exact lapidaryref09_Right.mono _ _
      | exact lapidaryref15_Check.mono _ _
      | exact LeO.none _
      | refine LeO.ite ?_ ?_
      | refine LeO.bind ?_ (fun _ => ?_)
theorem lapidaryref15_Decode.mono : ∀ a0 k, LeO (lapidaryref15_Decode.f k a0) (lapidaryref15_Decode.f (k + 1) a0) := by
  intro a0 k
  obtain ⟨ih0, ih1, ih2, ih3, ih4⟩ := lapidaryref15_Decode.mono_l k
  unfold lapidaryref15_Decode.f
  repeat' first
      | (with_reducible exact ih0 _ _)
      | (with_reducible exact ih1 _ _ _ _ _ _ _)
      | (with_reducible exact ih2 _ _ _ _ _ _ _ _)
      | (with_reducible exact ih3 _ _ _ _ _ _ _ _ _ _)
      | (with_reducible exact ih4 _ _ _ _ _ _ _ _ _ _ _ _ _)
      | (with_reducible exact lapidaryref01_All.mono _ _)
      | (with_reducible exact lapidaryref09_Right.mono _ _)
      | (with_reducible exact lapidaryref15_Check.mono _ _)
      | (with_reducible exact LeO.refl _)
      | (with_reducible exact LeO.none _)
      | (with_reducible refine LeO.ite ?_ ?_)
      | (with_reducible refine LeO.bind ?_ (fun _ => ?_))
      | exact ih0 _ _
      | exact ih1 _ _ _ _ _ _ _
      | exact ih2 _ _ _ _ _ _ _ _
      | exact ih3 _ _ _ _ _ _ _ _ _ _
      | exact ih4 _ _ _ _ _ _ _ _ _ _ _ _ _
      | exact lapidaryref01_All.mono _ _
      | exact lapidaryref09_Right.mono _ _
      | exact lapidaryref15_Check.mono _ _
      | exact LeO.none _
      | refine LeO.ite ?_ ?_
      | refine LeO.bind ?_ (fun _ => ?_)
set_option maxHeartbeats 8000000 in
set_option maxRecDepth 100000 in
theorem lapidaryref15_Decode.calls (k : Nat) (A0 : Option Addr) (c0 : Nat) (l0 : List Int) (r1 : List (List (S48))) (r2 : Int) (w : World) (hr0 : Kd.C (Kd.int .u8) w A0 l0.length l0) (hc0 : l0.length ≤ c0) (h : lapidaryref15_Decode.f k l0 = some (r1, r2)) :
  Calls Try.prog 13 #[.slice A0 l0.length c0] w fun e w' => ∃ v0_ : Value,e = .returned (.tuple #[v0_,.int .i64 r2]) ∧ Kd.S (Kd.slice 48 k48) 44 w' w.heap.size (fun _ => True) v0_ r1 ∧ Below w.heap.size w w':=by
 have hu48:=Try.underlying48
 have HR0:=aMx10 hr0
 have HC0:=aMx10 hc0
 clear hr0 hc0
 have HB:=aMx10 (Below.refl w.heap.size w)
 have H : ((lapidaryref01_All.f k l0).bind fun bt261 => (if bt261.2 = 0 then (lapidaryref15_Decode.j0 k bt261.1 ((bt261.1.length : Int) == 0)) else (lapidaryref15_Decode.j0 k bt261.1 true))) = some (r1,r2):=h
 clear h
 replace H:=Option.bind_eq_some_iff.mp H
 obtain ⟨⟨t261,t262⟩,A20,H⟩:=H
 replace H : (if t262 = 0 then (lapidaryref15_Decode.j0 k t261 ((t261.length : Int) == 0)) else (lapidaryref15_Decode.j0 k t261 true)) = some (r1,r2):=H
 have A2:=aMx10 A20
 clear A20
 have HC3:=aMx10 H
 clear H
 go_enter Try.func13,Try.ntmps13
 go_upto_region 2 with (first | ((with_reducible refine gate_callee (f:=28) rfl ?_);refine goesL_ (some 17) rfl rfl Try.func28 (by kernel_rfl) rfl #[.slice A0 l0.length c0] rfl (by (try simp only [List.map_toArray,List.map_cons,List.map_nil]);first | done | rfl | (simp only [List.length_drop,List.length_take];rfl)) ?_;(with_reducible refine (lapidaryref01_All.calls k _ _ l0 t261 t262 _ ?side1 ?side2 A2.out).mono ?_);(case side1 => repeat (first | exact HR0.out | (with_reducible refine Kd.C_alloc ?_ _) | (with_reducible refine Kd.C_drewN ?_ _) | (with_reducible refine Kd.C_drew ?_)));(case side2 => exact HC0.out);rintro e w4 ⟨v263,rfl,ho0,hb⟩;refine ⟨_,rfl,?_⟩;have n0_:=aMx10 (Kd.R_lower ho0 (below_size (by repeat (first | (with_reducible first | exact HB.out | apply below_alloc | apply pw_below_drewN | apply below_drew1) | exact HB.out))));have n1_:=aMx10 (below_step (by repeat (first | (with_reducible first | exact HB.out | apply below_alloc | apply pw_below_drewN | apply below_drew1) | exact HB.out)) hb);clear HB;have HO264:=n0_;have HB:=n1_;clear n0_ n1_;(try clear hb);(try clear hb2);(try clear hk);(try clear hi);(try clear ho0)))
 (try simp only [Act.put,sAx10,sBx10,sCx10])
 go_cut [26] (fun v26 wc => ∃ (kq : Nat) (x26_2 : Bool),v26 = .bool x26_2 ∧ Aside0 (lapidaryref15_Decode.j0 kq t261 x26_2 = some (r1,r2)) ∧ Aside0 (kq ≤ k) ∧ Aside0 (Kd.R (Kd.int .u64) 51 wc w.heap.size (fun _ => True) v263 t261) ∧ Aside0 (Below w.heap.size w wc))
 case first =>
  have H:=HC3.out
  clear HC3
  by_cases c5 : t262 = 0
  ·rw [if_pos c5] at H
   have c5b0 : (t262 == 0) = true:=beq_iff_eq.mpr c5
   have c5b1 : (t262 != 0) = false:=bne_eq_false_iff_eq.mpr c5
   clear c5
   (first | rw [c5b0] | (simp only [i64_w,i32_w];rw [c5b0]) | skip)
   have H':=aMx10 H
   clear H
   obtain ⟨Ao6,co6,eo6⟩:=Kd.R_slice HO264.out
   subst eo6
   go_wp2
   go_meet
   case rel => exact ⟨_,(((t261.length : Int) == 0)),(by first | rfl | (simp;done) | (simp [*];done)),H',⟨by first | omega | exact Nat.le_refl _⟩,⟨by (with_reducible repeat (first | apply Kd.R_alloc | apply Kd.R_drewN | apply Kd.R_drew));exact HO264.out⟩,⟨by repeat (first | (with_reducible first | exact HB.out | apply below_alloc | apply pw_below_drewN | apply below_drew1) | exact HB.out)⟩⟩
  ·rw [if_neg c5] at H
   have c5b0 : (t262 == 0) = false:=beq_eq_false_iff_ne.mpr c5
   have c5b1 : (t262 != 0) = true:=bne_iff_ne.mpr c5
   (first | rw [c5b0] | (simp only [i64_w,i32_w];rw [c5b0]) | skip)
   have H':=aMx10 H
   clear H
   go_wp2
   go_meet
   case rel => exact ⟨_,(true),(by first | rfl | (simp;done) | (simp [*];done)),H',⟨by first | omega | exact Nat.le_refl _⟩,⟨by (with_reducible repeat (first | apply Kd.R_alloc | apply Kd.R_drewN | apply Kd.R_drew));exact HO264.out⟩,⟨by repeat (first | (with_reducible first | exact HB.out | apply below_alloc | apply pw_below_drewN | apply below_drew1) | exact HB.out)⟩⟩
 case rest =>
  clear HC3
  try clear c1
  try clear c2
  try clear p2
  try clear c5
  try clear c5b0
  try clear c5b1
  obtain ⟨kq,x26_2,rfl,HA,HJ2,HO_4,HB⟩:=hcut
  cases kq with
  | zero => exact absurd HA.out (by simp [lapidaryref15_Decode.j0])
  | succ kj2 =>
   have H:=HA.out
   clear HA
   simp only [lapidaryref15_Decode.j0] at H
   by_cases c7 : x26_2 = true
   ·subst c7
    have H1 : (some (([] : List (List (S48))),11)) = some (r1,r2):=by rw [if_pos rfl] at H;exact H
    clear H
    have H:=H1
    clear H1
    simp only [Option.some.injEq,Prod.mk.injEq] at H
    obtain ⟨rfl,rfl⟩:=H
    go_wp2
    go_ret2
    exact ⟨_,by first | rfl | (simp [errW_none,errW_some]<;>rfl) | (simp [*,errW_none,errW_some]<;>rfl),by first | exact Kd.S_nil _ _ _ _ _ | exact Kd.N_nil _ _ _ _ _ | exact Kd.V_nil _ _ _ _ _ | exact Kd.Q_nil _ _ _ _ _ | exact Kd.R_nil _ _ _ _ _,by repeat (first | (with_reducible first | exact HB.out | apply below_alloc | apply pw_below_drewN | apply below_drew1) | exact HB.out)⟩
   ·replace c7:=Bool.eq_false_iff.mpr c7
    subst c7
    have H1 : (lapidaryref15_Decode.l0 kj2 t261 ([] : List (List (S48))) 1 0 0 0 0) = some (r1,r2):=by rw [if_neg (show ¬ (false = true) by decide)] at H;exact H
    clear H
    have H:=H1
    clear H1
    have H':=aMx10 H
    clear H
    go_wp2_with (first|((with_reducible refine gate_dst (N:=7) rfl ?_);(try (refine gate_guard (by rfl) ?_;dsimp only));refine box_event ?hg (N:=7) ?hd (cs:=#[.int .i64 0,.int .i64 0,.int .i64 0]) (t:=48) ?hr ?_;(case hd => rfl);(case hg => rfl);(case hr => first|(go_simp;done)|(go_simp;rfl));intro gb265 hg w8 hbox hb;have n0_:=aMx10 (Kd.R_below (by (with_reducible repeat (first|apply Kd.R_alloc|apply Kd.R_drewN|apply Kd.R_drew));exact HO_4.out) hb);have n1_:=aMx10 (below_step (by repeat (with_reducible first|exact HB.out|apply below_alloc|apply pw_below_drewN|apply below_drew1)) hb);have n2_:=aMx10 (hbox);have n3_:=aMx10 ((by rw [hg];exact (below_size (by repeat (with_reducible first|exact HB.out|apply below_alloc|apply pw_below_drewN|apply below_drew1))) : w.heap.size ≤ gb265));have n4_:=aMx10 ((by rw [hg];exact (below_size (by repeat (with_reducible first|exact HB.out|apply below_alloc|apply pw_below_drewN|apply below_drew1))) : w.heap.size ≤ gb265));clear HO_4;clear HB;have HO_4:=n0_;have HB:=n1_;have BK265:=n2_;have GW265:=n3_;have GE265:=n4_;clear n0_ n1_ n2_ n3_ n4_;clear hb hbox hg;have hcz9_0 : w8.cell? ⟨gb265,0,none⟩ = some (.int .i64 0):=(blk_cell BK265.out 0).trans rfl;have hcz9_1 : w8.cell? ⟨gb265,1,none⟩ = some (.int .i64 0):=(blk_cell BK265.out 1).trans rfl;have hcz9_2 : w8.cell? ⟨gb265,2,none⟩ = some (.int .i64 0):=(blk_cell BK265.out 2).trans rfl;have hfz9_0:=blk_frozen BK265.out 0;have hfz9_1:=blk_frozen BK265.out 1;have hfz9_2:=blk_frozen BK265.out 2))
    go_loopg [6,8,9] kj2 (fun kq v6 v8 v9 w' => ∃ (x6_2 : List (List (S48))) (x8_2 : Int) (x9_2 : Int) (x266000_2 : Int) (x266001_2 : Int) (x266002_2 : Int),v8 = .int .i64 x8_2 ∧ v9 = .int .u64 x9_2 ∧ Aside0 (lapidaryref15_Decode.l0 kq t261 x6_2 x8_2 x9_2 x266000_2 x266001_2 x266002_2 = some (r1,r2)) ∧ Aside0 (kq ≤ kj2) ∧ Aside0 (Kd.R (Kd.int .u64) 51 w' w.heap.size (fun _ => True) v263 t261) ∧ Aside0 (Kd.S (Kd.slice 48 k48) 44 w' w.heap.size (fun k_ => k_ ≠ gb265) v6 x6_2) ∧ Aside0 (w'.heap[gb265]? = some (.cells #[.int .i64 x266000_2,.int .i64 x266001_2,.int .i64 x266002_2] 48 (0,0))) ∧ Aside0 (Below w.heap.size w w'))
    case atStart => exact ⟨(([] : List (List (S48)))),(1),(0),(0),(0),(0),(by first | rfl | (simp;done) | (simp [*];done)),(by first | rfl | (simp;done) | (simp [*];done)),H',⟨Nat.le_refl _⟩,⟨by (with_reducible repeat (first | apply Kd.R_alloc | apply Kd.R_drewN | apply Kd.R_drew));exact Kd.R_mono (Kd.R_far (p:=⟨gb265,2,none⟩) (Kd.R_far (p:=⟨gb265,1,none⟩) (Kd.R_far (p:=⟨gb265,0,none⟩) (Kd.R_types HO_4.out BK265.out (by decide)) (fun _ hk => hk.2) (.int .i64 0)) (fun _ hk => hk.2) (.int .i64 0)) (fun _ hk => hk.2) (.int .i64 0)) (fun _ hk => trivial)⟩,⟨by first | exact Kd.S_nil _ _ _ _ _ | exact Kd.N_nil _ _ _ _ _ | exact Kd.V_nil _ _ _ _ _ | exact Kd.Q_nil _ _ _ _ _ | exact Kd.R_nil _ _ _ _ _⟩,⟨by (with_reducible repeat (first | refine blk_drewN ?_ _ | refine blk_drew ?_ | refine blk_alloc ?_ _));refine blk_put (cs:=#[.int .i64 0,.int .i64 0,.int .i64 0]) ?_ 2 _ rfl;(with_reducible repeat (first | refine blk_drewN ?_ _ | refine blk_drew ?_ | refine blk_alloc ?_ _));refine blk_put (cs:=#[.int .i64 0,.int .i64 0,.int .i64 0]) ?_ 1 _ rfl;(with_reducible repeat (first | refine blk_drewN ?_ _ | refine blk_drew ?_ | refine blk_alloc ?_ _));refine blk_put (cs:=#[.int .i64 0,.int .i64 0,.int .i64 0]) ?_ 0 _ rfl;(with_reducible repeat (first | refine blk_drewN ?_ _ | refine blk_drew ?_ | refine blk_alloc ?_ _));exact BK265.out⟩,⟨by repeat (first | (with_reducible first | exact HB.out | apply below_alloc | apply pw_below_drewN | apply below_drew1 | refine below_set ?_ GE265.out) | exact HB.out)⟩⟩
    case round =>
     clear H'
     try clear c1
     try clear c2
     try clear p2
     try clear c5
     try clear c5b0
     try clear c5b1
     try clear c7
     try clear hcz9_0
     try clear hcz9_1
     try clear hcz9_2
     try clear hfz9_0
     try clear hfz9_1
     try clear hfz9_2
     try clear p2
     obtain ⟨x6_2,x8_2,x9_2,x266000_2,x266001_2,x266002_2,rfl,rfl,HA,HK2,HO_4,HO_6,BK265,HB⟩:=hrel
     cases gk with
     | zero => exact absurd HA.out (by simp [lapidaryref15_Decode.l0])
     | succ k2 =>
      have H:=HA.out
      clear HA
      simp only [lapidaryref15_Decode.l0] at H
      by_cases c10 : 0 < (t261.length : Int)
      ·rw [if_pos c10] at H
       have c10b0 : decide (0 < (t261.length : Int)) = true:=decide_eq_true c10
       have c10b1 : decide (0 < t261.length) = true:=decide_eq_true (by omega)
       clear c10
       by_cases c11 : x9_2 < (rd t261 0)
       ·rw [if_pos c11] at H
        have c11b0 : decide (x9_2 < (rd t261 0)) = true:=decide_eq_true c11
        clear c11
        have HC12:=aMx10 H
        clear H
        obtain ⟨Ao13,co13,eo13⟩:=Kd.R_slice HO_4.out
        subst eo13
        have p266 : 0 ≤ (0 : Int):=(by omega)
        have q266 : 0 < (t261.length : Int):=of_decide_eq_true (by first | (with_reducible assumption) | assumption)
        obtain ⟨ad266,e266,hx266_0⟩:=Kd.at_int (Kd.R_reads' HO_4.out).2.2 0 p266 q266
        cases e266
        have qi266 : (0 < t261.length) = True:=eq_true (by omega)
        (try rw [show ((0 : Int)).toNat = 0 from rfl] at hx266_0)
        (try rw [Addr.add_zero'] at hx266_0)
        replace p266:=eq_true p266
        replace q266:=eq_true q266
        go_upto_region 10 with (fail)
        go_cut [50] (fun v50 wc => ∃ (kq : Nat) (x50_11 : Bool),v50 = .bool x50_11 ∧ Aside0 (lapidaryref15_Decode.j2 kq t261 x6_2 x8_2 x9_2 x50_11 x266000_2 x266001_2 x266002_2 = some (r1,r2)) ∧ Aside0 (kq ≤ k2) ∧ Aside0 (Kd.R (Kd.int .u64) 51 wc w.heap.size (fun _ => True) (.slice (some ad266) t261.length co13) t261) ∧ Aside0 (Kd.S (Kd.slice 48 k48) 44 wc w.heap.size (fun k_ => k_ ≠ gb265) u6 x6_2) ∧ Aside0 (wc.heap[gb265]? = some (.cells #[.int .i64 x266000_2,.int .i64 x266001_2,.int .i64 x266002_2] 48 (0,0))) ∧ Aside0 (Below w.heap.size w wc))
        case first =>
         have H:=HC12.out
         clear HC12
         by_cases c14 : x8_2 ≥ (t261.length : Int)
         ·rw [if_pos c14] at H
          have c14b0 : decide ((t261.length : Int) ≤ x8_2) = true:=decide_eq_true c14
          clear c14
          (first | rw [c14b0] | (simp only [i64_w,i32_w];rw [c14b0]) | skip)
          have H':=aMx10 H
          clear H
          go_wp2
          go_meet
          case rel => exact ⟨_,(true),(by first | rfl | (simp;done) | (simp [*];done)),H',⟨by have:=HJ2.out;have:=HK2.out;first | omega | exact Nat.le_refl _⟩,⟨by (with_reducible repeat (first | apply Kd.R_alloc | apply Kd.R_drewN | apply Kd.R_drew));exact HO_4.out⟩,⟨by (with_reducible repeat (first | apply Kd.S_alloc | apply Kd.S_drewN | apply Kd.S_drew));exact HO_6.out⟩,⟨by (with_reducible repeat (first | refine blk_drewN ?_ _ | refine blk_drew ?_ | refine blk_alloc ?_ _));exact BK265.out⟩,⟨by repeat (first | (with_reducible first | exact HB.out | apply below_alloc | apply pw_below_drewN | apply below_drew1 | refine below_set ?_ GE265.out) | exact HB.out)⟩⟩
         ·rw [if_neg c14] at H
          have c14b0 : decide ((t261.length : Int) ≤ x8_2) = false:=decide_eq_false c14
          clear c14
          (first | rw [c14b0] | (simp only [i64_w,i32_w];rw [c14b0]) | skip)
          by_cases c15 : 0 ≤ x8_2
          ·rw [if_pos c15] at H
           have c15b0 : decide (0 ≤ x8_2) = true:=decide_eq_true c15
           clear c15
           by_cases c16 : x8_2 < (t261.length : Int)
           ·rw [if_pos c16] at H
            have c16b0 : decide (x8_2 < (t261.length : Int)) = true:=decide_eq_true c16
            clear c16
            have H':=aMx10 H
            clear H
            have p268 : 0 ≤ (x8_2 : Int):=of_decide_eq_true (by first | (with_reducible assumption) | assumption)
            have q268 : x8_2 < (t261.length : Int):=of_decide_eq_true (by first | (with_reducible assumption) | assumption)
            obtain ⟨ad268,e268,hx268_0⟩:=Kd.at_int (Kd.R_reads' HO_4.out).2.2 x8_2 p268 q268
            obtain rfl : ad266 = ad268:=(by injection e268)
            replace p268:=eq_true p268
            replace q268:=eq_true q268
            go_wp2
            go_meet
            case rel => exact ⟨_,(decide ((rd t261 x8_2) > (IntKind.u64.wrap (wrap64 ((t261.length : Int) - x8_2))))),(by first | rfl | (simp;done) | (simp [*];done)),H',⟨by have:=HJ2.out;have:=HK2.out;first | omega | exact Nat.le_refl _⟩,⟨by (with_reducible repeat (first | apply Kd.R_alloc | apply Kd.R_drewN | apply Kd.R_drew));exact HO_4.out⟩,⟨by (with_reducible repeat (first | apply Kd.S_alloc | apply Kd.S_drewN | apply Kd.S_drew));exact HO_6.out⟩,⟨by (with_reducible repeat (first | refine blk_drewN ?_ _ | refine blk_drew ?_ | refine blk_alloc ?_ _));exact BK265.out⟩,⟨by repeat (first | (with_reducible first | exact HB.out | apply below_alloc | apply pw_below_drewN | apply below_drew1 | refine below_set ?_ GE265.out) | exact HB.out)⟩⟩
           ·rw [if_neg c16] at H
            exact absurd H (by simp)
          ·rw [if_neg c15] at H
           exact absurd H (by simp)
        case rest =>
         clear HC12
         try clear c1
         try clear c2
         try clear p2
         try clear q2
         try clear hx2
         try clear qi2
         try clear c5
         try clear c5b0
         try clear c5b1
         try clear p6
         try clear c7
         try clear c10
         try clear c10b0
         try clear c10b1
         try clear c11
         try clear c11b0
         try clear c13
         try clear c14
         try clear c14b0
         try clear c15
         try clear c15b0
         try clear c16
         try clear c16b0
         try clear hcz9_0
         try clear hcz9_1
         try clear hcz9_2
         try clear hfz9_0
         try clear hfz9_1
         try clear hfz9_2
         try clear hx266_0
         try clear hx268_0
         try clear p2
         try clear p266
         try clear p268
         try clear q266
         try clear q268
         obtain ⟨kq,x50_11,rfl,HA,HJ11,HO_4,HO_6,BK265,HB⟩:=hcut
         cases kq with
         | zero => exact absurd HA.out (by simp [lapidaryref15_Decode.j2])
         | succ kj11 =>
          have H:=HA.out
          clear HA
          simp only [lapidaryref15_Decode.j2] at H
          by_cases c17 : x50_11 = true
          ·subst c17
           have H1 : (some (([] : List (List (S48))),11)) = some (r1,r2):=by rw [if_pos rfl] at H;exact H
           clear H
           have H:=H1
           clear H1
           simp only [Option.some.injEq,Prod.mk.injEq] at H
           obtain ⟨rfl,rfl⟩:=H
           go_wp2
           go_ret2
           exact ⟨_,by first | rfl | (simp [errW_none,errW_some]<;>rfl) | (simp [*,errW_none,errW_some]<;>rfl),by first | exact Kd.S_nil _ _ _ _ _ | exact Kd.N_nil _ _ _ _ _ | exact Kd.V_nil _ _ _ _ _ | exact Kd.Q_nil _ _ _ _ _ | exact Kd.R_nil _ _ _ _ _,by repeat (first | (with_reducible first | exact HB.out | apply below_alloc | apply pw_below_drewN | apply below_drew1 | refine below_set ?_ GE265.out) | exact HB.out)⟩
          ·replace c17:=Bool.eq_false_iff.mpr c17
           subst c17
           have H1 : (if 0 ≤ x8_2 then (if x8_2 < (t261.length : Int) then (lapidaryref15_Decode.l1 kj11 t261 x6_2 (wrap64 (x8_2+1)) x9_2 (wrap64 (rd t261 x8_2)) ([] : List (S48)) 0 x266000_2 x266001_2 x266002_2) else (none)) else (none)) = some (r1,r2):=by rw [if_neg (show ¬ (false = true) by decide)] at H;exact H
           clear H
           have H:=H1
           clear H1
           by_cases c18 : 0 ≤ x8_2
           ·rw [if_pos c18] at H
            have c18b0 : decide (0 ≤ x8_2) = true:=decide_eq_true c18
            clear c18
            by_cases c19 : x8_2 < (t261.length : Int)
            ·rw [if_pos c19] at H
             have c19b0 : decide (x8_2 < (t261.length : Int)) = true:=decide_eq_true c19
             clear c19
             have H':=aMx10 H
             clear H
             have p269 : 0 ≤ (x8_2 : Int):=of_decide_eq_true (by first | (with_reducible assumption) | assumption)
             have q269 : x8_2 < (t261.length : Int):=of_decide_eq_true (by first | (with_reducible assumption) | assumption)
             obtain ⟨ad269,e269,hx269_0⟩:=Kd.at_int (Kd.R_reads' HO_4.out).2.2 x8_2 p269 q269
             obtain rfl : ad266 = ad269:=(by injection e269)
             replace p269:=eq_true p269
             replace q269:=eq_true q269
             go_wp2
             go_loopg [8,11,12] kj11 (fun kq v8 v11 v12 w' => ∃ (x8_4 : Int) (x11_4 : List (S48)) (x12_4 : Int) (x266000_4 : Int) (x266001_4 : Int) (x266002_4 : Int),v8 = .int .i64 x8_4 ∧ v12 = .int .i64 x12_4 ∧ Aside0 (lapidaryref15_Decode.l1 kq t261 x6_2 x8_4 x9_2 (wrap64 (rd t261 x8_2)) x11_4 x12_4 x266000_4 x266001_4 x266002_4 = some (r1,r2)) ∧ Aside0 (kq ≤ kj11) ∧ Aside0 (Kd.R (Kd.int .u64) 51 w' w.heap.size (fun _ => True) (.slice (some ad266) t261.length co13) t261) ∧ Aside0 (Kd.S (Kd.slice 48 k48) 44 w' w.heap.size (fun k_ => some k_ ≠ (v11 : Value).ownBlock ∧ k_ ≠ gb265) u6 x6_2) ∧ Aside0 (Kd.R k48 48 w' w.heap.size (fun k_ => k_ ≠ gb265) v11 x11_4) ∧ Aside0 (w'.heap[gb265]? = some (.cells #[.int .i64 x266000_4,.int .i64 x266001_4,.int .i64 x266002_4] 48 (0,0))) ∧ Aside0 (Below w.heap.size w w'))
             case atStart => exact ⟨(wrap64 (x8_2+1)),(([] : List (S48))),(0),(x266000_2),(x266001_2),(x266002_2),(by first | rfl | (simp;done) | (simp [*];done)),(by first | rfl | (simp;done) | (simp [*];done)),H',⟨Nat.le_refl _⟩,⟨by (with_reducible repeat (first | apply Kd.R_alloc | apply Kd.R_drewN | apply Kd.R_drew));exact HO_4.out⟩,⟨by (with_reducible repeat (first | apply Kd.S_alloc | apply Kd.S_drewN | apply Kd.S_drew));exact Kd.S_mono HO_6.out (fun _ hk => ⟨(by simp [Value.ownBlock]),hk⟩)⟩,⟨by first | exact Kd.R_nil _ _ _ _ _ | exact Kd.N_nil _ _ _ _ _ | exact Kd.V_nil _ _ _ _ _ | exact Kd.Q_nil _ _ _ _ _ | exact Kd.S_nil _ _ _ _ _⟩,⟨by (with_reducible repeat (first | refine blk_drewN ?_ _ | refine blk_drew ?_ | refine blk_alloc ?_ _));exact BK265.out⟩,⟨by repeat (first | (with_reducible first | exact HB.out | apply below_alloc | apply pw_below_drewN | apply below_drew1 | refine below_set ?_ GE265.out) | exact HB.out)⟩⟩
             case round =>
              clear H'
              try clear c1
              try clear c2
              try clear p2
              try clear q2
              try clear hx2
              try clear qi2
              try clear c5
              try clear c5b0
              try clear c5b1
              try clear p6
              try clear c7
              try clear c10
              try clear c10b0
              try clear c10b1
              try clear c11
              try clear c11b0
              try clear c13
              try clear c14
              try clear c14b0
              try clear c15
              try clear c15b0
              try clear c16
              try clear c16b0
              try clear c17
              try clear c18
              try clear c18b0
              try clear c19
              try clear c19b0
              try clear hcz9_0
              try clear hcz9_1
              try clear hcz9_2
              try clear hfz9_0
              try clear hfz9_1
              try clear hfz9_2
              try clear hx266_0
              try clear hx268_0
              try clear hx269_0
              try clear p2
              try clear p266
              try clear p268
              try clear p269
              try clear p6
              try clear q2
              try clear q266
              try clear q268
              try clear q269
              obtain ⟨x8_4,x11_4,x12_4,x266000_4,x266001_4,x266002_4,rfl,rfl,HA,HK4,HO_4,HO_6,HO_11,BK265,HB⟩:=hrel
              cases gk with
              | zero => exact absurd HA.out (by simp [lapidaryref15_Decode.l1])
              | succ k4 =>
               have H:=HA.out
               clear HA
               simp only [lapidaryref15_Decode.l1] at H
               by_cases c20 : x12_4 < (wrap64 (rd t261 x8_2))
               ·rw [if_pos c20] at H
                have c20b0 : decide (x12_4 < (wrap64 (rd t261 x8_2))) = true:=decide_eq_true c20
                clear c20
                by_cases c21 : (wrap64 (x8_4+1)) ≥ (t261.length : Int)
                ·rw [if_pos c21] at H
                 have c21b0 : decide ((t261.length : Int) ≤ (wrap64 (x8_4+1))) = true:=decide_eq_true c21
                 clear c21
                 simp only [Option.some.injEq,Prod.mk.injEq] at H
                 obtain ⟨rfl,rfl⟩:=H
                 go_wp2
                 go_ret2
                 exact ⟨_,by first | rfl | (simp [errW_none,errW_some]<;>rfl) | (simp [*,errW_none,errW_some]<;>rfl),by first | exact Kd.S_nil _ _ _ _ _ | exact Kd.N_nil _ _ _ _ _ | exact Kd.V_nil _ _ _ _ _ | exact Kd.Q_nil _ _ _ _ _ | exact Kd.R_nil _ _ _ _ _,by repeat (first | (with_reducible first | exact HB.out | apply below_alloc | apply pw_below_drewN | apply below_drew1 | refine below_set ?_ GE265.out) | exact HB.out)⟩
                ·rw [if_neg c21] at H
                 have c21b0 : decide ((t261.length : Int) ≤ (wrap64 (x8_4+1))) = false:=decide_eq_false c21
                 clear c21
                 by_cases c22 : 0 ≤ x8_4
                 ·rw [if_pos c22] at H
                  have c22b0 : decide (0 ≤ x8_4) = true:=decide_eq_true c22
                  clear c22
                  by_cases c23 : x8_4 < (t261.length : Int)
                  ·rw [if_pos c23] at H
                   have c23b0 : decide (x8_4 < (t261.length : Int)) = true:=decide_eq_true c23
                   clear c23
                   replace H:=Option.bind_eq_some_iff.mp H
                   obtain ⟨t274,A240,H⟩:=H
                   replace H : (if 0 ≤ (wrap64 (x8_4+1)) then (if (wrap64 (x8_4+1)) < (t261.length : Int) then ((lapidaryref01_Zag.f (rd t261 (wrap64 (x8_4+1)))).bind fun t276 => (if t274 > 8589934592 then (lapidaryref15_Decode.j4 k4 t261 x6_2 x8_4 x9_2 (wrap64 (rd t261 x8_2)) x11_4 x12_4 t274 t276 true x266000_4 x266001_4 x266002_4) else (if t274 < (-8589934592) then (lapidaryref15_Decode.j4 k4 t261 x6_2 x8_4 x9_2 (wrap64 (rd t261 x8_2)) x11_4 x12_4 t274 t276 true x266000_4 x266001_4 x266002_4) else (if t276 > 8589934592 then (lapidaryref15_Decode.j4 k4 t261 x6_2 x8_4 x9_2 (wrap64 (rd t261 x8_2)) x11_4 x12_4 t274 t276 true x266000_4 x266001_4 x266002_4) else (lapidaryref15_Decode.j4 k4 t261 x6_2 x8_4 x9_2 (wrap64 (rd t261 x8_2)) x11_4 x12_4 t274 t276 (decide (t276 < (-8589934592))) x266000_4 x266001_4 x266002_4))))) else (none)) else (none)) = some (r1,r2):=H
                   have A24:=aMx10 A240
                   clear A240
                   obtain ⟨ji25,hji25⟩ : ∃ j_ : Int,(wrap64 (x8_4+1)) = j_:=⟨_,rfl⟩
                   replace H : (if 0 ≤ (ji25) then (if (ji25) < (t261.length : Int) then ((lapidaryref01_Zag.f (rd t261 (ji25))).bind fun t276 => (if t274 > 8589934592 then (lapidaryref15_Decode.j4 k4 t261 x6_2 x8_4 x9_2 (wrap64 (rd t261 x8_2)) x11_4 x12_4 t274 t276 true x266000_4 x266001_4 x266002_4) else (if t274 < (-8589934592) then (lapidaryref15_Decode.j4 k4 t261 x6_2 x8_4 x9_2 (wrap64 (rd t261 x8_2)) x11_4 x12_4 t274 t276 true x266000_4 x266001_4 x266002_4) else (if t276 > 8589934592 then (lapidaryref15_Decode.j4 k4 t261 x6_2 x8_4 x9_2 (wrap64 (rd t261 x8_2)) x11_4 x12_4 t274 t276 true x266000_4 x266001_4 x266002_4) else (lapidaryref15_Decode.j4 k4 t261 x6_2 x8_4 x9_2 (wrap64 (rd t261 x8_2)) x11_4 x12_4 t274 t276 (decide (t276 < (-8589934592))) x266000_4 x266001_4 x266002_4))))) else (none)) else (none)) = some (r1,r2):=by first | (rw [hji25] at H;exact H) | (simp only [hji25] at H ⊢;exact H)
                   (try rw [hji25] at c21b0)
                   (try rw [hji25] at A24)
                   have hji25w : (IntKind.i64.wrap (x8_4+1)) = ji25:=(i64_w _).trans hji25
                   by_cases c26 : 0 ≤ (ji25)
                   ·rw [if_pos c26] at H
                    have c26b0 : decide (0 ≤ (ji25)) = true:=decide_eq_true c26
                    clear c26
                    by_cases c27 : (ji25) < (t261.length : Int)
                    ·rw [if_pos c27] at H
                     have c27b0 : decide ((ji25) < (t261.length : Int)) = true:=decide_eq_true c27
                     clear c27
                     replace H:=Option.bind_eq_some_iff.mp H
                     obtain ⟨t276,A280,H⟩:=H
                     replace H : (if t274 > 8589934592 then (lapidaryref15_Decode.j4 k4 t261 x6_2 x8_4 x9_2 (wrap64 (rd t261 x8_2)) x11_4 x12_4 t274 t276 true x266000_4 x266001_4 x266002_4) else (if t274 < (-8589934592) then (lapidaryref15_Decode.j4 k4 t261 x6_2 x8_4 x9_2 (wrap64 (rd t261 x8_2)) x11_4 x12_4 t274 t276 true x266000_4 x266001_4 x266002_4) else (if t276 > 8589934592 then (lapidaryref15_Decode.j4 k4 t261 x6_2 x8_4 x9_2 (wrap64 (rd t261 x8_2)) x11_4 x12_4 t274 t276 true x266000_4 x266001_4 x266002_4) else (lapidaryref15_Decode.j4 k4 t261 x6_2 x8_4 x9_2 (wrap64 (rd t261 x8_2)) x11_4 x12_4 t274 t276 (decide (t276 < (-8589934592))) x266000_4 x266001_4 x266002_4)))) = some (r1,r2):=H
                     have A28:=aMx10 A280
                     clear A280
                     have HC29:=aMx10 H
                     clear H
                     have p273 : 0 ≤ (x8_4 : Int):=of_decide_eq_true (by first | (with_reducible assumption) | assumption)
                     have q273 : x8_4 < (t261.length : Int):=of_decide_eq_true (by first | (with_reducible assumption) | assumption)
                     obtain ⟨ad273,e273,hx273_0⟩:=Kd.at_int (Kd.R_reads' HO_4.out).2.2 x8_4 p273 q273
                     obtain rfl : ad266 = ad273:=(by injection e273)
                     replace p273:=eq_true p273
                     replace q273:=eq_true q273
                     go_upto_region 22 with (first | ((with_reducible refine gate_callee (f:=29) rfl ?_);refine goesL_ (some 72) rfl rfl Try.func29 (by kernel_rfl) rfl #[.int .u64 (rd t261 x8_4)] rfl (by (try simp only [List.map_toArray,List.map_cons,List.map_nil]);first | done | rfl | (simp only [List.length_drop,List.length_take];rfl)) ?_;(with_reducible refine (lapidaryref01_Zag.calls (rd t261 x8_4) t274 _ A24.out).mono ?_);rintro e w' ⟨rfl,⟨nd,rfl⟩⟩;refine ⟨_,rfl,?_⟩;have p275 : 0 ≤ ((ji25) : Int):=of_decide_eq_true (by first | (with_reducible assumption) | assumption);have q275 : (ji25) < (t261.length : Int):=of_decide_eq_true (by first | (with_reducible assumption) | assumption);obtain ⟨ad275,e275,hx275_0⟩:=Kd.at_int (Kd.R_reads' HO_4.out).2.2 (ji25) p275 q275;obtain rfl : ad266 = ad275:=(by injection e275);replace p275:=eq_true p275;replace q275:=eq_true q275) | ((with_reducible refine gate_callee (f:=29) rfl ?_);refine goesL_ (some 78) rfl rfl Try.func29 (by kernel_rfl) rfl #[.int .u64 (rd t261 (ji25))] rfl (by (try simp only [List.map_toArray,List.map_cons,List.map_nil]);first | done | (simp only [hji25];rfl) | rfl | (simp only [List.length_drop,List.length_take];rfl)) ?_;(with_reducible refine (lapidaryref01_Zag.calls (rd t261 (ji25)) t276 _ A28.out).mono ?_);rintro e w' ⟨rfl,⟨nd,rfl⟩⟩;refine ⟨_,rfl,?_⟩))
                     (try simp only [Act.put,sAx10,sBx10,sCx10])
                     go_cut [92] (fun v92 wc => ∃ (kq : Nat) (x92_28 : Bool),v92 = .bool x92_28 ∧ Aside0 (lapidaryref15_Decode.j4 kq t261 x6_2 x8_4 x9_2 (wrap64 (rd t261 x8_2)) x11_4 x12_4 t274 t276 x92_28 x266000_4 x266001_4 x266002_4 = some (r1,r2)) ∧ Aside0 (kq ≤ k4) ∧ Aside0 (Kd.R (Kd.int .u64) 51 wc w.heap.size (fun _ => True) (.slice (some ad266) t261.length co13) t261) ∧ Aside0 (Kd.S (Kd.slice 48 k48) 44 wc w.heap.size (fun k_ => some k_ ≠ (u11 : Value).ownBlock ∧ k_ ≠ gb265) u6 x6_2) ∧ Aside0 (Kd.R k48 48 wc w.heap.size (fun k_ => k_ ≠ gb265) u11 x11_4) ∧ Aside0 (wc.heap[gb265]? = some (.cells #[.int .i64 x266000_4,.int .i64 x266001_4,.int .i64 x266002_4] 48 (0,0))) ∧ Aside0 (Below w.heap.size w wc))
                     case first =>
                      have H:=HC29.out
                      clear HC29
                      by_cases c30 : t274 > 8589934592
                      ·rw [if_pos c30] at H
                       have c30b0 : decide (8589934592 < t274) = true:=decide_eq_true c30
                       clear c30
                       (first | rw [c30b0] | (simp only [i64_w,i32_w];rw [c30b0]) | skip)
                       have H':=aMx10 H
                       clear H
                       go_wp2
                       go_meet
                       case rel => exact ⟨_,(true),(by first | rfl | (simp;done) | (simp [*];done)),H',⟨by have:=HJ2.out;have:=HK2.out;have:=HJ11.out;have:=HK4.out;first | omega | exact Nat.le_refl _⟩,⟨by (with_reducible repeat (first | apply Kd.R_alloc | apply Kd.R_drewN | apply Kd.R_drew));exact HO_4.out⟩,⟨by (with_reducible repeat (first | apply Kd.S_alloc | apply Kd.S_drewN | apply Kd.S_drew));exact HO_6.out⟩,⟨by (with_reducible repeat (first | apply Kd.R_alloc | apply Kd.R_drewN | apply Kd.R_drew));exact HO_11.out⟩,⟨by (with_reducible repeat (first | refine blk_drewN ?_ _ | refine blk_drew ?_ | refine blk_alloc ?_ _));exact BK265.out⟩,⟨by repeat (first | (with_reducible first | exact HB.out | apply below_alloc | apply pw_below_drewN | apply below_drew1 | refine below_set ?_ GE265.out) | exact HB.out)⟩⟩
                      ·rw [if_neg c30] at H
                       have c30b0 : decide (8589934592 < t274) = false:=decide_eq_false c30
                       clear c30
                       (first | rw [c30b0] | (simp only [i64_w,i32_w];rw [c30b0]) | skip)
                       by_cases c31 : t274 < (-8589934592)
                       ·rw [if_pos c31] at H
                        have c31b0 : decide (t274 < (-8589934592)) = true:=decide_eq_true c31
                        clear c31
                        have H':=aMx10 H
                        clear H
                        go_wp2
                        go_meet
                        case rel => exact ⟨_,(true),(by first | rfl | (simp;done) | (simp [*];done)),H',⟨by have:=HJ2.out;have:=HK2.out;have:=HJ11.out;have:=HK4.out;first | omega | exact Nat.le_refl _⟩,⟨by (with_reducible repeat (first | apply Kd.R_alloc | apply Kd.R_drewN | apply Kd.R_drew));exact HO_4.out⟩,⟨by (with_reducible repeat (first | apply Kd.S_alloc | apply Kd.S_drewN | apply Kd.S_drew));exact HO_6.out⟩,⟨by (with_reducible repeat (first | apply Kd.R_alloc | apply Kd.R_drewN | apply Kd.R_drew));exact HO_11.out⟩,⟨by (with_reducible repeat (first | refine blk_drewN ?_ _ | refine blk_drew ?_ | refine blk_alloc ?_ _));exact BK265.out⟩,⟨by repeat (first | (with_reducible first | exact HB.out | apply below_alloc | apply pw_below_drewN | apply below_drew1 | refine below_set ?_ GE265.out) | exact HB.out)⟩⟩
                       ·rw [if_neg c31] at H
                        have c31b0 : decide (t274 < (-8589934592)) = false:=decide_eq_false c31
                        clear c31
                        by_cases c32 : t276 > 8589934592
                        ·rw [if_pos c32] at H
                         have c32b0 : decide (8589934592 < t276) = true:=decide_eq_true c32
                         clear c32
                         have H':=aMx10 H
                         clear H
                         go_wp2
                         go_meet
                         case rel => exact ⟨_,(true),(by first | rfl | (simp;done) | (simp [*];done)),H',⟨by have:=HJ2.out;have:=HK2.out;have:=HJ11.out;have:=HK4.out;first | omega | exact Nat.le_refl _⟩,⟨by (with_reducible repeat (first | apply Kd.R_alloc | apply Kd.R_drewN | apply Kd.R_drew));exact HO_4.out⟩,⟨by (with_reducible repeat (first | apply Kd.S_alloc | apply Kd.S_drewN | apply Kd.S_drew));exact HO_6.out⟩,⟨by (with_reducible repeat (first | apply Kd.R_alloc | apply Kd.R_drewN | apply Kd.R_drew));exact HO_11.out⟩,⟨by (with_reducible repeat (first | refine blk_drewN ?_ _ | refine blk_drew ?_ | refine blk_alloc ?_ _));exact BK265.out⟩,⟨by repeat (first | (with_reducible first | exact HB.out | apply below_alloc | apply pw_below_drewN | apply below_drew1 | refine below_set ?_ GE265.out) | exact HB.out)⟩⟩
                        ·rw [if_neg c32] at H
                         have c32b0 : decide (8589934592 < t276) = false:=decide_eq_false c32
                         clear c32
                         have H':=aMx10 H
                         clear H
                         go_wp2
                         go_meet
                         case rel => exact ⟨_,(decide (t276 < (-8589934592))),(by first | rfl | (simp;done) | (simp [*];done)),H',⟨by have:=HJ2.out;have:=HK2.out;have:=HJ11.out;have:=HK4.out;first | omega | exact Nat.le_refl _⟩,⟨by (with_reducible repeat (first | apply Kd.R_alloc | apply Kd.R_drewN | apply Kd.R_drew));exact HO_4.out⟩,⟨by (with_reducible repeat (first | apply Kd.S_alloc | apply Kd.S_drewN | apply Kd.S_drew));exact HO_6.out⟩,⟨by (with_reducible repeat (first | apply Kd.R_alloc | apply Kd.R_drewN | apply Kd.R_drew));exact HO_11.out⟩,⟨by (with_reducible repeat (first | refine blk_drewN ?_ _ | refine blk_drew ?_ | refine blk_alloc ?_ _));exact BK265.out⟩,⟨by repeat (first | (with_reducible first | exact HB.out | apply below_alloc | apply pw_below_drewN | apply below_drew1 | refine below_set ?_ GE265.out) | exact HB.out)⟩⟩
                     case rest =>
                      clear HC29
                      try clear c1
                      try clear c2
                      try clear p2
                      try clear q2
                      try clear hx2
                      try clear qi2
                      try clear c3
                      try clear c5
                      try clear c5b0
                      try clear c5b1
                      try clear p6
                      try clear c7
                      try clear c10
                      try clear c10b0
                      try clear c10b1
                      try clear c11
                      try clear c11b0
                      try clear c13
                      try clear c14
                      try clear c14b0
                      try clear c15
                      try clear c15b0
                      try clear c16
                      try clear c16b0
                      try clear c17
                      try clear c18
                      try clear c18b0
                      try clear c19
                      try clear c19b0
                      try clear c20
                      try clear c20b0
                      try clear c21
                      try clear c21b0
                      try clear c22
                      try clear c22b0
                      try clear c23
                      try clear c23b0
                      try clear c26
                      try clear c26b0
                      try clear p26
                      try clear q26
                      try clear hx26
                      try clear qi26
                      try clear c27
                      try clear c27b0
                      try clear p27
                      try clear q27
                      try clear hx27
                      try clear c28
                      try clear c29
                      try clear c30
                      try clear c30b0
                      try clear c31
                      try clear c31b0
                      try clear c32
                      try clear c32b0
                      try clear hcz9_0
                      try clear hcz9_1
                      try clear hcz9_2
                      try clear hfz9_0
                      try clear hfz9_1
                      try clear hfz9_2
                      try clear hx266_0
                      try clear hx268_0
                      try clear hx269_0
                      try clear hx273_0
                      try clear hx275_0
                      try clear p2
                      try clear p266
                      try clear p268
                      try clear p269
                      try clear p273
                      try clear p275
                      try clear p6
                      try clear q2
                      try clear q266
                      try clear q268
                      try clear q269
                      try clear q273
                      try clear q275
                      obtain ⟨kq,x92_28,rfl,HA,HJ28,HO_4,HO_6,HO_11,BK265,HB⟩:=hcut
                      cases kq with
                      | zero => exact absurd HA.out (by simp [lapidaryref15_Decode.j4])
                      | succ kj28 =>
                       have H:=HA.out
                       clear HA
                       simp only [lapidaryref15_Decode.j4] at H
                       by_cases c33 : x92_28 = true
                       ·subst c33
                        have H1 : (some (([] : List (List (S48))),11)) = some (r1,r2):=by rw [if_pos rfl] at H;exact H
                        clear H
                        have H:=H1
                        clear H1
                        simp only [Option.some.injEq,Prod.mk.injEq] at H
                        obtain ⟨rfl,rfl⟩:=H
                        go_wp2
                        go_ret2
                        exact ⟨_,by first | rfl | (simp [errW_none,errW_some]<;>rfl) | (simp only [← hji25];first | rfl | (simp [errW_none,errW_some]<;>rfl)) | (simp [*,errW_none,errW_some]<;>rfl),by first | exact Kd.S_nil _ _ _ _ _ | exact Kd.N_nil _ _ _ _ _ | exact Kd.V_nil _ _ _ _ _ | exact Kd.Q_nil _ _ _ _ _ | exact Kd.R_nil _ _ _ _ _,by repeat (first | (with_reducible first | exact HB.out | apply below_alloc | apply pw_below_drewN | apply below_drew1 | refine below_set ?_ GE265.out) | exact HB.out)⟩
                       ·replace c33:=Bool.eq_false_iff.mpr c33
                        subst c33
                        have H1 : ((lapidaryref09_Right.f kj28 (([(⟨wrap64 (x266000_4+t274),wrap64 (x266001_4+t276),0⟩ : S48)] : List (S48)))).bind fun t280 => (if t280 = true then (if x11_4.length < 5864062014805 then (lapidaryref15_Decode.l1 kj28 t261 x6_2 (wrap64 (x8_4+2)) x9_2 (wrap64 (rd t261 x8_2)) (x11_4++[(⟨wrap64 (x266000_4+t274),wrap64 (x266001_4+t276),0⟩ : S48)]) (wrap64 (x12_4+1)) (wrap64 (x266000_4+t274)) (wrap64 (x266001_4+t276)) 0) else (none)) else (some (([] : List (List (S48))),11)))) = some (r1,r2):=by rw [if_neg (show ¬ (false = true) by decide)] at H;exact H
                        clear H
                        have H:=H1
                        clear H1
                        obtain ⟨y277,hy277⟩ : ∃ y_ : List (S48),y_ = (([(⟨wrap64 (x266000_4+t274),wrap64 (x266001_4+t276),0⟩ : S48)] : List (S48))):=⟨_,rfl⟩
                        replace H : ((lapidaryref09_Right.f kj28 y277).bind fun t280 => (if t280 = true then (if x11_4.length < 5864062014805 then (lapidaryref15_Decode.l1 kj28 t261 x6_2 (wrap64 (x8_4+2)) x9_2 (wrap64 (rd t261 x8_2)) (x11_4++[(⟨wrap64 (x266000_4+t274),wrap64 (x266001_4+t276),0⟩ : S48)]) (wrap64 (x12_4+1)) (wrap64 (x266000_4+t274)) (wrap64 (x266001_4+t276)) 0) else (none)) else (some (([] : List (List (S48))),11)))) = some (r1,r2):=by first | (rw [hy277];with_reducible exact H) | (have H2_:=(Option.bind_some _ _).symm.trans H;rw [hy277];with_reducible exact H2_) | (have H2_:=(Option.bind_some _ _).symm.trans H;with_reducible exact H2_) | with_reducible exact H | (rw [hy277];exact H) | exact H
                        have Ny277:=aMx10 hy277
                        clear hy277
                        replace H:=Option.bind_eq_some_iff.mp H
                        obtain ⟨t280,A340,H⟩:=H
                        replace H : (if t280 = true then (if x11_4.length < 5864062014805 then (lapidaryref15_Decode.l1 kj28 t261 x6_2 (wrap64 (x8_4+2)) x9_2 (wrap64 (rd t261 x8_2)) (x11_4++[(⟨wrap64 (x266000_4+t274),wrap64 (x266001_4+t276),0⟩ : S48)]) (wrap64 (x12_4+1)) (wrap64 (x266000_4+t274)) (wrap64 (x266001_4+t276)) 0) else (none)) else (some (([] : List (List (S48))),11))) = some (r1,r2):=H
                        have A34:=aMx10 A340
                        clear A340
                        by_cases c35 : t280 = true
                        ·subst c35
                         have H1 : (if x11_4.length < 5864062014805 then (lapidaryref15_Decode.l1 kj28 t261 x6_2 (wrap64 (x8_4+2)) x9_2 (wrap64 (rd t261 x8_2)) (x11_4++[(⟨wrap64 (x266000_4+t274),wrap64 (x266001_4+t276),0⟩ : S48)]) (wrap64 (x12_4+1)) (wrap64 (x266000_4+t274)) (wrap64 (x266001_4+t276)) 0) else (none)) = some (r1,r2):=by rw [if_pos rfl] at H;exact H
                         clear H
                         have H:=H1
                         clear H1
                         by_cases c36 : x11_4.length < 5864062014805
                         ·rw [if_pos c36] at H
                          have LMc36:=aMx10 c36
                          clear c36
                          obtain ⟨y281,hy281⟩ : ∃ y_ : List (S48),y_ = (x11_4++[(⟨wrap64 (x266000_4+t274),wrap64 (x266001_4+t276),0⟩ : S48)]):=⟨_,rfl⟩
                          replace H : (lapidaryref15_Decode.l1 kj28 t261 x6_2 (wrap64 (x8_4+2)) x9_2 (wrap64 (rd t261 x8_2)) y281 (wrap64 (x12_4+1)) (wrap64 (x266000_4+t274)) (wrap64 (x266001_4+t276)) 0) = some (r1,r2):=by first | (rw [hy281];with_reducible exact H) | (have H2_:=(Option.bind_some _ _).symm.trans H;rw [hy281];with_reducible exact H2_) | (have H2_:=(Option.bind_some _ _).symm.trans H;with_reducible exact H2_) | with_reducible exact H | (rw [hy281];exact H) | exact H
                          have Ny281:=aMx10 hy281
                          clear hy281
                          have H':=aMx10 H
                          clear H
                          have hcz37_0 : wc.cell? ⟨gb265,0,none⟩ = some (.int .i64 x266000_4):=(blk_cell BK265.out 0).trans rfl
                          have hcz37_1 : wc.cell? ⟨gb265,1,none⟩ = some (.int .i64 x266001_4):=(blk_cell BK265.out 1).trans rfl
                          have hcz37_2 : wc.cell? ⟨gb265,2,none⟩ = some (.int .i64 x266002_4):=(blk_cell BK265.out 2).trans rfl
                          have hfz37_0:=blk_frozen BK265.out 0
                          have hfz37_1:=blk_frozen BK265.out 1
                          have hfz37_2:=blk_frozen BK265.out 2
                          go_wp2_with (first|((with_reducible refine gate_dst (N:=103) rfl ?_);(try (refine gate_guard (by rfl) ?_;dsimp only));refine Kd.R_lit k48 _ 48 ?hg (N:=103) ?hd (xs:=([(⟨wrap64 (x266000_4+t274),wrap64 (x266001_4+t276),0⟩ : S48)] : List (S48))) (inner:=[.int .i64 (wrap64 (x266000_4+t274)),.int .i64 (wrap64 (x266001_4+t276)),.int .i64 0]) (ok:=fun _ => True) (okp:=fun _ => True) ?hr ?hp (fun _ hk => hk) trivial (Below.refl _ _) (Nat.le_refl _) (by simp) ?_;(case hd => rfl);(case hg => rfl);(case hr => first|(go_simp;done)|(go_simp;rfl));(case hp => exact (Reps.c3 (show Kd.M k48 _ _ _ (⟨wrap64 (x266000_4+t274),wrap64 (x266001_4+t276),0⟩ : S48) [.int .i64 (wrap64 (x266000_4+t274)),.int .i64 (wrap64 (x266001_4+t276)),.int .i64 0] from (k48_mkM _ _ _ (⟨wrap64 (x266000_4+t274),wrap64 (x266001_4+t276),0⟩ : S48) )) (Reps.none _ _)));intro v278 w38 ho39 hb hg_ hnew_;clear hg_ hnew_;(first|rw [← Ny277.out] at ho39|(simp only [Int.reduceToNat] at ho39;rw [← Ny277.out] at ho39));have n0_:=aMx10 (Kd.R_below (by (with_reducible repeat (first|apply Kd.R_alloc|apply Kd.R_drewN|apply Kd.R_drew));exact (Kd.R_mono (Kd.R_far (p:=⟨gb265,2,none⟩) (Kd.R_far (p:=⟨gb265,1,none⟩) (Kd.R_far (p:=⟨gb265,0,none⟩) (Kd.R_types HO_4.out BK265.out (by decide)) (fun _ hk => hk.2) (.int .i64 (wrap64 (x266000_4+t274)))) (fun _ hk => hk.2) (.int .i64 (wrap64 (x266001_4+t276)))) (fun _ hk => hk.2) (.int .i64 0)) (fun _ h_ => h_.1))) hb);have n1_:=aMx10 (Kd.S_elder' (by (with_reducible repeat (first|apply Kd.S_alloc|apply Kd.S_drewN|apply Kd.S_drew));exact (Kd.S_mono (Kd.S_far (p:=⟨gb265,2,none⟩) (Kd.S_far (p:=⟨gb265,1,none⟩) (Kd.S_far (p:=⟨gb265,0,none⟩) (Kd.S_mono HO_6.out (fun k_ hk => (⟨hk,hk.2⟩ : _ ∧ k_ ≠ gb265))) (fun _ hk => hk.2) (.int .i64 (wrap64 (x266000_4+t274)))) (fun _ hk => hk.2) (.int .i64 (wrap64 (x266001_4+t276)))) (fun _ hk => hk.2) (.int .i64 0)) (fun _ h_ => h_.1))) (Kd.R_base ho39) hb);have n2_:=aMx10 (Kd.R_elder' (by (with_reducible repeat (first|apply Kd.R_alloc|apply Kd.R_drewN|apply Kd.R_drew));exact (Kd.R_mono (Kd.R_far (p:=⟨gb265,2,none⟩) (Kd.R_far (p:=⟨gb265,1,none⟩) (Kd.R_far (p:=⟨gb265,0,none⟩) (Kd.R_mono HO_11.out (fun k_ hk => (⟨hk,hk⟩ : _ ∧ k_ ≠ gb265))) (fun _ hk => hk.2) (.int .i64 (wrap64 (x266000_4+t274)))) (fun _ hk => hk.2) (.int .i64 (wrap64 (x266001_4+t276)))) (fun _ hk => hk.2) (.int .i64 0)) (fun _ h_ => h_.1))) (Kd.R_base ho39) hb);have n3_:=aMx10 (Kd.R_lower (Kd.R_newB (Kd.R_new' ho39 (Kd.R_lt (by (with_reducible repeat (first|apply Kd.R_alloc|apply Kd.R_drewN|apply Kd.R_drew));exact (Kd.R_mono (Kd.R_far (p:=⟨gb265,2,none⟩) (Kd.R_far (p:=⟨gb265,1,none⟩) (Kd.R_far (p:=⟨gb265,0,none⟩) (Kd.R_mono HO_11.out (fun k_ hk => (⟨hk,hk⟩ : _ ∧ k_ ≠ gb265))) (fun _ hk => hk.2) (.int .i64 (wrap64 (x266000_4+t274)))) (fun _ hk => hk.2) (.int .i64 (wrap64 (x266001_4+t276)))) (fun _ hk => hk.2) (.int .i64 0)) (fun _ h_ => h_.1))))) (g:=gb265) (o:=.cells #[.int .i64 (wrap64 (x266000_4+t274)),.int .i64 (wrap64 (x266001_4+t276)),.int .i64 0] 48 (0,0)) (by (with_reducible repeat (first|refine blk_drewN ?_ _|refine blk_drew ?_|refine blk_alloc ?_ _));refine blk_put (cs:=#[.int .i64 (wrap64 (x266000_4+t274)),.int .i64 (wrap64 (x266001_4+t276)),.int .i64 x266002_4]) ?_ 2 _ rfl;(with_reducible repeat (first|refine blk_drewN ?_ _|refine blk_drew ?_|refine blk_alloc ?_ _));refine blk_put (cs:=#[.int .i64 (wrap64 (x266000_4+t274)),.int .i64 x266001_4,.int .i64 x266002_4]) ?_ 1 _ rfl;(with_reducible repeat (first|refine blk_drewN ?_ _|refine blk_drew ?_|refine blk_alloc ?_ _));refine blk_put (cs:=#[.int .i64 x266000_4,.int .i64 x266001_4,.int .i64 x266002_4]) ?_ 0 _ rfl;(with_reducible repeat (first|refine blk_drewN ?_ _|refine blk_drew ?_|refine blk_alloc ?_ _));exact BK265.out)) (below_size (by repeat (first|(with_reducible first|exact HB.out|apply below_alloc|apply pw_below_drewN|apply below_drew1|refine below_set ?_ GE265.out)|exact HB.out))));have n4_:=aMx10 (blk_below (g:=gb265) (o:=.cells #[.int .i64 (wrap64 (x266000_4+t274)),.int .i64 (wrap64 (x266001_4+t276)),.int .i64 0] 48 (0,0)) (by (with_reducible repeat (first|refine blk_drewN ?_ _|refine blk_drew ?_|refine blk_alloc ?_ _));refine blk_put (cs:=#[.int .i64 (wrap64 (x266000_4+t274)),.int .i64 (wrap64 (x266001_4+t276)),.int .i64 x266002_4]) ?_ 2 _ rfl;(with_reducible repeat (first|refine blk_drewN ?_ _|refine blk_drew ?_|refine blk_alloc ?_ _));refine blk_put (cs:=#[.int .i64 (wrap64 (x266000_4+t274)),.int .i64 x266001_4,.int .i64 x266002_4]) ?_ 1 _ rfl;(with_reducible repeat (first|refine blk_drewN ?_ _|refine blk_drew ?_|refine blk_alloc ?_ _));refine blk_put (cs:=#[.int .i64 x266000_4,.int .i64 x266001_4,.int .i64 x266002_4]) ?_ 0 _ rfl;(with_reducible repeat (first|refine blk_drewN ?_ _|refine blk_drew ?_|refine blk_alloc ?_ _));exact BK265.out) hb);have n5_:=aMx10 (below_step (by repeat (first|(with_reducible first|exact HB.out|apply below_alloc|apply pw_below_drewN|apply below_drew1|refine below_set ?_ GE265.out)|exact HB.out)) hb);clear HO_4;clear HO_6;clear HO_11;clear BK265;clear HB;have HO_4:=n0_;have HO_6:=n1_;have HO_11:=n2_;have HO279:=n3_;have BK265:=n4_;have HB:=n5_;clear n0_ n1_ n2_ n3_ n4_ n5_;clear hb ho39;obtain ⟨Ao40,co40,eo40⟩:=Kd.R_slice HO279.out;subst eo40)|((with_reducible refine gate_callee (f:=30) rfl ?_);refine goesL_ (some 104) rfl rfl Try.func30 (by kernel_rfl) rfl #[.slice Ao40 y277.length co40] rfl (by (try simp only [List.map_toArray,List.map_cons,List.map_nil]);first|done|rfl|(simp only [List.length_drop,List.length_take];rfl)) ?_;(with_reducible refine (lapidaryref09_Right.calls kj28 _ _ y277 true _ ?side1 ?side2 A34.out).mono ?_);(case side1 => repeat (first|exact (Kd.R_reads' HO279.out).2.2|(with_reducible first|refine Kd.C_alloc ?_ _|refine Kd.C_drewN ?_ _|refine Kd.C_drew ?_)));(case side2 => exact (Kd.R_reads' HO279.out).2.1);rintro e w41 ⟨rfl,hb⟩;refine ⟨_,rfl,?_⟩;have n0_:=aMx10 (Kd.R_below (by (with_reducible repeat (first|apply Kd.R_alloc|apply Kd.R_drewN|apply Kd.R_drew));exact HO_4.out) hb);have n1_:=aMx10 (Kd.S_below (by (with_reducible repeat (first|apply Kd.S_alloc|apply Kd.S_drewN|apply Kd.S_drew));exact HO_6.out) hb);have n2_:=aMx10 (Kd.R_below (by (with_reducible repeat (first|apply Kd.R_alloc|apply Kd.R_drewN|apply Kd.R_drew));exact HO_11.out) hb);have n3_:=aMx10 (Kd.R_below (by (with_reducible repeat (first|apply Kd.R_alloc|apply Kd.R_drewN|apply Kd.R_drew));exact HO279.out) hb);have n4_:=aMx10 (blk_below (g:=gb265) (o:=.cells #[.int .i64 (wrap64 (x266000_4+t274)),.int .i64 (wrap64 (x266001_4+t276)),.int .i64 0] 48 (0,0)) (by (with_reducible repeat (first|refine blk_drewN ?_ _|refine blk_drew ?_|refine blk_alloc ?_ _));exact BK265.out) hb);have n5_:=aMx10 (below_step (by repeat (first|(with_reducible first|exact HB.out|apply below_alloc|apply pw_below_drewN|apply below_drew1|refine below_set ?_ GE265.out)|exact HB.out)) hb);clear HO_4;clear HO_6;clear HO_11;clear HO279;clear BK265;clear HB;have HO_4:=n0_;have HO_6:=n1_;have HO_11:=n2_;have HO279:=n3_;have BK265:=n4_;have HB:=n5_;clear n0_ n1_ n2_ n3_ n4_ n5_;(try clear hb);(try clear hb2);(try clear hk);(try clear hi);have hcz42_0 : w41.cell? ⟨gb265,0,none⟩ = some (.int .i64 (wrap64 (x266000_4+t274))):=(blk_cell BK265.out 0).trans rfl;have hcz42_1 : w41.cell? ⟨gb265,1,none⟩ = some (.int .i64 (wrap64 (x266001_4+t276))):=(blk_cell BK265.out 1).trans rfl;have hcz42_2 : w41.cell? ⟨gb265,2,none⟩ = some (.int .i64 0):=(blk_cell BK265.out 2).trans rfl;have hfz42_0:=blk_frozen BK265.out 0;have hfz42_1:=blk_frozen BK265.out 1;have hfz42_2:=blk_frozen BK265.out 2)|((with_reducible refine gate_builtin (b:=.append) (xs:=#[.tmp 106,.tmp 108]) rfl ?_);(try (refine gate_guard (by rfl) ?_;dsimp only));at_builtin;refine Kd.R_append k48 (w0:=w) w.heap.size rfl (.tmp 106) (.tmp 108) 44 48 (.agg #[(.int .i64 0),(.int .i64 0),(.int .i64 0)]) 24 rfl Try.underlying44 info48 rfl (by decide) (by omega) u11 x11_4 (⟨wrap64 (x266000_4+t274),wrap64 (x266001_4+t276),0⟩ : S48) [.int .i64 (wrap64 (x266000_4+t274)),.int .i64 (wrap64 (x266001_4+t276)),.int .i64 0] (fun k_ => some k_ ≠ (.slice Ao40 y277.length co40 : Value).ownBlock ∧ k_ ≠ gb265) (fun _ => False) rfl rfl ?aP (fun _ hk => hk.elim) ?aF ?aO ?aB ?aS ?aL ?_;(case aP => exact k48_mkM _ _ _ (⟨wrap64 (x266000_4+t274),wrap64 (x266001_4+t276),0⟩ : S48));(case aB => exact (by repeat (first|(with_reducible first|exact HB.out|apply below_alloc|apply pw_below_drewN|apply below_drew1|refine below_set ?_ GE265.out)|exact HB.out)));(case aF => exact (fun k_ hk => ⟨Kd.fresh' (Kd.R_lt (by (with_reducible repeat (first|apply Kd.R_alloc|apply Kd.R_drewN|apply Kd.R_drew));exact HO279.out)) k_ hk,Kd.freshB (g:=gb265) (o:=.cells #[.int .i64 (wrap64 (x266000_4+t274)),.int .i64 (wrap64 (x266001_4+t276)),.int .i64 0] 48 (0,0)) (by (with_reducible repeat (first|refine blk_drewN ?_ _|refine blk_drew ?_|refine blk_alloc ?_ _));exact BK265.out) k_ hk⟩));(case aO => exact (by (with_reducible repeat (first|apply Kd.R_alloc|apply Kd.R_drewN|apply Kd.R_drew));exact Kd.R_mono HO_11.out (fun _ hk => ⟨hk.2,hk.1⟩)));(case aS => exact (below_size (by repeat (first|(with_reducible first|exact HB.out|apply below_alloc|apply pw_below_drewN|apply below_drew1|refine below_set ?_ GE265.out)|exact HB.out))));(case aL => have:=LMc36.out;omega);intro v282 w43 ho hb hg hat;rw [← Ny281.out] at ho;have n0_:=aMx10 (Kd.R_over' (by (with_reducible repeat (first|apply Kd.R_alloc|apply Kd.R_drewN|apply Kd.R_drew));exact HO_4.out) (Kd.R_typed (by (with_reducible repeat (first|apply Kd.R_alloc|apply Kd.R_drewN|apply Kd.R_drew));exact HO_11.out)) (by decide) hg);have n1_:=aMx10 (Kd.S_after (ok:=(fun k_ => some k_ ≠ (.slice Ao40 y277.length co40 : Value).ownBlock ∧ k_ ≠ gb265)) (by (with_reducible repeat (first|apply Kd.S_alloc|apply Kd.S_drewN|apply Kd.S_drew));exact Kd.S_mono HO_6.out (fun _ hk => ⟨⟨hk.2,hk.1.2⟩,hk.1.1⟩)) hg hat);have n2_:=aMx10 (blk_grown (g:=gb265) (o:=.cells #[.int .i64 (wrap64 (x266000_4+t274)),.int .i64 (wrap64 (x266001_4+t276)),.int .i64 0] 48 (0,0)) (by (with_reducible repeat (first|refine blk_drewN ?_ _|refine blk_drew ?_|refine blk_alloc ?_ _));exact BK265.out) hg (Kd.R_away HO_11.out (fun _ hk => hk.1)));have n3_:=aMx10 (Kd.R_after (ok:=(fun k_ => k_ ≠ gb265)) (by (with_reducible repeat (first|apply Kd.R_alloc|apply Kd.R_drewN|apply Kd.R_drew));exact Kd.R_mono HO279.out (fun _ hk => ⟨hk.2,hk.1.2⟩)) hg hat);have n4_:=aMx10 (hb);have n5_:=aMx10 (ho);clear HO_4;clear HO_6;clear BK265;clear HO279;clear HB;clear HO_11;have HO_4:=n0_;have HO_6:=n1_;have BK265:=n2_;have HO279:=n3_;have HB:=n4_;have HO283:=n5_;clear n0_ n1_ n2_ n3_ n4_ n5_;clear ho hb hg hat))
                          go_roundg kj28
                          case measure => have:=HJ2.out;have:=HK2.out;have:=HJ11.out;have:=HK4.out;have:=HJ28.out;omega
                          case rel => exact ⟨(wrap64 (x8_4+2)),(y281),(wrap64 (x12_4+1)),(wrap64 (x266000_4+t274)),(wrap64 (x266001_4+t276)),(0),(by first | rfl | (simp;done) | (simp [*];done)),(by first | rfl | (simp;done) | (simp [*];done)),H',⟨by have:=HJ2.out;have:=HK2.out;have:=HJ11.out;have:=HK4.out;have:=HJ28.out;omega⟩,⟨by (with_reducible repeat (first | apply Kd.R_alloc | apply Kd.R_drewN | apply Kd.R_drew));exact HO_4.out⟩,⟨by (with_reducible repeat (first | apply Kd.S_alloc | apply Kd.S_drewN | apply Kd.S_drew));exact Kd.S_mono HO_6.out (fun _ hk => ⟨hk.2,hk.1.2⟩)⟩,⟨by (with_reducible repeat (first | apply Kd.R_alloc | apply Kd.R_drewN | apply Kd.R_drew));exact Kd.R_mono HO283.out (fun _ hk => hk.2)⟩,⟨by (with_reducible repeat (first | refine blk_drewN ?_ _ | refine blk_drew ?_ | refine blk_alloc ?_ _));exact BK265.out⟩,⟨by repeat (first | (with_reducible first | exact HB.out | apply below_alloc | apply pw_below_drewN | apply below_drew1 | refine below_set ?_ GE265.out) | exact HB.out)⟩⟩
                         ·rw [if_neg c36] at H
                          exact absurd H (by simp)
                        ·replace c35:=Bool.eq_false_iff.mpr c35
                         subst c35
                         have H1 : (some (([] : List (List (S48))),11)) = some (r1,r2):=by rw [if_neg (show ¬ (false = true) by decide)] at H;exact H
                         clear H
                         have H:=H1
                         clear H1
                         simp only [Option.some.injEq,Prod.mk.injEq] at H
                         obtain ⟨rfl,rfl⟩:=H
                         have hcz44_0 : wc.cell? ⟨gb265,0,none⟩ = some (.int .i64 x266000_4):=(blk_cell BK265.out 0).trans rfl
                         have hcz44_1 : wc.cell? ⟨gb265,1,none⟩ = some (.int .i64 x266001_4):=(blk_cell BK265.out 1).trans rfl
                         have hcz44_2 : wc.cell? ⟨gb265,2,none⟩ = some (.int .i64 x266002_4):=(blk_cell BK265.out 2).trans rfl
                         have hfz44_0:=blk_frozen BK265.out 0
                         have hfz44_1:=blk_frozen BK265.out 1
                         have hfz44_2:=blk_frozen BK265.out 2
                         go_wp2_with (first|((with_reducible refine gate_dst (N:=103) rfl ?_);(try (refine gate_guard (by rfl) ?_;dsimp only));refine Kd.R_lit k48 _ 48 ?hg (N:=103) ?hd (xs:=([(⟨wrap64 (x266000_4+t274),wrap64 (x266001_4+t276),0⟩ : S48)] : List (S48))) (inner:=[.int .i64 (wrap64 (x266000_4+t274)),.int .i64 (wrap64 (x266001_4+t276)),.int .i64 0]) (ok:=fun _ => True) (okp:=fun _ => True) ?hr ?hp (fun _ hk => hk) trivial (Below.refl _ _) (Nat.le_refl _) (by simp) ?_;(case hd => rfl);(case hg => rfl);(case hr => first|(go_simp;done)|(go_simp;rfl));(case hp => exact (Reps.c3 (show Kd.M k48 _ _ _ (⟨wrap64 (x266000_4+t274),wrap64 (x266001_4+t276),0⟩ : S48) [.int .i64 (wrap64 (x266000_4+t274)),.int .i64 (wrap64 (x266001_4+t276)),.int .i64 0] from (k48_mkM _ _ _ (⟨wrap64 (x266000_4+t274),wrap64 (x266001_4+t276),0⟩ : S48) )) (Reps.none _ _)));intro v278 w45 ho46 hb hg_ hnew_;clear hg_ hnew_;(first|rw [← Ny277.out] at ho46|(simp only [Int.reduceToNat] at ho46;rw [← Ny277.out] at ho46));have n0_:=aMx10 (Kd.R_below (by (with_reducible repeat (first|apply Kd.R_alloc|apply Kd.R_drewN|apply Kd.R_drew));exact (Kd.R_mono (Kd.R_far (p:=⟨gb265,2,none⟩) (Kd.R_far (p:=⟨gb265,1,none⟩) (Kd.R_far (p:=⟨gb265,0,none⟩) (Kd.R_types HO_4.out BK265.out (by decide)) (fun _ hk => hk.2) (.int .i64 (wrap64 (x266000_4+t274)))) (fun _ hk => hk.2) (.int .i64 (wrap64 (x266001_4+t276)))) (fun _ hk => hk.2) (.int .i64 0)) (fun _ h_ => h_.1))) hb);have n1_:=aMx10 (Kd.S_elder' (by (with_reducible repeat (first|apply Kd.S_alloc|apply Kd.S_drewN|apply Kd.S_drew));exact (Kd.S_mono (Kd.S_far (p:=⟨gb265,2,none⟩) (Kd.S_far (p:=⟨gb265,1,none⟩) (Kd.S_far (p:=⟨gb265,0,none⟩) (Kd.S_mono HO_6.out (fun k_ hk => (⟨hk,hk.2⟩ : _ ∧ k_ ≠ gb265))) (fun _ hk => hk.2) (.int .i64 (wrap64 (x266000_4+t274)))) (fun _ hk => hk.2) (.int .i64 (wrap64 (x266001_4+t276)))) (fun _ hk => hk.2) (.int .i64 0)) (fun _ h_ => h_.1))) (Kd.R_base ho46) hb);have n2_:=aMx10 (Kd.R_elder' (by (with_reducible repeat (first|apply Kd.R_alloc|apply Kd.R_drewN|apply Kd.R_drew));exact (Kd.R_mono (Kd.R_far (p:=⟨gb265,2,none⟩) (Kd.R_far (p:=⟨gb265,1,none⟩) (Kd.R_far (p:=⟨gb265,0,none⟩) (Kd.R_mono HO_11.out (fun k_ hk => (⟨hk,hk⟩ : _ ∧ k_ ≠ gb265))) (fun _ hk => hk.2) (.int .i64 (wrap64 (x266000_4+t274)))) (fun _ hk => hk.2) (.int .i64 (wrap64 (x266001_4+t276)))) (fun _ hk => hk.2) (.int .i64 0)) (fun _ h_ => h_.1))) (Kd.R_base ho46) hb);have n3_:=aMx10 (Kd.R_lower (Kd.R_newB (Kd.R_new' ho46 (Kd.R_lt (by (with_reducible repeat (first|apply Kd.R_alloc|apply Kd.R_drewN|apply Kd.R_drew));exact (Kd.R_mono (Kd.R_far (p:=⟨gb265,2,none⟩) (Kd.R_far (p:=⟨gb265,1,none⟩) (Kd.R_far (p:=⟨gb265,0,none⟩) (Kd.R_mono HO_11.out (fun k_ hk => (⟨hk,hk⟩ : _ ∧ k_ ≠ gb265))) (fun _ hk => hk.2) (.int .i64 (wrap64 (x266000_4+t274)))) (fun _ hk => hk.2) (.int .i64 (wrap64 (x266001_4+t276)))) (fun _ hk => hk.2) (.int .i64 0)) (fun _ h_ => h_.1))))) (g:=gb265) (o:=.cells #[.int .i64 (wrap64 (x266000_4+t274)),.int .i64 (wrap64 (x266001_4+t276)),.int .i64 0] 48 (0,0)) (by (with_reducible repeat (first|refine blk_drewN ?_ _|refine blk_drew ?_|refine blk_alloc ?_ _));refine blk_put (cs:=#[.int .i64 (wrap64 (x266000_4+t274)),.int .i64 (wrap64 (x266001_4+t276)),.int .i64 x266002_4]) ?_ 2 _ rfl;(with_reducible repeat (first|refine blk_drewN ?_ _|refine blk_drew ?_|refine blk_alloc ?_ _));refine blk_put (cs:=#[.int .i64 (wrap64 (x266000_4+t274)),.int .i64 x266001_4,.int .i64 x266002_4]) ?_ 1 _ rfl;(with_reducible repeat (first|refine blk_drewN ?_ _|refine blk_drew ?_|refine blk_alloc ?_ _));refine blk_put (cs:=#[.int .i64 x266000_4,.int .i64 x266001_4,.int .i64 x266002_4]) ?_ 0 _ rfl;(with_reducible repeat (first|refine blk_drewN ?_ _|refine blk_drew ?_|refine blk_alloc ?_ _));exact BK265.out)) (below_size (by repeat (first|(with_reducible first|exact HB.out|apply below_alloc|apply pw_below_drewN|apply below_drew1|refine below_set ?_ GE265.out)|exact HB.out))));have n4_:=aMx10 (blk_below (g:=gb265) (o:=.cells #[.int .i64 (wrap64 (x266000_4+t274)),.int .i64 (wrap64 (x266001_4+t276)),.int .i64 0] 48 (0,0)) (by (with_reducible repeat (first|refine blk_drewN ?_ _|refine blk_drew ?_|refine blk_alloc ?_ _));refine blk_put (cs:=#[.int .i64 (wrap64 (x266000_4+t274)),.int .i64 (wrap64 (x266001_4+t276)),.int .i64 x266002_4]) ?_ 2 _ rfl;(with_reducible repeat (first|refine blk_drewN ?_ _|refine blk_drew ?_|refine blk_alloc ?_ _));refine blk_put (cs:=#[.int .i64 (wrap64 (x266000_4+t274)),.int .i64 x266001_4,.int .i64 x266002_4]) ?_ 1 _ rfl;(with_reducible repeat (first|refine blk_drewN ?_ _|refine blk_drew ?_|refine blk_alloc ?_ _));refine blk_put (cs:=#[.int .i64 x266000_4,.int .i64 x266001_4,.int .i64 x266002_4]) ?_ 0 _ rfl;(with_reducible repeat (first|refine blk_drewN ?_ _|refine blk_drew ?_|refine blk_alloc ?_ _));exact BK265.out) hb);have n5_:=aMx10 (below_step (by repeat (first|(with_reducible first|exact HB.out|apply below_alloc|apply pw_below_drewN|apply below_drew1|refine below_set ?_ GE265.out)|exact HB.out)) hb);clear HO_4;clear HO_6;clear HO_11;clear BK265;clear HB;have HO_4:=n0_;have HO_6:=n1_;have HO_11:=n2_;have HO279:=n3_;have BK265:=n4_;have HB:=n5_;clear n0_ n1_ n2_ n3_ n4_ n5_;clear hb ho46;obtain ⟨Ao47,co47,eo47⟩:=Kd.R_slice HO279.out;subst eo47)|((with_reducible refine gate_callee (f:=30) rfl ?_);refine goesL_ (some 104) rfl rfl Try.func30 (by kernel_rfl) rfl #[.slice Ao47 y277.length co47] rfl (by (try simp only [List.map_toArray,List.map_cons,List.map_nil]);first|done|rfl|(simp only [List.length_drop,List.length_take];rfl)) ?_;(with_reducible refine (lapidaryref09_Right.calls kj28 _ _ y277 false _ ?side1 ?side2 A34.out).mono ?_);(case side1 => repeat (first|exact (Kd.R_reads' HO279.out).2.2|(with_reducible first|refine Kd.C_alloc ?_ _|refine Kd.C_drewN ?_ _|refine Kd.C_drew ?_)));(case side2 => exact (Kd.R_reads' HO279.out).2.1);rintro e w48 ⟨rfl,hb⟩;refine ⟨_,rfl,?_⟩;have n0_:=aMx10 (Kd.R_below (by (with_reducible repeat (first|apply Kd.R_alloc|apply Kd.R_drewN|apply Kd.R_drew));exact HO_4.out) hb);have n1_:=aMx10 (Kd.S_below (by (with_reducible repeat (first|apply Kd.S_alloc|apply Kd.S_drewN|apply Kd.S_drew));exact HO_6.out) hb);have n2_:=aMx10 (Kd.R_below (by (with_reducible repeat (first|apply Kd.R_alloc|apply Kd.R_drewN|apply Kd.R_drew));exact HO_11.out) hb);have n3_:=aMx10 (Kd.R_below (by (with_reducible repeat (first|apply Kd.R_alloc|apply Kd.R_drewN|apply Kd.R_drew));exact HO279.out) hb);have n4_:=aMx10 (blk_below (g:=gb265) (o:=.cells #[.int .i64 (wrap64 (x266000_4+t274)),.int .i64 (wrap64 (x266001_4+t276)),.int .i64 0] 48 (0,0)) (by (with_reducible repeat (first|refine blk_drewN ?_ _|refine blk_drew ?_|refine blk_alloc ?_ _));exact BK265.out) hb);have n5_:=aMx10 (below_step (by repeat (first|(with_reducible first|exact HB.out|apply below_alloc|apply pw_below_drewN|apply below_drew1|refine below_set ?_ GE265.out)|exact HB.out)) hb);clear HO_4;clear HO_6;clear HO_11;clear HO279;clear BK265;clear HB;have HO_4:=n0_;have HO_6:=n1_;have HO_11:=n2_;have HO279:=n3_;have BK265:=n4_;have HB:=n5_;clear n0_ n1_ n2_ n3_ n4_ n5_;(try clear hb);(try clear hb2);(try clear hk);(try clear hi)))
                         go_ret2
                         exact ⟨_,by first | rfl | (simp [errW_none,errW_some]<;>rfl) | (simp only [← hji25];first | rfl | (simp [errW_none,errW_some]<;>rfl)) | (simp [*,errW_none,errW_some]<;>rfl),by first | exact Kd.S_nil _ _ _ _ _ | exact Kd.N_nil _ _ _ _ _ | exact Kd.V_nil _ _ _ _ _ | exact Kd.Q_nil _ _ _ _ _ | exact Kd.R_nil _ _ _ _ _,by repeat (first | (with_reducible first | exact HB.out | apply below_alloc | apply pw_below_drewN | apply below_drew1 | refine below_set ?_ GE265.out) | exact HB.out)⟩
                    ·rw [if_neg c27] at H
                     exact absurd H (by simp)
                   ·rw [if_neg c26] at H
                    exact absurd H (by simp)
                  ·rw [if_neg c23] at H
                   exact absurd H (by simp)
                 ·rw [if_neg c22] at H
                  exact absurd H (by simp)
               ·rw [if_neg c20] at H
                have c20b0 : decide (x12_4 < (wrap64 (rd t261 x8_2))) = false:=decide_eq_false c20
                clear c20
                by_cases c49 : x6_2.length < 5864062014805
                ·rw [if_pos c49] at H
                 have LMc49:=aMx10 c49
                 clear c49
                 obtain ⟨y270,hy270⟩ : ∃ y_ : List (List (S48)),y_ = (x6_2++[x11_4]):=⟨_,rfl⟩
                 replace H : (lapidaryref15_Decode.l0 k4 t261 y270 x8_4 (IntKind.u64.wrap (x9_2+1)) x266000_4 x266001_4 x266002_4) = some (r1,r2):=by first | (rw [hy270];with_reducible exact H) | (have H2_:=(Option.bind_some _ _).symm.trans H;rw [hy270];with_reducible exact H2_) | (have H2_:=(Option.bind_some _ _).symm.trans H;with_reducible exact H2_) | with_reducible exact H | (rw [hy270];exact H) | exact H
                 have Ny270:=aMx10 hy270
                 clear hy270
                 have H':=aMx10 H
                 clear H
                 obtain ⟨Ao51,co51,eo51⟩:=Kd.R_slice HO_11.out
                 subst eo51
                 go_wp2_with (first|((with_reducible refine gate_builtin (b:=.append) (xs:=#[.tmp 112,.tmp 114]) rfl ?_);(try (refine gate_guard (by rfl) ?_;dsimp only));at_builtin;refine Kd.S_append (Kd.slice 48 k48) (w0:=w) w.heap.size rfl (.tmp 112) (.tmp 114) 22 44 (.slice none 0 0) 24 rfl Try.underlying22 info44 rfl (by decide) (by omega) u6 x6_2 x11_4 [.slice Ao51 x11_4.length co51] (fun k_ => k_ ≠ gb265) (fun k_ => some k_ = (.slice Ao51 x11_4.length co51 : Value).ownBlock) rfl rfl ?aP (fun k_ hk_ => ((Kd.R_mono (ok':=fun k_ => ((fun k_ => k_ ≠ gb265)) k_ ∧ some k_ ≠ (u6 : Value).ownBlock) (Kd.R_apart' (HO_11.out) (Kd.S_typed HO_6.out) (by decide)) (fun k_ hk => ⟨hk.1,hk.2⟩))).1 k_ hk_.symm) ?aF ?aO ?aB ?aS ?aL ?_;(case aP => exact Kd.M_row (Kd.R_mono (Kd.R_tight rfl (Kd.R_mono (ok':=fun k_ => ((fun k_ => k_ ≠ gb265)) k_ ∧ some k_ ≠ (u6 : Value).ownBlock) (Kd.R_apart' (HO_11.out) (Kd.S_typed HO_6.out) (by decide)) (fun k_ hk => ⟨hk.1,hk.2⟩))) (fun _ h_ => h_)));(case aB => exact (by repeat (first|(with_reducible first|exact HB.out|apply below_alloc|apply pw_below_drewN|apply below_drew1|refine below_set ?_ GE265.out)|exact HB.out)));(case aF => exact (fun k_ hk => Kd.freshB (g:=gb265) (o:=.cells #[.int .i64 x266000_4,.int .i64 x266001_4,.int .i64 x266002_4] 48 (0,0)) (by (with_reducible repeat (first|refine blk_drewN ?_ _|refine blk_drew ?_|refine blk_alloc ?_ _));exact BK265.out) k_ hk));(case aO => exact (by (with_reducible repeat (first|apply Kd.S_alloc|apply Kd.S_drewN|apply Kd.S_drew));exact Kd.S_mono HO_6.out (fun k_ hk => ⟨hk.2,fun e_ => hk.1 e_⟩)));(case aS => exact (below_size (by repeat (first|(with_reducible first|exact HB.out|apply below_alloc|apply pw_below_drewN|apply below_drew1|refine below_set ?_ GE265.out)|exact HB.out))));(case aL => have:=LMc49.out;omega);intro v271 w50 ho hb hg hat;rw [← Ny270.out] at ho;have n0_:=aMx10 (Kd.R_over' (by (with_reducible repeat (first|apply Kd.R_alloc|apply Kd.R_drewN|apply Kd.R_drew));exact HO_4.out) (Kd.S_typed (by (with_reducible repeat (first|apply Kd.S_alloc|apply Kd.S_drewN|apply Kd.S_drew));exact HO_6.out)) (by decide) hg);have n1_:=aMx10 (blk_grown (g:=gb265) (o:=.cells #[.int .i64 x266000_4,.int .i64 x266001_4,.int .i64 x266002_4] 48 (0,0)) (by (with_reducible repeat (first|refine blk_drewN ?_ _|refine blk_drew ?_|refine blk_alloc ?_ _));exact BK265.out) hg (Kd.S_ne HO_6.out BK265.out (by decide)));have n2_:=aMx10 (hb);have n3_:=aMx10 (ho);clear HO_4;clear BK265;clear HB;clear HO_6;clear HO_11;have HO_4:=n0_;have BK265:=n1_;have HB:=n2_;have HO272:=n3_;clear n0_ n1_ n2_ n3_;clear ho hb hg hat))
                 go_roundg k4
                 case measure => have:=HJ2.out;have:=HK2.out;have:=HJ11.out;have:=HK4.out;omega
                 case rel => exact ⟨(y270),(x8_4),(IntKind.u64.wrap (x9_2+1)),(x266000_4),(x266001_4),(x266002_4),(by first | rfl | (simp;done) | (simp [*];done)),(by first | rfl | (simp;done) | (simp [*];done)),H',⟨by have:=HJ2.out;have:=HK2.out;have:=HJ11.out;have:=HK4.out;omega⟩,⟨by (with_reducible repeat (first | apply Kd.R_alloc | apply Kd.R_drewN | apply Kd.R_drew));exact HO_4.out⟩,⟨by (with_reducible repeat (first | apply Kd.S_alloc | apply Kd.S_drewN | apply Kd.S_drew));exact HO272.out⟩,⟨by (with_reducible repeat (first | refine blk_drewN ?_ _ | refine blk_drew ?_ | refine blk_alloc ?_ _));exact BK265.out⟩,⟨by repeat (first | (with_reducible first | exact HB.out | apply below_alloc | apply pw_below_drewN | apply below_drew1 | refine below_set ?_ GE265.out) | exact HB.out)⟩⟩
                ·rw [if_neg c49] at H
                 exact absurd H (by simp)
            ·rw [if_neg c19] at H
             exact absurd H (by simp)
           ·rw [if_neg c18] at H
            exact absurd H (by simp)
       ·rw [if_neg c11] at H
        have c11b0 : decide (x9_2 < (rd t261 0)) = false:=decide_eq_false c11
        clear c11
        by_cases c52 : x8_2 = (t261.length : Int)
        ·rw [if_pos c52] at H
         have c52b0 : (x8_2 == (t261.length : Int)) = true:=beq_iff_eq.mpr c52
         have c52b1 : (x8_2 != (t261.length : Int)) = false:=bne_eq_false_iff_eq.mpr c52
         clear c52
         replace H:=Option.bind_eq_some_iff.mp H
         obtain ⟨t267,A530,H⟩:=H
         replace H : (if t267 = 0 then (some (x6_2,0)) else (some (([] : List (List (S48))),11))) = some (r1,r2):=H
         have A53:=aMx10 A530
         clear A530
         by_cases c54 : t267 = 0
         ·rw [if_pos c54] at H
          have c54b0 : (t267 == 0) = true:=beq_iff_eq.mpr c54
          have c54b1 : (t267 != 0) = false:=bne_eq_false_iff_eq.mpr c54
          clear c54
          simp only [Option.some.injEq,Prod.mk.injEq] at H
          obtain ⟨rfl,rfl⟩:=H
          obtain ⟨Ao55,co55,eo55⟩:=Kd.R_slice HO_4.out
          subst eo55
          have p266 : 0 ≤ (0 : Int):=(by omega)
          have q266 : 0 < (t261.length : Int):=of_decide_eq_true (by first | (with_reducible assumption) | assumption)
          obtain ⟨ad266,e266,hx266_0⟩:=Kd.at_int (Kd.R_reads' HO_4.out).2.2 0 p266 q266
          cases e266
          have qi266 : (0 < t261.length) = True:=eq_true (by omega)
          (try rw [show ((0 : Int)).toNat = 0 from rfl] at hx266_0)
          (try rw [Addr.add_zero'] at hx266_0)
          replace p266:=eq_true p266
          replace q266:=eq_true q266
          obtain ⟨Ao56,co56,eo56⟩:=Kd.S_slice HO_6.out
          subst eo56
          go_wp2_with (first|(go_at_call 16;(with_reducible refine (lapidaryref15_Check.calls k2 _ _ x6_2 t267 _ ?side1 ?side2 A53.out).mono ?_);(case side1 => repeat (first|exact (Kd.S_reads' HO_6.out).2.2|(with_reducible first|refine Kd.C_alloc ?_ _|refine Kd.C_drewN ?_ _|refine Kd.C_drew ?_)));(case side2 => exact (Kd.S_reads' HO_6.out).2.1);rintro e w57 ⟨rfl,hb⟩;have n0_:=aMx10 (Kd.R_below (by (with_reducible repeat (first|apply Kd.R_alloc|apply Kd.R_drewN|apply Kd.R_drew));exact HO_4.out) hb);have n1_:=aMx10 (Kd.S_below (by (with_reducible repeat (first|apply Kd.S_alloc|apply Kd.S_drewN|apply Kd.S_drew));exact HO_6.out) hb);have n2_:=aMx10 (blk_below (g:=gb265) (o:=.cells #[.int .i64 x266000_2,.int .i64 x266001_2,.int .i64 x266002_2] 48 (0,0)) (by (with_reducible repeat (first|refine blk_drewN ?_ _|refine blk_drew ?_|refine blk_alloc ?_ _));exact BK265.out) hb);have n3_:=aMx10 (below_step (by repeat (first|(with_reducible first|exact HB.out|apply below_alloc|apply pw_below_drewN|apply below_drew1|refine below_set ?_ GE265.out)|exact HB.out)) hb);clear HO_4;clear HO_6;clear BK265;clear HB;have HO_4:=n0_;have HO_6:=n1_;have BK265:=n2_;have HB:=n3_;clear n0_ n1_ n2_ n3_;(try clear hb);(try clear hb2);(try clear hk);(try clear hi)))
          go_ret2
          exact ⟨_,by first | rfl | (simp [errW_none,errW_some]<;>rfl) | (simp [*,errW_none,errW_some]<;>rfl),by (with_reducible repeat (first | apply Kd.S_alloc | apply Kd.S_drewN | apply Kd.S_drew));exact Kd.S_mono HO_6.out (fun _ hk => trivial),by repeat (first | (with_reducible first | exact HB.out | apply below_alloc | apply pw_below_drewN | apply below_drew1 | refine below_set ?_ GE265.out) | exact HB.out)⟩
         ·rw [if_neg c54] at H
          have c54b0 : (t267 == 0) = false:=beq_eq_false_iff_ne.mpr c54
          have c54b1 : (t267 != 0) = true:=bne_iff_ne.mpr c54
          simp only [Option.some.injEq,Prod.mk.injEq] at H
          obtain ⟨rfl,rfl⟩:=H
          obtain ⟨Ao58,co58,eo58⟩:=Kd.R_slice HO_4.out
          subst eo58
          have p266 : 0 ≤ (0 : Int):=(by omega)
          have q266 : 0 < (t261.length : Int):=of_decide_eq_true (by first | (with_reducible assumption) | assumption)
          obtain ⟨ad266,e266,hx266_0⟩:=Kd.at_int (Kd.R_reads' HO_4.out).2.2 0 p266 q266
          cases e266
          have qi266 : (0 < t261.length) = True:=eq_true (by omega)
          (try rw [show ((0 : Int)).toNat = 0 from rfl] at hx266_0)
          (try rw [Addr.add_zero'] at hx266_0)
          replace p266:=eq_true p266
          replace q266:=eq_true q266
          obtain ⟨Ao59,co59,eo59⟩:=Kd.S_slice HO_6.out
          subst eo59
          go_wp2_with (first|(go_at_call 16;(with_reducible refine (lapidaryref15_Check.calls k2 _ _ x6_2 t267 _ ?side1 ?side2 A53.out).mono ?_);(case side1 => repeat (first|exact (Kd.S_reads' HO_6.out).2.2|(with_reducible first|refine Kd.C_alloc ?_ _|refine Kd.C_drewN ?_ _|refine Kd.C_drew ?_)));(case side2 => exact (Kd.S_reads' HO_6.out).2.1);rintro e w60 ⟨rfl,hb⟩;have n0_:=aMx10 (Kd.R_below (by (with_reducible repeat (first|apply Kd.R_alloc|apply Kd.R_drewN|apply Kd.R_drew));exact HO_4.out) hb);have n1_:=aMx10 (Kd.S_below (by (with_reducible repeat (first|apply Kd.S_alloc|apply Kd.S_drewN|apply Kd.S_drew));exact HO_6.out) hb);have n2_:=aMx10 (blk_below (g:=gb265) (o:=.cells #[.int .i64 x266000_2,.int .i64 x266001_2,.int .i64 x266002_2] 48 (0,0)) (by (with_reducible repeat (first|refine blk_drewN ?_ _|refine blk_drew ?_|refine blk_alloc ?_ _));exact BK265.out) hb);have n3_:=aMx10 (below_step (by repeat (first|(with_reducible first|exact HB.out|apply below_alloc|apply pw_below_drewN|apply below_drew1|refine below_set ?_ GE265.out)|exact HB.out)) hb);clear HO_4;clear HO_6;clear BK265;clear HB;have HO_4:=n0_;have HO_6:=n1_;have BK265:=n2_;have HB:=n3_;clear n0_ n1_ n2_ n3_;(try clear hb);(try clear hb2);(try clear hk);(try clear hi)))
          go_ret2
          exact ⟨_,by first | rfl | (simp [errW_none,errW_some]<;>rfl) | (simp [*,errW_none,errW_some]<;>rfl),by first | exact Kd.S_nil _ _ _ _ _ | exact Kd.N_nil _ _ _ _ _ | exact Kd.V_nil _ _ _ _ _ | exact Kd.Q_nil _ _ _ _ _ | exact Kd.R_nil _ _ _ _ _,by repeat (first | (with_reducible first | exact HB.out | apply below_alloc | apply pw_below_drewN | apply below_drew1 | refine below_set ?_ GE265.out) | exact HB.out)⟩
        ·rw [if_neg c52] at H
         have c52b0 : (x8_2 == (t261.length : Int)) = false:=beq_eq_false_iff_ne.mpr c52
         have c52b1 : (x8_2 != (t261.length : Int)) = true:=bne_iff_ne.mpr c52
         simp only [Option.some.injEq,Prod.mk.injEq] at H
         obtain ⟨rfl,rfl⟩:=H
         obtain ⟨Ao61,co61,eo61⟩:=Kd.R_slice HO_4.out
         subst eo61
         have p266 : 0 ≤ (0 : Int):=(by omega)
         have q266 : 0 < (t261.length : Int):=of_decide_eq_true (by first | (with_reducible assumption) | assumption)
         obtain ⟨ad266,e266,hx266_0⟩:=Kd.at_int (Kd.R_reads' HO_4.out).2.2 0 p266 q266
         cases e266
         have qi266 : (0 < t261.length) = True:=eq_true (by omega)
         (try rw [show ((0 : Int)).toNat = 0 from rfl] at hx266_0)
         (try rw [Addr.add_zero'] at hx266_0)
         replace p266:=eq_true p266
         replace q266:=eq_true q266
         go_wp2
         go_ret2
         exact ⟨_,by first | rfl | (simp [errW_none,errW_some]<;>rfl) | (simp [*,errW_none,errW_some]<;>rfl),by first | exact Kd.S_nil _ _ _ _ _ | exact Kd.N_nil _ _ _ _ _ | exact Kd.V_nil _ _ _ _ _ | exact Kd.Q_nil _ _ _ _ _ | exact Kd.R_nil _ _ _ _ _,by repeat (first | (with_reducible first | exact HB.out | apply below_alloc | apply pw_below_drewN | apply below_drew1 | refine below_set ?_ GE265.out) | exact HB.out)⟩
      ·rw [if_neg c10] at H
       exact absurd H (by simp)

end Go.Proofs.Ytmfeokapjmpjfaa.PArc
