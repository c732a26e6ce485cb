import Derived.Test.YtckemiefcdpofaaDoorPMsrx0
namespace Go.Proofs.YtckemiefcdpofaaDoor.PMsr
open Go Go.RowKit Go.Proofs.YtckemiefcdpofaaDoorW.PrintWords Go.Proofs.YtckemiefcdpofaaDoorW.PrintLast Go.Proofs.YtckemiefcdpofaaDoorW.PrintMore
attribute [local go_sem] max2_int min2_int max_two min_two max_three min_three max_four min_four
set_option linter.unusedVariables false
set_option maxRecDepth 100000
set_option linter.unusedSimpArgs false
attribute [local go_sem] idx36_0_0 idx36_1_0 idx36_2_0 idx52_0_0 idx52_1_0
theorem aMx5 {p : Prop} (h : p) : Aside0 p := ⟨h⟩
mutual
def lapidaryref10_Has.l0 : Nat → List (S36) → Int → Int → Int → Option (Int)
  | 0, _, _, _, _ => none
  | k + 1, x0, x1, x2, x7 => if x7 < (x0.length : Int) then (lapidaryref10_Has.l1 k x0 x1 x2 x7 0) else (some (-1))
def lapidaryref10_Has.l1 : Nat → List (S36) → Int → Int → Int → Int → Option (Int)
  | 0, _, _, _, _, _ => none
  | k + 1, x0, x1, x2, x7, x8 => if x8 < 3 then (if 0 ≤ x7 then (if x7 < (x0.length : Int) then (if x8 = 0 then (if ((rd_T36 x0 x7).f0) = x1 then (if ((rd_T36 x0 x7).f1) = x2 then (some x7) else (lapidaryref10_Has.l1 k x0 x1 x2 x7 (wrap64 (x8 + 1)))) else (lapidaryref10_Has.l1 k x0 x1 x2 x7 (wrap64 (x8 + 1)))) else (if x8 = 1 then (if ((rd_T36 x0 x7).f1) = x1 then (if ((rd_T36 x0 x7).f2) = x2 then (some x7) else (lapidaryref10_Has.l1 k x0 x1 x2 x7 (wrap64 (x8 + 1)))) else (lapidaryref10_Has.l1 k x0 x1 x2 x7 (wrap64 (x8 + 1)))) else (if x8 = 2 then (if ((rd_T36 x0 x7).f2) = x1 then (if ((rd_T36 x0 x7).f0) = x2 then (some x7) else (lapidaryref10_Has.l1 k x0 x1 x2 x7 (wrap64 (x8 + 1)))) else (lapidaryref10_Has.l1 k x0 x1 x2 x7 (wrap64 (x8 + 1)))) else (none)))) else (none)) else (none)) else (lapidaryref10_Has.l0 k x0 x1 x2 (wrap64 (x7 + 1)))
end
def lapidaryref10_Has.f (k : Nat) (l0 : List (S36)) (a1 : Int) (a2 : Int) : Option (Int) := lapidaryref10_Has.l0 k l0 a1 a2 0
theorem lapidaryref10_Has.mono_l : ∀ k, (∀ y0 y1 y2 y3, LeO (lapidaryref10_Has.l0 k y0 y1 y2 y3) (lapidaryref10_Has.l0 (k + 1) y0 y1 y2 y3)) ∧ (∀ y0 y1 y2 y3 y4, LeO (lapidaryref10_Has.l1 k y0 y1 y2 y3 y4) (lapidaryref10_Has.l1 (k + 1) y0 y1 y2 y3 y4))
  | 0 => ⟨fun _ _ _ _ r h => by simp [lapidaryref10_Has.l0] at h, fun _ _ _ _ _ r h => by simp [lapidaryref10_Has.l1] at h⟩
  | k + 1 => by
    obtain ⟨ih0, ih1⟩ := lapidaryref10_Has.mono_l k
    refine ⟨?_, ?_⟩
    · intro y0 y1 y2 y3
      unfold lapidaryref10_Has.l0
      repeat' first
      | (with_reducible exact ih0 _ _ _ _)
      | (with_reducible exact ih1 _ _ _ _ _)
      | (with_reducible exact LeO.refl _)
      | (with_reducible exact LeO.none _)
      | (with_reducible refine LeO.ite ?_ ?_)
      | (with_reducible refine LeO.bind ?_ (fun _ => ?_))
      | exact ih0 _ _ _ _
      | exact ih1 _ _ _ _ _
      | exact LeO.none _
      | refine LeO.ite ?_ ?_
      | refine LeO.bind ?_ (fun _ => ?_)
    · intro y0 y1 y2 y3 y4
      unfold lapidaryref10_Has.l1
      repeat' first
      | (with_reducible exact ih0 _ _ _ _)
      | (with_reducible exact ih1 _ _ _ _ _)
      | (with_reducible exact LeO.refl _)
      | (with_reducible exact LeO.none _)
      | (with_reducible refine LeO.ite ?_ ?_)
      | (with_reducible refine LeO.bind ?_ (fun _ => ?_))
      | exact ih0 _ _ _ _
      | exact ih1 _ _ _ _ _
      | exact LeO.none _
      | refine LeO.ite ?_ ?_
      | refine LeO.bind ?_ (fun _ => ?_)
theorem lapidaryref10_Has.mono : ∀ a0 a1 a2 k, LeO (lapidaryref10_Has.f k a0 a1 a2) (lapidaryref10_Has.f (k + 1) a0 a1 a2) := by
  intro a0 a1 a2 k
  obtain ⟨ih0, ih1⟩ := lapidaryref10_Has.mono_l k
  unfold lapidaryref10_Has.f
  repeat' first
      | (with_reducible exact ih0 _ _ _ _)
      | (with_reducible exact ih1 _ _ _ _ _)
      | (with_reducible exact LeO.refl _)
      | (with_reducible exact LeO.none _)
      | (with_reducible refine LeO.ite ?_ ?_)
      | (with_reducible refine LeO.bind ?_ (fun _ => ?_))
      | exact ih0 _ _ _ _
      | exact ih1 _ _ _ _ _
      | exact LeO.none _
      | refine LeO.ite ?_ ?_
      | refine LeO.bind ?_ (fun _ => ?_)
set_option maxHeartbeats 8000000 in
set_option maxRecDepth 100000 in
theorem lapidaryref10_Has.calls (k : Nat) (A0 : Option Addr) (c0 : Nat) (l0 : List (S36)) (a1 : Int) (a2 : Int) (r : Int) (w : World) (hr0 : Kd.C k36 w A0 l0.length l0) (hc0 : l0.length ≤ c0) (h : lapidaryref10_Has.f k l0 a1 a2 = some r) :
  Calls Tryd.prog 22 #[.slice A0 l0.length c0,.int .i64 a1,.int .i64 a2] w fun e w' => e = .returned (.int .i64 r) ∧ Drawn0 w w':=by
 have HR0:=aMx5 hr0
 have HC0:=aMx5 hc0
 clear hr0 hc0
 have H : (lapidaryref10_Has.l0 k l0 a1 a2 0) = some r:=h
 clear h
 have H':=aMx5 H
 clear H
 go_enter Tryd.func22,Tryd.ntmps22
 go_wp2
 go_loopg [7] k (fun kq v7 w' => ∃ (x7_1 : Int),v7 = .int .i64 x7_1 ∧ Aside0 (lapidaryref10_Has.l0 kq l0 a1 a2 x7_1 = some r) ∧ Aside0 (kq ≤ k) ∧ Drawn0 w w')
 case atStart => exact ⟨(0),(by first | rfl | (simp;done) | (simp [*];done) | (simp [wrap64];done)),H',⟨Nat.le_refl _⟩,by repeat (first | exact Drawn0.refl _ | apply Drawn0.step)⟩
 case round =>
  clear H'
  (try clear c2);(try clear p2)
  obtain ⟨x7_1,rfl,HA,HK1,⟨m1,rfl⟩⟩:=hrel
  cases gk with
  | zero => exact absurd HA.out (by simp [lapidaryref10_Has.l0])
  | succ k1 =>
   have H:=HA.out
   clear HA
   simp only [lapidaryref10_Has.l0] at H
   by_cases c4 : x7_1 < (l0.length : Int)
   ·rw [if_pos c4] at H
    have c4b0 : decide (x7_1 < (l0.length : Int)) = true:=decide_eq_true c4
    clear c4
    have H':=aMx5 H
    clear H
    go_wp2
    go_loopg [8] k1 (fun kq v8 w' => ∃ (x8_2 : Int),v8 = .int .i64 x8_2 ∧ Aside0 (lapidaryref10_Has.l1 kq l0 a1 a2 x7_1 x8_2 = some r) ∧ Aside0 (kq ≤ k1) ∧ Drawn0 w w')
    case atStart => exact ⟨(0),(by first | rfl | (simp;done) | (simp [*];done) | (simp [wrap64];done)),H',⟨Nat.le_refl _⟩,by repeat (first | exact Drawn0.refl _ | apply Drawn0.step)⟩
    case round =>
     clear H'
     (try clear c2);(try clear p2);(try clear c4);(try clear c4b0);(try clear p2)
     obtain ⟨x8_2,rfl,HA,HK2,⟨m2,rfl⟩⟩:=hrel
     cases gk with
     | zero => exact absurd HA.out (by simp [lapidaryref10_Has.l1])
     | succ k2 =>
      have H:=HA.out
      clear HA
      simp only [lapidaryref10_Has.l1] at H
      by_cases c5 : x8_2 < 3
      ·rw [if_pos c5] at H
       have c5b0 : decide (x8_2 < 3) = true:=decide_eq_true c5
       clear c5
       by_cases c6 : 0 ≤ x7_1
       ·rw [if_pos c6] at H
        have c6b0 : decide (0 ≤ x7_1) = true:=decide_eq_true c6
        clear c6
        by_cases c7 : x7_1 < (l0.length : Int)
        ·rw [if_pos c7] at H
         have c7b0 : decide (x7_1 < (l0.length : Int)) = true:=decide_eq_true c7
         clear c7
         by_cases c8 : x8_2 = 0
         ·rw [if_pos c8] at H
          subst c8
          by_cases c9 : ((rd_T36 l0 x7_1).f0) = a1
          ·rw [if_pos c9] at H
           have c9b0 : (((rd_T36 l0 x7_1).f0) == a1) = true:=beq_iff_eq.mpr c9
           have c9b1 : (((rd_T36 l0 x7_1).f0) != a1) = false:=bne_eq_false_iff_eq.mpr c9
           clear c9
           by_cases c10 : ((rd_T36 l0 x7_1).f1) = a2
           ·rw [if_pos c10] at H
            have c10b0 : (((rd_T36 l0 x7_1).f1) == a2) = true:=beq_iff_eq.mpr c10
            have c10b1 : (((rd_T36 l0 x7_1).f1) != a2) = false:=bne_eq_false_iff_eq.mpr c10
            clear c10
            obtain rfl:=Option.some.inj H
            have p150 : 0 ≤ (x7_1 : Int):=of_decide_eq_true (by first | (with_reducible assumption) | assumption)
            have q150 : x7_1 < (l0.length : Int):=of_decide_eq_true (by first | (with_reducible assumption) | assumption)
            obtain ⟨ad150,e150,hx150_0,hx150_1,hx150_2⟩:=at_T36 HR0.out x7_1 p150 q150
            cases e150
            replace p150:=eq_true p150
            replace q150:=eq_true q150
            have p151 : 0 ≤ (x7_1 : Int):=of_decide_eq_true (by first | (with_reducible assumption) | assumption)
            have q151 : x7_1 < (l0.length : Int):=of_decide_eq_true (by first | (with_reducible assumption) | assumption)
            obtain ⟨ad151,e151,hx151_0,hx151_1,hx151_2⟩:=at_T36 HR0.out x7_1 p151 q151
            obtain rfl : ad150 = ad151:=(by injection e151)
            replace p151:=eq_true p151
            replace q151:=eq_true q151
            go_wp2
            go_ret
            exact ⟨by first | rfl | (simp;done) | (simp [*];done) | (simp [wrap64];done),by repeat (first | exact Drawn0.refl _ | apply Drawn0.step)⟩
           ·rw [if_neg c10] at H
            have c10b0 : (((rd_T36 l0 x7_1).f1) == a2) = false:=beq_eq_false_iff_ne.mpr c10
            have c10b1 : (((rd_T36 l0 x7_1).f1) != a2) = true:=bne_iff_ne.mpr c10
            have H':=aMx5 H
            clear H
            have p150 : 0 ≤ (x7_1 : Int):=of_decide_eq_true (by first | (with_reducible assumption) | assumption)
            have q150 : x7_1 < (l0.length : Int):=of_decide_eq_true (by first | (with_reducible assumption) | assumption)
            obtain ⟨ad150,e150,hx150_0,hx150_1,hx150_2⟩:=at_T36 HR0.out x7_1 p150 q150
            cases e150
            replace p150:=eq_true p150
            replace q150:=eq_true q150
            have p151 : 0 ≤ (x7_1 : Int):=of_decide_eq_true (by first | (with_reducible assumption) | assumption)
            have q151 : x7_1 < (l0.length : Int):=of_decide_eq_true (by first | (with_reducible assumption) | assumption)
            obtain ⟨ad151,e151,hx151_0,hx151_1,hx151_2⟩:=at_T36 HR0.out x7_1 p151 q151
            obtain rfl : ad150 = ad151:=(by injection e151)
            replace p151:=eq_true p151
            replace q151:=eq_true q151
            go_wp2
            go_roundg k2
            case measure => have:=HK1.out;have:=HK2.out;omega
            case rel => exact ⟨(wrap64 (0+1)),(by first | rfl | (simp;done) | (simp [*];done) | (simp [wrap64];done)),H',⟨by have:=HK1.out;have:=HK2.out;omega⟩,by repeat (first | exact Drawn0.refl _ | apply Drawn0.step)⟩
          ·rw [if_neg c9] at H
           have c9b0 : (((rd_T36 l0 x7_1).f0) == a1) = false:=beq_eq_false_iff_ne.mpr c9
           have c9b1 : (((rd_T36 l0 x7_1).f0) != a1) = true:=bne_iff_ne.mpr c9
           have H':=aMx5 H
           clear H
           have p150 : 0 ≤ (x7_1 : Int):=of_decide_eq_true (by first | (with_reducible assumption) | assumption)
           have q150 : x7_1 < (l0.length : Int):=of_decide_eq_true (by first | (with_reducible assumption) | assumption)
           obtain ⟨ad150,e150,hx150_0,hx150_1,hx150_2⟩:=at_T36 HR0.out x7_1 p150 q150
           cases e150
           replace p150:=eq_true p150
           replace q150:=eq_true q150
           go_wp2
           go_roundg k2
           case measure => have:=HK1.out;have:=HK2.out;omega
           case rel => exact ⟨(wrap64 (0+1)),(by first | rfl | (simp;done) | (simp [*];done) | (simp [wrap64];done)),H',⟨by have:=HK1.out;have:=HK2.out;omega⟩,by repeat (first | exact Drawn0.refl _ | apply Drawn0.step)⟩
         ·rw [if_neg c8] at H
          by_cases c11 : x8_2 = 1
          ·rw [if_pos c11] at H
           subst c11
           by_cases c12 : ((rd_T36 l0 x7_1).f1) = a1
           ·rw [if_pos c12] at H
            have c12b0 : (((rd_T36 l0 x7_1).f1) == a1) = true:=beq_iff_eq.mpr c12
            have c12b1 : (((rd_T36 l0 x7_1).f1) != a1) = false:=bne_eq_false_iff_eq.mpr c12
            clear c12
            by_cases c13 : ((rd_T36 l0 x7_1).f2) = a2
            ·rw [if_pos c13] at H
             have c13b0 : (((rd_T36 l0 x7_1).f2) == a2) = true:=beq_iff_eq.mpr c13
             have c13b1 : (((rd_T36 l0 x7_1).f2) != a2) = false:=bne_eq_false_iff_eq.mpr c13
             clear c13
             obtain rfl:=Option.some.inj H
             have p150 : 0 ≤ (x7_1 : Int):=of_decide_eq_true (by first | (with_reducible assumption) | assumption)
             have q150 : x7_1 < (l0.length : Int):=of_decide_eq_true (by first | (with_reducible assumption) | assumption)
             obtain ⟨ad150,e150,hx150_0,hx150_1,hx150_2⟩:=at_T36 HR0.out x7_1 p150 q150
             cases e150
             replace p150:=eq_true p150
             replace q150:=eq_true q150
             have p152 : 0 ≤ (x7_1 : Int):=of_decide_eq_true (by first | (with_reducible assumption) | assumption)
             have q152 : x7_1 < (l0.length : Int):=of_decide_eq_true (by first | (with_reducible assumption) | assumption)
             obtain ⟨ad152,e152,hx152_0,hx152_1,hx152_2⟩:=at_T36 HR0.out x7_1 p152 q152
             obtain rfl : ad150 = ad152:=(by injection e152)
             replace p152:=eq_true p152
             replace q152:=eq_true q152
             go_wp2
             go_ret
             exact ⟨by first | rfl | (simp;done) | (simp [*];done) | (simp [wrap64];done),by repeat (first | exact Drawn0.refl _ | apply Drawn0.step)⟩
            ·rw [if_neg c13] at H
             have c13b0 : (((rd_T36 l0 x7_1).f2) == a2) = false:=beq_eq_false_iff_ne.mpr c13
             have c13b1 : (((rd_T36 l0 x7_1).f2) != a2) = true:=bne_iff_ne.mpr c13
             have H':=aMx5 H
             clear H
             have p150 : 0 ≤ (x7_1 : Int):=of_decide_eq_true (by first | (with_reducible assumption) | assumption)
             have q150 : x7_1 < (l0.length : Int):=of_decide_eq_true (by first | (with_reducible assumption) | assumption)
             obtain ⟨ad150,e150,hx150_0,hx150_1,hx150_2⟩:=at_T36 HR0.out x7_1 p150 q150
             cases e150
             replace p150:=eq_true p150
             replace q150:=eq_true q150
             have p152 : 0 ≤ (x7_1 : Int):=of_decide_eq_true (by first | (with_reducible assumption) | assumption)
             have q152 : x7_1 < (l0.length : Int):=of_decide_eq_true (by first | (with_reducible assumption) | assumption)
             obtain ⟨ad152,e152,hx152_0,hx152_1,hx152_2⟩:=at_T36 HR0.out x7_1 p152 q152
             obtain rfl : ad150 = ad152:=(by injection e152)
             replace p152:=eq_true p152
             replace q152:=eq_true q152
             go_wp2
             go_roundg k2
             case measure => have:=HK1.out;have:=HK2.out;omega
             case rel => exact ⟨(wrap64 (1+1)),(by first | rfl | (simp;done) | (simp [*];done) | (simp [wrap64];done)),H',⟨by have:=HK1.out;have:=HK2.out;omega⟩,by repeat (first | exact Drawn0.refl _ | apply Drawn0.step)⟩
           ·rw [if_neg c12] at H
            have c12b0 : (((rd_T36 l0 x7_1).f1) == a1) = false:=beq_eq_false_iff_ne.mpr c12
            have c12b1 : (((rd_T36 l0 x7_1).f1) != a1) = true:=bne_iff_ne.mpr c12
            have H':=aMx5 H
            clear H
            have p150 : 0 ≤ (x7_1 : Int):=of_decide_eq_true (by first | (with_reducible assumption) | assumption)
            have q150 : x7_1 < (l0.length : Int):=of_decide_eq_true (by first | (with_reducible assumption) | assumption)
            obtain ⟨ad150,e150,hx150_0,hx150_1,hx150_2⟩:=at_T36 HR0.out x7_1 p150 q150
            cases e150
            replace p150:=eq_true p150
            replace q150:=eq_true q150
            go_wp2
            go_roundg k2
            case measure => have:=HK1.out;have:=HK2.out;omega
            case rel => exact ⟨(wrap64 (1+1)),(by first | rfl | (simp;done) | (simp [*];done) | (simp [wrap64];done)),H',⟨by have:=HK1.out;have:=HK2.out;omega⟩,by repeat (first | exact Drawn0.refl _ | apply Drawn0.step)⟩
          ·rw [if_neg c11] at H
           by_cases c14 : x8_2 = 2
           ·rw [if_pos c14] at H
            subst c14
            by_cases c15 : ((rd_T36 l0 x7_1).f2) = a1
            ·rw [if_pos c15] at H
             have c15b0 : (((rd_T36 l0 x7_1).f2) == a1) = true:=beq_iff_eq.mpr c15
             have c15b1 : (((rd_T36 l0 x7_1).f2) != a1) = false:=bne_eq_false_iff_eq.mpr c15
             clear c15
             by_cases c16 : ((rd_T36 l0 x7_1).f0) = a2
             ·rw [if_pos c16] at H
              have c16b0 : (((rd_T36 l0 x7_1).f0) == a2) = true:=beq_iff_eq.mpr c16
              have c16b1 : (((rd_T36 l0 x7_1).f0) != a2) = false:=bne_eq_false_iff_eq.mpr c16
              clear c16
              obtain rfl:=Option.some.inj H
              have p150 : 0 ≤ (x7_1 : Int):=of_decide_eq_true (by first | (with_reducible assumption) | assumption)
              have q150 : x7_1 < (l0.length : Int):=of_decide_eq_true (by first | (with_reducible assumption) | assumption)
              obtain ⟨ad150,e150,hx150_0,hx150_1,hx150_2⟩:=at_T36 HR0.out x7_1 p150 q150
              cases e150
              replace p150:=eq_true p150
              replace q150:=eq_true q150
              have p153 : 0 ≤ (x7_1 : Int):=of_decide_eq_true (by first | (with_reducible assumption) | assumption)
              have q153 : x7_1 < (l0.length : Int):=of_decide_eq_true (by first | (with_reducible assumption) | assumption)
              obtain ⟨ad153,e153,hx153_0,hx153_1,hx153_2⟩:=at_T36 HR0.out x7_1 p153 q153
              obtain rfl : ad150 = ad153:=(by injection e153)
              replace p153:=eq_true p153
              replace q153:=eq_true q153
              go_wp2
              go_ret
              exact ⟨by first | rfl | (simp;done) | (simp [*];done) | (simp [wrap64];done),by repeat (first | exact Drawn0.refl _ | apply Drawn0.step)⟩
             ·rw [if_neg c16] at H
              have c16b0 : (((rd_T36 l0 x7_1).f0) == a2) = false:=beq_eq_false_iff_ne.mpr c16
              have c16b1 : (((rd_T36 l0 x7_1).f0) != a2) = true:=bne_iff_ne.mpr c16
              have H':=aMx5 H
              clear H
              have p150 : 0 ≤ (x7_1 : Int):=of_decide_eq_true (by first | (with_reducible assumption) | assumption)
              have q150 : x7_1 < (l0.length : Int):=of_decide_eq_true (by first | (with_reducible assumption) | assumption)
              obtain ⟨ad150,e150,hx150_0,hx150_1,hx150_2⟩:=at_T36 HR0.out x7_1 p150 q150
              cases e150
              replace p150:=eq_true p150
              replace q150:=eq_true q150
              have p153 : 0 ≤ (x7_1 : Int):=of_decide_eq_true (by first | (with_reducible assumption) | assumption)
              have q153 : x7_1 < (l0.length : Int):=of_decide_eq_true (by first | (with_reducible assumption) | assumption)
              obtain ⟨ad153,e153,hx153_0,hx153_1,hx153_2⟩:=at_T36 HR0.out x7_1 p153 q153
              obtain rfl : ad150 = ad153:=(by injection e153)
              replace p153:=eq_true p153
              replace q153:=eq_true q153
              go_wp2
              go_roundg k2
              case measure => have:=HK1.out;have:=HK2.out;omega
              case rel => exact ⟨(wrap64 (2+1)),(by first | rfl | (simp;done) | (simp [*];done) | (simp [wrap64];done)),H',⟨by have:=HK1.out;have:=HK2.out;omega⟩,by repeat (first | exact Drawn0.refl _ | apply Drawn0.step)⟩
            ·rw [if_neg c15] at H
             have c15b0 : (((rd_T36 l0 x7_1).f2) == a1) = false:=beq_eq_false_iff_ne.mpr c15
             have c15b1 : (((rd_T36 l0 x7_1).f2) != a1) = true:=bne_iff_ne.mpr c15
             have H':=aMx5 H
             clear H
             have p150 : 0 ≤ (x7_1 : Int):=of_decide_eq_true (by first | (with_reducible assumption) | assumption)
             have q150 : x7_1 < (l0.length : Int):=of_decide_eq_true (by first | (with_reducible assumption) | assumption)
             obtain ⟨ad150,e150,hx150_0,hx150_1,hx150_2⟩:=at_T36 HR0.out x7_1 p150 q150
             cases e150
             replace p150:=eq_true p150
             replace q150:=eq_true q150
             go_wp2
             go_roundg k2
             case measure => have:=HK1.out;have:=HK2.out;omega
             case rel => exact ⟨(wrap64 (2+1)),(by first | rfl | (simp;done) | (simp [*];done) | (simp [wrap64];done)),H',⟨by have:=HK1.out;have:=HK2.out;omega⟩,by repeat (first | exact Drawn0.refl _ | apply Drawn0.step)⟩
           ·rw [if_neg c14] at H
            exact absurd H (by simp)
        ·rw [if_neg c7] at H
         exact absurd H (by simp)
       ·rw [if_neg c6] at H
        exact absurd H (by simp)
      ·rw [if_neg c5] at H
       have c5b0 : decide (x8_2 < 3) = false:=decide_eq_false c5
       clear c5
       have H':=aMx5 H
       clear H
       go_wp2
       go_roundg k2
       case measure => have:=HK1.out;have:=HK2.out;omega
       case rel => exact ⟨(wrap64 (x7_1+1)),(by first | rfl | (simp;done) | (simp [*];done) | (simp [wrap64];done)),H',⟨by have:=HK1.out;have:=HK2.out;omega⟩,by repeat (first | exact Drawn0.refl _ | apply Drawn0.step)⟩
   ·rw [if_neg c4] at H
    have c4b0 : decide (x7_1 < (l0.length : Int)) = false:=decide_eq_false c4
    clear c4
    obtain rfl:=Option.some.inj H
    go_wp2
    go_ret
    exact ⟨by first | rfl | (simp;done) | (simp [*];done) | (simp [wrap64];done),by repeat (first | exact Drawn0.refl _ | apply Drawn0.step)⟩
def lapidaryref10_coord.f (a0 : Int) : Option (Bool) := if a0 ≥ (-2147483648) then (some (decide (a0 ≤ 2147483647))) else (some false)
set_option maxHeartbeats 8000000 in
set_option maxRecDepth 100000 in
theorem lapidaryref10_coord.calls (a0 : Int) (r : Bool) (w : World) (h : lapidaryref10_coord.f a0 = some r) :
  Calls Tryd.prog 47 #[.int .i64 a0] w fun e w' => e = .returned (.bool r) ∧ Drawn0 w w':=by
 have H : (if a0 ≥ (-2147483648) then (some (decide (a0 ≤ 2147483647))) else (some false)) = some r:=h
 clear h
 by_cases c2 : a0 ≥ (-2147483648)
 ·rw [if_pos c2] at H
  have c2b0 : decide ((-2147483648) ≤ a0) = true:=decide_eq_true c2
  clear c2
  obtain rfl:=Option.some.inj H
  go_enter Tryd.func47,Tryd.ntmps47
  go_wp2
  go_ret
  exact ⟨by first | rfl | (simp;done) | (simp [*];done) | (simp [wrap64];done),by repeat (first | exact Drawn0.refl _ | apply Drawn0.step)⟩
 ·rw [if_neg c2] at H
  have c2b0 : decide ((-2147483648) ≤ a0) = false:=decide_eq_false c2
  clear c2
  obtain rfl:=Option.some.inj H
  go_enter Tryd.func47,Tryd.ntmps47
  go_wp2
  go_ret
  exact ⟨by first | rfl | (simp;done) | (simp [*];done) | (simp [wrap64];done),by repeat (first | exact Drawn0.refl _ | apply Drawn0.step)⟩
end Go.Proofs.YtckemiefcdpofaaDoor.PMsr
