import Derived.Test.YtbdpfmpbooikiaaDoorPIsrx0
import Derived.Test.YtbdpfmpbooikiaaDoorPIsrx3
namespace Go.Proofs.YtbdpfmpbooikiaaDoor.PIsr
open Go Go.RowKit Go.Proofs.YtbdpfmpbooikiaaDoorW.PrintWords Go.Proofs.YtbdpfmpbooikiaaDoorW.PrintLast Go.Proofs.YtbdpfmpbooikiaaDoorW.PrintMore
attribute [local go_sem] max2_int min2_int max_two min_two max_three min_three max_four min_four
set_option linter.unusedVariables false
set_option linter.unusedSimpArgs false
attribute [local go_sem] idx57_0_0 idx57_1_0 idx57_2_0 idx86_0_0 idx86_1_0
theorem aMx5 {p : Prop} (h : p) : Aside0 p := ⟨h⟩
def lapidaryref00_SameInts.l0 : Nat → List Int → List Int → Int → Option (Bool)
  | 0, _, _, _ => none
  | k + 1, x0, x1, x5 => if x5 < (x0.length : Int) then (if 0 ≤ x5 then (if x5 < (x1.length : Int) then (if (rd x0 x5) = (rd x1 x5) then (lapidaryref00_SameInts.l0 k x0 x1 (wrap64 (x5 + 1))) else (some false)) else (none)) else (none)) else (some true)
def lapidaryref00_SameInts.f (k : Nat) (l0 : List Int) (l1 : List Int) : Option (Bool) := if (l0.length : Int) = (l1.length : Int) then (lapidaryref00_SameInts.l0 k l0 l1 0) else (some false)
set_option maxHeartbeats 8000000 in
set_option maxRecDepth 100000 in
theorem lapidaryref00_SameInts.calls (k : Nat) (A0 : Option Addr) (c0 : Nat) (l0 : List Int) (A1 : Option Addr) (c1 : Nat) (l1 : List Int) (r : Bool) (w : World) (hr0 : Kd.C (Kd.int .i64) w A0 l0.length l0) (hc0 : l0.length ≤ c0) (hr1 : Kd.C (Kd.int .i64) w A1 l1.length l1) (hc1 : l1.length ≤ c1) (h : lapidaryref00_SameInts.f k l0 l1 = some r) :
  Calls Tryd.prog 20 #[.slice A0 l0.length c0,.slice A1 l1.length c1] w fun e w' => e = .returned (.bool r) ∧ Drawn0 w w':=by
 have HR0:=aMx5 hr0
 have HC0:=aMx5 hc0
 clear hr0 hc0
 have HR1:=aMx5 hr1
 have HC1:=aMx5 hc1
 clear hr1 hc1
 have H : (if (l0.length : Int) = (l1.length : Int) then (lapidaryref00_SameInts.l0 k l0 l1 0) else (some false)) = some r:=h
 clear h
 by_cases c3 : (l0.length : Int) = (l1.length : Int)
 ·rw [if_pos c3] at H
  have c3b0 : ((l0.length : Int) == (l1.length : Int)) = true:=beq_iff_eq.mpr c3
  have c3b1 : ((l0.length : Int) != (l1.length : Int)) = false:=bne_eq_false_iff_eq.mpr c3
  have c3b2 : (l0.length == l1.length) = true:=by first | simpa using c3 | (simp at c3 ⊢;omega)
  clear c3
  have H':=aMx5 H
  clear H
  go_enter Tryd.func20,Tryd.ntmps20
  go_wp2
  repeat (go_quiet (fail);try go_wp2)
  go_loopg [5] k (fun kq v5 w' => ∃ (x5_1 : Int),v5 = .int .i64 x5_1 ∧ Aside0 (lapidaryref00_SameInts.l0 kq l0 l1 x5_1 = some r) ∧ Aside0 (kq ≤ k) ∧ Drawn0 w w')
  case atStart => exact ⟨(0),(by first | rfl | (simp;done) | (simp [*];done) | (simp [wrap64];done)),H',⟨Nat.le_refl _⟩,by repeat (first | exact Drawn0.refl _ | apply Drawn0.step)⟩
  case round =>
   clear H'
   (try clear c1);(try clear c2);(try clear p2);(try clear c3);(try clear c3b0);(try clear c3b1);(try clear c3b2)
   obtain ⟨x5_1,rfl,HA,HK1,⟨m1,rfl⟩⟩:=hrel
   cases gk with
   | zero => exact absurd HA.out (by simp [lapidaryref00_SameInts.l0])
   | succ k1 =>
    have H:=HA.out
    clear HA
    simp only [lapidaryref00_SameInts.l0] at H
    by_cases c4 : x5_1 < (l0.length : Int)
    ·rw [if_pos c4] at H
     have c4b0 : decide (x5_1 < (l0.length : Int)) = true:=decide_eq_true c4
     clear c4
     by_cases c5 : 0 ≤ x5_1
     ·rw [if_pos c5] at H
      have c5b0 : decide (0 ≤ x5_1) = true:=decide_eq_true c5
      clear c5
      by_cases c6 : x5_1 < (l1.length : Int)
      ·rw [if_pos c6] at H
       have c6b0 : decide (x5_1 < (l1.length : Int)) = true:=decide_eq_true c6
       clear c6
       by_cases c7 : (rd l0 x5_1) = (rd l1 x5_1)
       ·rw [if_pos c7] at H
        have c7b0 : ((rd l0 x5_1) == (rd l1 x5_1)) = true:=beq_iff_eq.mpr c7
        have c7b1 : ((rd l0 x5_1) != (rd l1 x5_1)) = false:=bne_eq_false_iff_eq.mpr c7
        clear c7
        have H':=aMx5 H
        clear H
        have p140 : 0 ≤ (x5_1 : Int):=of_decide_eq_true (by first | (with_reducible assumption) | assumption)
        have q140 : x5_1 < (l0.length : Int):=of_decide_eq_true (by first | (with_reducible assumption) | assumption)
        obtain ⟨ad140,e140,hx140_0⟩:=Kd.at_int HR0.out x5_1 p140 q140
        cases e140
        replace p140:=eq_true p140
        replace q140:=eq_true q140
        have p141 : 0 ≤ (x5_1 : Int):=of_decide_eq_true (by first | (with_reducible assumption) | assumption)
        have q141 : x5_1 < (l1.length : Int):=of_decide_eq_true (by first | (with_reducible assumption) | assumption)
        obtain ⟨ad141,e141,hx141_0⟩:=Kd.at_int HR1.out x5_1 p141 q141
        cases e141
        replace p141:=eq_true p141
        replace q141:=eq_true q141
        go_wp2
        repeat (go_quiet (fail);try go_wp2)
        go_roundg k1
        case measure => have:=HK1.out;omega
        case rel => exact ⟨(wrap64 (x5_1+1)),(by first | rfl | (simp;done) | (simp [*];done) | (simp [wrap64];done)),H',⟨by have:=HK1.out;omega⟩,by repeat (first | exact Drawn0.refl _ | apply Drawn0.step)⟩
       ·rw [if_neg c7] at H
        have c7b0 : ((rd l0 x5_1) == (rd l1 x5_1)) = false:=beq_eq_false_iff_ne.mpr c7
        have c7b1 : ((rd l0 x5_1) != (rd l1 x5_1)) = true:=bne_iff_ne.mpr c7
        obtain rfl:=Option.some.inj H
        have p140 : 0 ≤ (x5_1 : Int):=of_decide_eq_true (by first | (with_reducible assumption) | assumption)
        have q140 : x5_1 < (l0.length : Int):=of_decide_eq_true (by first | (with_reducible assumption) | assumption)
        obtain ⟨ad140,e140,hx140_0⟩:=Kd.at_int HR0.out x5_1 p140 q140
        cases e140
        replace p140:=eq_true p140
        replace q140:=eq_true q140
        have p141 : 0 ≤ (x5_1 : Int):=of_decide_eq_true (by first | (with_reducible assumption) | assumption)
        have q141 : x5_1 < (l1.length : Int):=of_decide_eq_true (by first | (with_reducible assumption) | assumption)
        obtain ⟨ad141,e141,hx141_0⟩:=Kd.at_int HR1.out x5_1 p141 q141
        cases e141
        replace p141:=eq_true p141
        replace q141:=eq_true q141
        go_wp2
        repeat (go_quiet (fail);try go_wp2)
        go_ret
        exact ⟨by first | rfl | (simp;done) | (simp [*];done) | (simp [wrap64];done),by repeat (first | exact Drawn0.refl _ | apply Drawn0.step)⟩
      ·rw [if_neg c6] at H
       exact absurd H (by simp)
     ·rw [if_neg c5] at H
      exact absurd H (by simp)
    ·rw [if_neg c4] at H
     have c4b0 : decide (x5_1 < (l0.length : Int)) = false:=decide_eq_false c4
     clear c4
     obtain rfl:=Option.some.inj H
     go_wp2
     repeat (go_quiet (fail);try go_wp2)
     go_ret
     exact ⟨by first | rfl | (simp;done) | (simp [*];done) | (simp [wrap64];done),by repeat (first | exact Drawn0.refl _ | apply Drawn0.step)⟩
 ·rw [if_neg c3] at H
  have c3b0 : ((l0.length : Int) == (l1.length : Int)) = false:=beq_eq_false_iff_ne.mpr c3
  have c3b1 : ((l0.length : Int) != (l1.length : Int)) = true:=bne_iff_ne.mpr c3
  have c3b2 : (l0.length == l1.length) = false:=by first | simpa using c3 | (simp at c3 ⊢;omega)
  obtain rfl:=Option.some.inj H
  go_enter Tryd.func20,Tryd.ntmps20
  go_wp2
  repeat (go_quiet (fail);try go_wp2)
  go_ret
  exact ⟨by first | rfl | (simp;done) | (simp [*];done) | (simp [wrap64];done),by repeat (first | exact Drawn0.refl _ | apply Drawn0.step)⟩
mutual
def lapidaryref13_Back.l0 : Nat → List Int → List Int → Int → Option (List Int × Bool)
  | 0, _, _, _ => none
  | k + 1, x0, x4, x5 => if x5 < (x0.length : Int) then (lapidaryref13_Back.l1 k x0 x4 x5 (-1) 0) else (some (x4, true))
def lapidaryref13_Back.l1 : Nat → List Int → List Int → Int → Int → Int → Option (List Int × Bool)
  | 0, _, _, _, _, _ => none
  | k + 1, x0, x4, x5, x6, x7 => if x7 < (x0.length : Int) then (if 0 ≤ x7 then (if (rd x0 x7) = x5 then (lapidaryref13_Back.l1 k x0 x4 x5 x7 (wrap64 (x7 + 1))) else (lapidaryref13_Back.l1 k x0 x4 x5 x6 (wrap64 (x7 + 1)))) else (none)) else (if x6 < 0 then (some (([] : List Int), false)) else (if x4.length < 17592186044416 then (lapidaryref13_Back.l0 k x0 (x4 ++ [x6]) (wrap64 (x5 + 1))) else (none)))
end
def lapidaryref13_Back.f (k : Nat) (l0 : List Int) : Option (List Int × Bool) := lapidaryref13_Back.l0 k l0 ([] : List Int) 0
mutual
def lapidaryref10_Has.l0 : Nat → List (S57) → Int → Int → Int → Option (Int)
  | 0, _, _, _, _ => none
  | k + 1, x0, x1, x2, x7 => if x7 < (x0.length : Int) then (lapidaryref10_Has.l1 k x0 x1 x2 x7 0) else (some (-1))
def lapidaryref10_Has.l1 : Nat → List (S57) → Int → Int → Int → Int → Option (Int)
  | 0, _, _, _, _, _ => none
  | k + 1, x0, x1, x2, x7, x8 => if x8 < 3 then (if 0 ≤ x7 then (if x7 < (x0.length : Int) then (if x8 = 0 then (if ((rd_T57 x0 x7).f0) = x1 then (if ((rd_T57 x0 x7).f1) = x2 then (some x7) else (lapidaryref10_Has.l1 k x0 x1 x2 x7 (wrap64 (x8 + 1)))) else (lapidaryref10_Has.l1 k x0 x1 x2 x7 (wrap64 (x8 + 1)))) else (if x8 = 1 then (if ((rd_T57 x0 x7).f1) = x1 then (if ((rd_T57 x0 x7).f2) = x2 then (some x7) else (lapidaryref10_Has.l1 k x0 x1 x2 x7 (wrap64 (x8 + 1)))) else (lapidaryref10_Has.l1 k x0 x1 x2 x7 (wrap64 (x8 + 1)))) else (if x8 = 2 then (if ((rd_T57 x0 x7).f2) = x1 then (if ((rd_T57 x0 x7).f0) = x2 then (some x7) else (lapidaryref10_Has.l1 k x0 x1 x2 x7 (wrap64 (x8 + 1)))) else (lapidaryref10_Has.l1 k x0 x1 x2 x7 (wrap64 (x8 + 1)))) else (none)))) else (none)) else (none)) else (lapidaryref10_Has.l0 k x0 x1 x2 (wrap64 (x7 + 1)))
end
def lapidaryref10_Has.f (k : Nat) (l0 : List (S57)) (a1 : Int) (a2 : Int) : Option (Int) := lapidaryref10_Has.l0 k l0 a1 a2 0
theorem lapidaryref10_Has.mono_l : ∀ k, (∀ y0 y1 y2 y3, LeO (lapidaryref10_Has.l0 k y0 y1 y2 y3) (lapidaryref10_Has.l0 (k + 1) y0 y1 y2 y3)) ∧ (∀ y0 y1 y2 y3 y4, LeO (lapidaryref10_Has.l1 k y0 y1 y2 y3 y4) (lapidaryref10_Has.l1 (k + 1) y0 y1 y2 y3 y4))
  | 0 => ⟨fun _ _ _ _ r h => by simp [lapidaryref10_Has.l0] at h, fun _ _ _ _ _ r h => by simp [lapidaryref10_Has.l1] at h⟩
  | k + 1 => by
    obtain ⟨ih0, ih1⟩ := lapidaryref10_Has.mono_l k
    refine ⟨?_, ?_⟩
    · intro y0 y1 y2 y3
      unfold lapidaryref10_Has.l0
      repeat' first
      | (with_reducible exact ih0 _ _ _ _)
      | (with_reducible exact ih1 _ _ _ _ _)
      | (with_reducible exact LeO.refl _)
      | (with_reducible exact LeO.none _)
      | (with_reducible refine LeO.ite ?_ ?_)
      | (with_reducible refine LeO.bind ?_ (fun _ => ?_))
      | exact ih0 _ _ _ _
      | exact ih1 _ _ _ _ _
      | exact LeO.none _
      | refine LeO.ite ?_ ?_
      | refine LeO.bind ?_ (fun _ => ?_)
    · intro y0 y1 y2 y3 y4
      unfold lapidaryref10_Has.l1
      repeat' first
      | (with_reducible exact ih0 _ _ _ _)
      | (with_reducible exact ih1 _ _ _ _ _)
      | (with_reducible exact LeO.refl _)
      | (with_reducible exact LeO.none _)
      | (with_reducible refine LeO.ite ?_ ?_)
      | (with_reducible refine LeO.bind ?_ (fun _ => ?_))
      | exact ih0 _ _ _ _
      | exact ih1 _ _ _ _ _
      | exact LeO.none _
      | refine LeO.ite ?_ ?_
      | refine LeO.bind ?_ (fun _ => ?_)
theorem lapidaryref10_Has.mono : ∀ a0 a1 a2 k, LeO (lapidaryref10_Has.f k a0 a1 a2) (lapidaryref10_Has.f (k + 1) a0 a1 a2) := by
  intro a0 a1 a2 k
  obtain ⟨ih0, ih1⟩ := lapidaryref10_Has.mono_l k
  unfold lapidaryref10_Has.f
  repeat' first
      | (with_reducible exact ih0 _ _ _ _)
      | (with_reducible exact ih1 _ _ _ _ _)
      | (with_reducible exact LeO.refl _)
      | (with_reducible exact LeO.none _)
      | (with_reducible refine LeO.ite ?_ ?_)
      | (with_reducible refine LeO.bind ?_ (fun _ => ?_))
      | exact ih0 _ _ _ _
      | exact ih1 _ _ _ _ _
      | exact LeO.none _
      | refine LeO.ite ?_ ?_
      | refine LeO.bind ?_ (fun _ => ?_)
set_option maxHeartbeats 8000000 in
set_option maxRecDepth 100000 in
theorem lapidaryref10_Has.calls (k : Nat) (A0 : Option Addr) (c0 : Nat) (l0 : List (S57)) (a1 : Int) (a2 : Int) (r : Int) (w : World) (hr0 : Kd.C k57 w A0 l0.length l0) (hc0 : l0.length ≤ c0) (h : lapidaryref10_Has.f k l0 a1 a2 = some r) :
  Calls Tryd.prog 31 #[.slice A0 l0.length c0,.int .i64 a1,.int .i64 a2] w fun e w' => e = .returned (.int .i64 r) ∧ Drawn0 w w':=by
 have HR0:=aMx5 hr0
 have HC0:=aMx5 hc0
 clear hr0 hc0
 have H : (lapidaryref10_Has.l0 k l0 a1 a2 0) = some r:=h
 clear h
 have H':=aMx5 H
 clear H
 go_enter Tryd.func31,Tryd.ntmps31
 go_wp2
 go_loopg [7] k (fun kq v7 w' => ∃ (x7_1 : Int),v7 = .int .i64 x7_1 ∧ Aside0 (lapidaryref10_Has.l0 kq l0 a1 a2 x7_1 = some r) ∧ Aside0 (kq ≤ k) ∧ Drawn0 w w')
 case atStart => exact ⟨(0),(by first | rfl | (simp;done) | (simp [*];done) | (simp [wrap64];done)),H',⟨Nat.le_refl _⟩,by repeat (first | exact Drawn0.refl _ | apply Drawn0.step)⟩
 case round =>
  clear H'
  (try clear p2);(try clear c3)
  obtain ⟨x7_1,rfl,HA,HK1,⟨m1,rfl⟩⟩:=hrel
  cases gk with
  | zero => exact absurd HA.out (by simp [lapidaryref10_Has.l0])
  | succ k1 =>
   have H:=HA.out
   clear HA
   simp only [lapidaryref10_Has.l0] at H
   by_cases c4 : x7_1 < (l0.length : Int)
   ·rw [if_pos c4] at H
    have c4b0 : decide (x7_1 < (l0.length : Int)) = true:=decide_eq_true c4
    clear c4
    have H':=aMx5 H
    clear H
    go_wp2
    go_loopg [8] k1 (fun kq v8 w' => ∃ (x8_2 : Int),v8 = .int .i64 x8_2 ∧ Aside0 (lapidaryref10_Has.l1 kq l0 a1 a2 x7_1 x8_2 = some r) ∧ Aside0 (kq ≤ k1) ∧ Drawn0 w w')
    case atStart => exact ⟨(0),(by first | rfl | (simp;done) | (simp [*];done) | (simp [wrap64];done)),H',⟨Nat.le_refl _⟩,by repeat (first | exact Drawn0.refl _ | apply Drawn0.step)⟩
    case round =>
     clear H'
     (try clear p2);(try clear c3);(try clear c4);(try clear c4b0);(try clear p2)
     obtain ⟨x8_2,rfl,HA,HK2,⟨m2,rfl⟩⟩:=hrel
     cases gk with
     | zero => exact absurd HA.out (by simp [lapidaryref10_Has.l1])
     | succ k2 =>
      have H:=HA.out
      clear HA
      simp only [lapidaryref10_Has.l1] at H
      by_cases c5 : x8_2 < 3
      ·rw [if_pos c5] at H
       have c5b0 : decide (x8_2 < 3) = true:=decide_eq_true c5
       clear c5
       by_cases c6 : 0 ≤ x7_1
       ·rw [if_pos c6] at H
        have c6b0 : decide (0 ≤ x7_1) = true:=decide_eq_true c6
        clear c6
        by_cases c7 : x7_1 < (l0.length : Int)
        ·rw [if_pos c7] at H
         have c7b0 : decide (x7_1 < (l0.length : Int)) = true:=decide_eq_true c7
         clear c7
         by_cases c8 : x8_2 = 0
         ·rw [if_pos c8] at H
          subst c8
          by_cases c9 : ((rd_T57 l0 x7_1).f0) = a1
          ·rw [if_pos c9] at H
           have c9b0 : (((rd_T57 l0 x7_1).f0) == a1) = true:=beq_iff_eq.mpr c9
           have c9b1 : (((rd_T57 l0 x7_1).f0) != a1) = false:=bne_eq_false_iff_eq.mpr c9
           clear c9
           by_cases c10 : ((rd_T57 l0 x7_1).f1) = a2
           ·rw [if_pos c10] at H
            have c10b0 : (((rd_T57 l0 x7_1).f1) == a2) = true:=beq_iff_eq.mpr c10
            have c10b1 : (((rd_T57 l0 x7_1).f1) != a2) = false:=bne_eq_false_iff_eq.mpr c10
            clear c10
            obtain rfl:=Option.some.inj H
            have p146 : 0 ≤ (x7_1 : Int):=of_decide_eq_true (by first | (with_reducible assumption) | assumption)
            have q146 : x7_1 < (l0.length : Int):=of_decide_eq_true (by first | (with_reducible assumption) | assumption)
            obtain ⟨ad146,e146,hx146_0,hx146_1,hx146_2⟩:=at_T57 HR0.out x7_1 p146 q146
            cases e146
            replace p146:=eq_true p146
            replace q146:=eq_true q146
            have p147 : 0 ≤ (x7_1 : Int):=of_decide_eq_true (by first | (with_reducible assumption) | assumption)
            have q147 : x7_1 < (l0.length : Int):=of_decide_eq_true (by first | (with_reducible assumption) | assumption)
            obtain ⟨ad147,e147,hx147_0,hx147_1,hx147_2⟩:=at_T57 HR0.out x7_1 p147 q147
            obtain rfl : ad146 = ad147:=(by injection e147)
            replace p147:=eq_true p147
            replace q147:=eq_true q147
            go_wp2
            go_ret
            exact ⟨by first | rfl | (simp;done) | (simp [*];done) | (simp [wrap64];done),by repeat (first | exact Drawn0.refl _ | apply Drawn0.step)⟩
           ·rw [if_neg c10] at H
            have c10b0 : (((rd_T57 l0 x7_1).f1) == a2) = false:=beq_eq_false_iff_ne.mpr c10
            have c10b1 : (((rd_T57 l0 x7_1).f1) != a2) = true:=bne_iff_ne.mpr c10
            have H':=aMx5 H
            clear H
            have p146 : 0 ≤ (x7_1 : Int):=of_decide_eq_true (by first | (with_reducible assumption) | assumption)
            have q146 : x7_1 < (l0.length : Int):=of_decide_eq_true (by first | (with_reducible assumption) | assumption)
            obtain ⟨ad146,e146,hx146_0,hx146_1,hx146_2⟩:=at_T57 HR0.out x7_1 p146 q146
            cases e146
            replace p146:=eq_true p146
            replace q146:=eq_true q146
            have p147 : 0 ≤ (x7_1 : Int):=of_decide_eq_true (by first | (with_reducible assumption) | assumption)
            have q147 : x7_1 < (l0.length : Int):=of_decide_eq_true (by first | (with_reducible assumption) | assumption)
            obtain ⟨ad147,e147,hx147_0,hx147_1,hx147_2⟩:=at_T57 HR0.out x7_1 p147 q147
            obtain rfl : ad146 = ad147:=(by injection e147)
            replace p147:=eq_true p147
            replace q147:=eq_true q147
            go_wp2
            go_roundg k2
            case measure => have:=HK1.out;have:=HK2.out;omega
            case rel => exact ⟨(wrap64 (0+1)),(by first | rfl | (simp;done) | (simp [*];done) | (simp [wrap64];done)),H',⟨by have:=HK1.out;have:=HK2.out;omega⟩,by repeat (first | exact Drawn0.refl _ | apply Drawn0.step)⟩
          ·rw [if_neg c9] at H
           have c9b0 : (((rd_T57 l0 x7_1).f0) == a1) = false:=beq_eq_false_iff_ne.mpr c9
           have c9b1 : (((rd_T57 l0 x7_1).f0) != a1) = true:=bne_iff_ne.mpr c9
           have H':=aMx5 H
           clear H
           have p146 : 0 ≤ (x7_1 : Int):=of_decide_eq_true (by first | (with_reducible assumption) | assumption)
           have q146 : x7_1 < (l0.length : Int):=of_decide_eq_true (by first | (with_reducible assumption) | assumption)
           obtain ⟨ad146,e146,hx146_0,hx146_1,hx146_2⟩:=at_T57 HR0.out x7_1 p146 q146
           cases e146
           replace p146:=eq_true p146
           replace q146:=eq_true q146
           go_wp2
           go_roundg k2
           case measure => have:=HK1.out;have:=HK2.out;omega
           case rel => exact ⟨(wrap64 (0+1)),(by first | rfl | (simp;done) | (simp [*];done) | (simp [wrap64];done)),H',⟨by have:=HK1.out;have:=HK2.out;omega⟩,by repeat (first | exact Drawn0.refl _ | apply Drawn0.step)⟩
         ·rw [if_neg c8] at H
          by_cases c11 : x8_2 = 1
          ·rw [if_pos c11] at H
           subst c11
           by_cases c12 : ((rd_T57 l0 x7_1).f1) = a1
           ·rw [if_pos c12] at H
            have c12b0 : (((rd_T57 l0 x7_1).f1) == a1) = true:=beq_iff_eq.mpr c12
            have c12b1 : (((rd_T57 l0 x7_1).f1) != a1) = false:=bne_eq_false_iff_eq.mpr c12
            clear c12
            by_cases c13 : ((rd_T57 l0 x7_1).f2) = a2
            ·rw [if_pos c13] at H
             have c13b0 : (((rd_T57 l0 x7_1).f2) == a2) = true:=beq_iff_eq.mpr c13
             have c13b1 : (((rd_T57 l0 x7_1).f2) != a2) = false:=bne_eq_false_iff_eq.mpr c13
             clear c13
             obtain rfl:=Option.some.inj H
             have p146 : 0 ≤ (x7_1 : Int):=of_decide_eq_true (by first | (with_reducible assumption) | assumption)
             have q146 : x7_1 < (l0.length : Int):=of_decide_eq_true (by first | (with_reducible assumption) | assumption)
             obtain ⟨ad146,e146,hx146_0,hx146_1,hx146_2⟩:=at_T57 HR0.out x7_1 p146 q146
             cases e146
             replace p146:=eq_true p146
             replace q146:=eq_true q146
             have p148 : 0 ≤ (x7_1 : Int):=of_decide_eq_true (by first | (with_reducible assumption) | assumption)
             have q148 : x7_1 < (l0.length : Int):=of_decide_eq_true (by first | (with_reducible assumption) | assumption)
             obtain ⟨ad148,e148,hx148_0,hx148_1,hx148_2⟩:=at_T57 HR0.out x7_1 p148 q148
             obtain rfl : ad146 = ad148:=(by injection e148)
             replace p148:=eq_true p148
             replace q148:=eq_true q148
             go_wp2
             go_ret
             exact ⟨by first | rfl | (simp;done) | (simp [*];done) | (simp [wrap64];done),by repeat (first | exact Drawn0.refl _ | apply Drawn0.step)⟩
            ·rw [if_neg c13] at H
             have c13b0 : (((rd_T57 l0 x7_1).f2) == a2) = false:=beq_eq_false_iff_ne.mpr c13
             have c13b1 : (((rd_T57 l0 x7_1).f2) != a2) = true:=bne_iff_ne.mpr c13
             have H':=aMx5 H
             clear H
             have p146 : 0 ≤ (x7_1 : Int):=of_decide_eq_true (by first | (with_reducible assumption) | assumption)
             have q146 : x7_1 < (l0.length : Int):=of_decide_eq_true (by first | (with_reducible assumption) | assumption)
             obtain ⟨ad146,e146,hx146_0,hx146_1,hx146_2⟩:=at_T57 HR0.out x7_1 p146 q146
             cases e146
             replace p146:=eq_true p146
             replace q146:=eq_true q146
             have p148 : 0 ≤ (x7_1 : Int):=of_decide_eq_true (by first | (with_reducible assumption) | assumption)
             have q148 : x7_1 < (l0.length : Int):=of_decide_eq_true (by first | (with_reducible assumption) | assumption)
             obtain ⟨ad148,e148,hx148_0,hx148_1,hx148_2⟩:=at_T57 HR0.out x7_1 p148 q148
             obtain rfl : ad146 = ad148:=(by injection e148)
             replace p148:=eq_true p148
             replace q148:=eq_true q148
             go_wp2
             go_roundg k2
             case measure => have:=HK1.out;have:=HK2.out;omega
             case rel => exact ⟨(wrap64 (1+1)),(by first | rfl | (simp;done) | (simp [*];done) | (simp [wrap64];done)),H',⟨by have:=HK1.out;have:=HK2.out;omega⟩,by repeat (first | exact Drawn0.refl _ | apply Drawn0.step)⟩
           ·rw [if_neg c12] at H
            have c12b0 : (((rd_T57 l0 x7_1).f1) == a1) = false:=beq_eq_false_iff_ne.mpr c12
            have c12b1 : (((rd_T57 l0 x7_1).f1) != a1) = true:=bne_iff_ne.mpr c12
            have H':=aMx5 H
            clear H
            have p146 : 0 ≤ (x7_1 : Int):=of_decide_eq_true (by first | (with_reducible assumption) | assumption)
            have q146 : x7_1 < (l0.length : Int):=of_decide_eq_true (by first | (with_reducible assumption) | assumption)
            obtain ⟨ad146,e146,hx146_0,hx146_1,hx146_2⟩:=at_T57 HR0.out x7_1 p146 q146
            cases e146
            replace p146:=eq_true p146
            replace q146:=eq_true q146
            go_wp2
            go_roundg k2
            case measure => have:=HK1.out;have:=HK2.out;omega
            case rel => exact ⟨(wrap64 (1+1)),(by first | rfl | (simp;done) | (simp [*];done) | (simp [wrap64];done)),H',⟨by have:=HK1.out;have:=HK2.out;omega⟩,by repeat (first | exact Drawn0.refl _ | apply Drawn0.step)⟩
          ·rw [if_neg c11] at H
           by_cases c14 : x8_2 = 2
           ·rw [if_pos c14] at H
            subst c14
            by_cases c15 : ((rd_T57 l0 x7_1).f2) = a1
            ·rw [if_pos c15] at H
             have c15b0 : (((rd_T57 l0 x7_1).f2) == a1) = true:=beq_iff_eq.mpr c15
             have c15b1 : (((rd_T57 l0 x7_1).f2) != a1) = false:=bne_eq_false_iff_eq.mpr c15
             clear c15
             by_cases c16 : ((rd_T57 l0 x7_1).f0) = a2
             ·rw [if_pos c16] at H
              have c16b0 : (((rd_T57 l0 x7_1).f0) == a2) = true:=beq_iff_eq.mpr c16
              have c16b1 : (((rd_T57 l0 x7_1).f0) != a2) = false:=bne_eq_false_iff_eq.mpr c16
              clear c16
              obtain rfl:=Option.some.inj H
              have p146 : 0 ≤ (x7_1 : Int):=of_decide_eq_true (by first | (with_reducible assumption) | assumption)
              have q146 : x7_1 < (l0.length : Int):=of_decide_eq_true (by first | (with_reducible assumption) | assumption)
              obtain ⟨ad146,e146,hx146_0,hx146_1,hx146_2⟩:=at_T57 HR0.out x7_1 p146 q146
              cases e146
              replace p146:=eq_true p146
              replace q146:=eq_true q146
              have p149 : 0 ≤ (x7_1 : Int):=of_decide_eq_true (by first | (with_reducible assumption) | assumption)
              have q149 : x7_1 < (l0.length : Int):=of_decide_eq_true (by first | (with_reducible assumption) | assumption)
              obtain ⟨ad149,e149,hx149_0,hx149_1,hx149_2⟩:=at_T57 HR0.out x7_1 p149 q149
              obtain rfl : ad146 = ad149:=(by injection e149)
              replace p149:=eq_true p149
              replace q149:=eq_true q149
              go_wp2
              go_ret
              exact ⟨by first | rfl | (simp;done) | (simp [*];done) | (simp [wrap64];done),by repeat (first | exact Drawn0.refl _ | apply Drawn0.step)⟩
             ·rw [if_neg c16] at H
              have c16b0 : (((rd_T57 l0 x7_1).f0) == a2) = false:=beq_eq_false_iff_ne.mpr c16
              have c16b1 : (((rd_T57 l0 x7_1).f0) != a2) = true:=bne_iff_ne.mpr c16
              have H':=aMx5 H
              clear H
              have p146 : 0 ≤ (x7_1 : Int):=of_decide_eq_true (by first | (with_reducible assumption) | assumption)
              have q146 : x7_1 < (l0.length : Int):=of_decide_eq_true (by first | (with_reducible assumption) | assumption)
              obtain ⟨ad146,e146,hx146_0,hx146_1,hx146_2⟩:=at_T57 HR0.out x7_1 p146 q146
              cases e146
              replace p146:=eq_true p146
              replace q146:=eq_true q146
              have p149 : 0 ≤ (x7_1 : Int):=of_decide_eq_true (by first | (with_reducible assumption) | assumption)
              have q149 : x7_1 < (l0.length : Int):=of_decide_eq_true (by first | (with_reducible assumption) | assumption)
              obtain ⟨ad149,e149,hx149_0,hx149_1,hx149_2⟩:=at_T57 HR0.out x7_1 p149 q149
              obtain rfl : ad146 = ad149:=(by injection e149)
              replace p149:=eq_true p149
              replace q149:=eq_true q149
              go_wp2
              go_roundg k2
              case measure => have:=HK1.out;have:=HK2.out;omega
              case rel => exact ⟨(wrap64 (2+1)),(by first | rfl | (simp;done) | (simp [*];done) | (simp [wrap64];done)),H',⟨by have:=HK1.out;have:=HK2.out;omega⟩,by repeat (first | exact Drawn0.refl _ | apply Drawn0.step)⟩
            ·rw [if_neg c15] at H
             have c15b0 : (((rd_T57 l0 x7_1).f2) == a1) = false:=beq_eq_false_iff_ne.mpr c15
             have c15b1 : (((rd_T57 l0 x7_1).f2) != a1) = true:=bne_iff_ne.mpr c15
             have H':=aMx5 H
             clear H
             have p146 : 0 ≤ (x7_1 : Int):=of_decide_eq_true (by first | (with_reducible assumption) | assumption)
             have q146 : x7_1 < (l0.length : Int):=of_decide_eq_true (by first | (with_reducible assumption) | assumption)
             obtain ⟨ad146,e146,hx146_0,hx146_1,hx146_2⟩:=at_T57 HR0.out x7_1 p146 q146
             cases e146
             replace p146:=eq_true p146
             replace q146:=eq_true q146
             go_wp2
             go_roundg k2
             case measure => have:=HK1.out;have:=HK2.out;omega
             case rel => exact ⟨(wrap64 (2+1)),(by first | rfl | (simp;done) | (simp [*];done) | (simp [wrap64];done)),H',⟨by have:=HK1.out;have:=HK2.out;omega⟩,by repeat (first | exact Drawn0.refl _ | apply Drawn0.step)⟩
           ·rw [if_neg c14] at H
            exact absurd H (by simp)
        ·rw [if_neg c7] at H
         exact absurd H (by simp)
       ·rw [if_neg c6] at H
        exact absurd H (by simp)
      ·rw [if_neg c5] at H
       have c5b0 : decide (x8_2 < 3) = false:=decide_eq_false c5
       clear c5
       have H':=aMx5 H
       clear H
       go_wp2
       go_roundg k2
       case measure => have:=HK1.out;have:=HK2.out;omega
       case rel => exact ⟨(wrap64 (x7_1+1)),(by first | rfl | (simp;done) | (simp [*];done) | (simp [wrap64];done)),H',⟨by have:=HK1.out;have:=HK2.out;omega⟩,by repeat (first | exact Drawn0.refl _ | apply Drawn0.step)⟩
   ·rw [if_neg c4] at H
    have c4b0 : decide (x7_1 < (l0.length : Int)) = false:=decide_eq_false c4
    clear c4
    obtain rfl:=Option.some.inj H
    go_wp2
    go_ret
    exact ⟨by first | rfl | (simp;done) | (simp [*];done) | (simp [wrap64];done),by repeat (first | exact Drawn0.refl _ | apply Drawn0.step)⟩
def lapidaryref10_coord.f (a0 : Int) : Option (Bool) := if a0 ≥ (-2147483648) then (some (decide (a0 ≤ 2147483647))) else (some false)
set_option maxHeartbeats 8000000 in
set_option maxRecDepth 100000 in
theorem lapidaryref10_coord.calls (a0 : Int) (r : Bool) (w : World) (h : lapidaryref10_coord.f a0 = some r) :
  Calls Tryd.prog 42 #[.int .i64 a0] w fun e w' => e = .returned (.bool r) ∧ Drawn0 w w':=by
 have H : (if a0 ≥ (-2147483648) then (some (decide (a0 ≤ 2147483647))) else (some false)) = some r:=h
 clear h
 by_cases c2 : a0 ≥ (-2147483648)
 ·rw [if_pos c2] at H
  have c2b0 : decide ((-2147483648) ≤ a0) = true:=decide_eq_true c2
  clear c2
  obtain rfl:=Option.some.inj H
  go_enter Tryd.func42,Tryd.ntmps42
  go_wp2
  go_ret
  exact ⟨by first | rfl | (simp;done) | (simp [*];done) | (simp [wrap64];done),by repeat (first | exact Drawn0.refl _ | apply Drawn0.step)⟩
 ·rw [if_neg c2] at H
  have c2b0 : decide ((-2147483648) ≤ a0) = false:=decide_eq_false c2
  clear c2
  obtain rfl:=Option.some.inj H
  go_enter Tryd.func42,Tryd.ntmps42
  go_wp2
  go_ret
  exact ⟨by first | rfl | (simp;done) | (simp [*];done) | (simp [wrap64];done),by repeat (first | exact Drawn0.refl _ | apply Drawn0.step)⟩
end Go.Proofs.YtbdpfmpbooikiaaDoor.PIsr
