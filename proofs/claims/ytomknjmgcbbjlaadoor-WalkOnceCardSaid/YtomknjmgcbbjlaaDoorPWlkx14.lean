import Derived.Test.YtomknjmgcbbjlaaDoorPWlkx0
import Derived.Test.YtomknjmgcbbjlaaDoorStepsStub
import Derived.Test.YtomknjmgcbbjlaaDoorPWlkx12
namespace Go.Proofs.YtomknjmgcbbjlaaDoor.PWlk
open Go Go.RowKit Go.Proofs.YtomknjmgcbbjlaaDoorW.PrintWords Go.Proofs.YtomknjmgcbbjlaaDoorW.PrintLast Go.Proofs.YtomknjmgcbbjlaaDoorW.PrintMore
attribute [local go_sem] max2_int min2_int max_two min_two max_three min_three max_four min_four
set_option linter.unusedVariables false
set_option maxRecDepth 100000
set_option linter.unusedSimpArgs false
attribute [local go_sem high] eqA46 eqA47
attribute [local go_sem] idx47_0_0 idx47_1_0 idx47_2_0 idx107_0_0 idx107_1_0
theorem tm1_x14 : (wrap64 1).tmod 3 = 1 := by first | rfl | decide | (unfold wrap64; rfl)
theorem tm2_x14 : (wrap64 2).tmod 3 = 2 := by first | rfl | decide | (unfold wrap64; rfl)
theorem tm3_x14 : (wrap64 3).tmod 3 = 0 := by first | rfl | decide | (unfold wrap64; rfl)
attribute [local go_sem] tm1_x14 tm2_x14 tm3_x14
theorem aMx14 {p : Prop} (h : p) : Aside0 p := ⟨h⟩
def lapidaryref11_Canon.l0 : Nat → Int → List (S46) → List (S47) → List Int → List Int → List (S47) → List (S107) → List (S62) → List (S46) → List (S47) → Option ((List (S46)) × (List (S47)) × Int)
  | 0, _, _, _, _, _, _, _, _, _, _ => none
  | k + 1, x7, x441000, x441001, x459000, x459001, x459002, x459003, x459004, x460000, x460001 => if x7 < (x459000.length : Int) then (if 0 ≤ x7 then (if 0 ≤ (rd x459000 x7) then (if (rd x459000 x7) < (x441000.length : Int) then (if x460000.length < 5864062014805 then (lapidaryref11_Canon.l0 k (wrap64 (x7 + 1)) x441000 x441001 x459000 x459001 x459002 x459003 x459004 (x460000 ++ [(⟨(rd_T46 x441000 (rd x459000 x7)).f0, (rd_T46 x441000 (rd x459000 x7)).f1, (rd_T46 x441000 (rd x459000 x7)).f2⟩ : S46)]) x460001) else (none)) else (none)) else (none)) else (none)) else (some (x460000, x460001, 0))
def lapidaryref11_Canon.f (k : Nat) (l0_0 : List (S46)) (l0_1 : List (S47)) : Option ((List (S46)) × (List (S47)) × Int) := (lapidaryref11_Walk.f k l0_0 l0_1).bind fun bt442 => (if bt442.2.2.2.2.2 = 0 then (lapidaryref11_Canon.l0 k 0 l0_0 l0_1 bt442.1 bt442.2.1 bt442.2.2.1 bt442.2.2.2.1 bt442.2.2.2.2.1 ([] : List (S46)) bt442.2.2.1) else (some (([] : List (S46)), ([] : List (S47)), bt442.2.2.2.2.2)))
def api_Point_81.l0 : Nat → List (S46) → List (S46) → Int → Int → Option (Bool)
  | 0, _, _, _, _ => none
  | k + 1, x0, x1, x12, x13 => if x13 < x12 then (if 0 ≤ x13 then (if x13 < (x0.length : Int) then (if x13 < (x1.length : Int) then (if (!(((rd_T46 x0 x13).f0) == ((rd_T46 x1 x13).f0)) || (!(((rd_T46 x0 x13).f1) == ((rd_T46 x1 x13).f1)) || (!(((rd_T46 x0 x13).f2) == ((rd_T46 x1 x13).f2))))) = true then (some false) else (api_Point_81.l0 k x0 x1 x12 (wrap64 (x13 + 1)))) else (none)) else (none)) else (none)) else (some true)
def api_Point_81.f (k : Nat) (l0 : List (S46)) (l1 : List (S46)) : Option (Bool) := if (l0.length : Int) = (l1.length : Int) then (api_Point_81.l0 k l0 l1 (l0.length : Int) 0) else (some false)
set_option maxHeartbeats 8000000 in
set_option maxRecDepth 100000 in
theorem api_Point_81.calls (k : Nat) (A0 : Option Addr) (c0 : Nat) (l0 : List (S46)) (A1 : Option Addr) (c1 : Nat) (l1 : List (S46)) (r : Bool) (w : World) (hr0 : Kd.C k46 w A0 l0.length l0) (hc0 : l0.length ≤ c0) (hr1 : Kd.C k46 w A1 l1.length l1) (hc1 : l1.length ≤ c1) (h : api_Point_81.f k l0 l1 = some r) :
  Calls Tryd.prog 81 #[.slice A0 l0.length c0,.slice A1 l1.length c1] w fun e w' => e = .returned (.bool r) ∧ Drawn0 w w':=by
 have hu46:=Tryd.underlying46
 have HR0:=aMx14 hr0
 have HC0:=aMx14 hc0
 clear hr0 hc0
 have HR1:=aMx14 hr1
 have HC1:=aMx14 hc1
 clear hr1 hc1
 have H : (if (l0.length : Int) = (l1.length : Int) then (api_Point_81.l0 k l0 l1 (l0.length : Int) 0) else (some false)) = some r:=h
 clear h
 by_cases c3 : (l0.length : Int) = (l1.length : Int)
 ·rw [if_pos c3] at H
  have c3b0 : ((l0.length : Int) == (l1.length : Int)) = true:=beq_iff_eq.mpr c3
  have c3b1 : ((l0.length : Int) != (l1.length : Int)) = false:=bne_eq_false_iff_eq.mpr c3
  have c3b2 : (l0.length == l1.length) = true:=by first | simpa using c3 | (simp at c3 ⊢;omega)
  clear c3
  have H':=aMx14 H
  clear H
  go_enter Tryd.func81,Tryd.ntmps81
  go_wp2
  repeat (go_quiet (fail);try go_wp2)
  go_loopg [13] k (fun kq v13 w' => ∃ (x13_1 : Int),v13 = .int .i64 x13_1 ∧ Aside0 (api_Point_81.l0 kq l0 l1 (l0.length : Int) x13_1 = some r) ∧ Aside0 (kq ≤ k) ∧ Drawn0 w w')
  case atStart => exact ⟨(0),(by first | rfl | (simp;done) | (simp [*];done) | (simp [wrap64];done)),H',⟨Nat.le_refl _⟩,by repeat (first | exact Drawn0.refl _ | apply Drawn0.step)⟩
  case round =>
   clear H'
   (try clear c1);(try clear p2);(try clear c3);(try clear c3b0);(try clear c3b1);(try clear c3b2)
   obtain ⟨x13_1,rfl,HA,HK1,⟨m1,rfl⟩⟩:=hrel
   cases gk with
   | zero => exact absurd HA.out (by simp [api_Point_81.l0])
   | succ k1 =>
    have H:=HA.out
    clear HA
    simp only [api_Point_81.l0] at H
    by_cases c4 : x13_1 < (l0.length : Int)
    ·rw [if_pos c4] at H
     have c4b0 : decide (x13_1 < (l0.length : Int)) = true:=decide_eq_true c4
     clear c4
     by_cases c5 : 0 ≤ x13_1
     ·rw [if_pos c5] at H
      have c5b0 : decide (0 ≤ x13_1) = true:=decide_eq_true c5
      clear c5
      by_cases c6 : x13_1 < (l0.length : Int)
      ·rw [if_pos c6] at H
       have c6b0 : decide (x13_1 < (l0.length : Int)) = true:=decide_eq_true c6
       clear c6
       by_cases c7 : x13_1 < (l1.length : Int)
       ·rw [if_pos c7] at H
        have c7b0 : decide (x13_1 < (l1.length : Int)) = true:=decide_eq_true c7
        clear c7
        by_cases c8 : (!(((rd_T46 l0 x13_1).f0) == ((rd_T46 l1 x13_1).f0)) || (!(((rd_T46 l0 x13_1).f1) == ((rd_T46 l1 x13_1).f1)) || (!(((rd_T46 l0 x13_1).f2) == ((rd_T46 l1 x13_1).f2))))) = true
        ·rw [if_pos c8] at H
         have c8b0 : (!(((rd_T46 l0 x13_1).f0) == ((rd_T46 l1 x13_1).f0)) || (!(((rd_T46 l0 x13_1).f1) == ((rd_T46 l1 x13_1).f1)) || (!(((rd_T46 l0 x13_1).f2) == ((rd_T46 l1 x13_1).f2))))) = true:=c8
         clear c8
         obtain rfl:=Option.some.inj H
         have p465 : 0 ≤ (x13_1 : Int):=of_decide_eq_true (by first | (with_reducible assumption) | assumption)
         have q465 : x13_1 < (l0.length : Int):=of_decide_eq_true (by first | (with_reducible assumption) | assumption)
         obtain ⟨ad465,e465,hx465_0,hx465_1,hx465_2⟩:=at_T46 HR0.out x13_1 p465 q465
         cases e465
         replace p465:=eq_true p465
         replace q465:=eq_true q465
         have p466 : 0 ≤ (x13_1 : Int):=of_decide_eq_true (by first | (with_reducible assumption) | assumption)
         have q466 : x13_1 < (l1.length : Int):=of_decide_eq_true (by first | (with_reducible assumption) | assumption)
         obtain ⟨ad466,e466,hx466_0,hx466_1,hx466_2⟩:=at_T46 HR1.out x13_1 p466 q466
         cases e466
         replace p466:=eq_true p466
         replace q466:=eq_true q466
         go_wp2
         repeat (go_quiet (fail);try go_wp2)
         go_ret
         exact ⟨by first | rfl | (simp;done) | (simp [*];done) | (simp [wrap64];done),by repeat (first | exact Drawn0.refl _ | apply Drawn0.step)⟩
        ·rw [if_neg c8] at H
         have c8b0 : (!(((rd_T46 l0 x13_1).f0) == ((rd_T46 l1 x13_1).f0)) || (!(((rd_T46 l0 x13_1).f1) == ((rd_T46 l1 x13_1).f1)) || (!(((rd_T46 l0 x13_1).f2) == ((rd_T46 l1 x13_1).f2))))) = false:=by simpa using c8
         clear c8
         have H':=aMx14 H
         clear H
         have p465 : 0 ≤ (x13_1 : Int):=of_decide_eq_true (by first | (with_reducible assumption) | assumption)
         have q465 : x13_1 < (l0.length : Int):=of_decide_eq_true (by first | (with_reducible assumption) | assumption)
         obtain ⟨ad465,e465,hx465_0,hx465_1,hx465_2⟩:=at_T46 HR0.out x13_1 p465 q465
         cases e465
         replace p465:=eq_true p465
         replace q465:=eq_true q465
         have p466 : 0 ≤ (x13_1 : Int):=of_decide_eq_true (by first | (with_reducible assumption) | assumption)
         have q466 : x13_1 < (l1.length : Int):=of_decide_eq_true (by first | (with_reducible assumption) | assumption)
         obtain ⟨ad466,e466,hx466_0,hx466_1,hx466_2⟩:=at_T46 HR1.out x13_1 p466 q466
         cases e466
         replace p466:=eq_true p466
         replace q466:=eq_true q466
         go_wp2
         repeat (go_quiet (fail);try go_wp2)
         go_roundg k1
         case measure => have:=HK1.out;omega
         case rel => exact ⟨(wrap64 (x13_1+1)),(by first | rfl | (simp;done) | (simp [*];done) | (simp [wrap64];done)),H',⟨by have:=HK1.out;omega⟩,by repeat (first | exact Drawn0.refl _ | apply Drawn0.step)⟩
       ·rw [if_neg c7] at H
        exact absurd H (by simp)
      ·rw [if_neg c6] at H
       exact absurd H (by simp)
     ·rw [if_neg c5] at H
      exact absurd H (by simp)
    ·rw [if_neg c4] at H
     have c4b0 : decide (x13_1 < (l0.length : Int)) = false:=decide_eq_false c4
     clear c4
     obtain rfl:=Option.some.inj H
     go_wp2
     repeat (go_quiet (fail);try go_wp2)
     go_ret
     exact ⟨by first | rfl | (simp;done) | (simp [*];done) | (simp [wrap64];done),by repeat (first | exact Drawn0.refl _ | apply Drawn0.step)⟩
 ·rw [if_neg c3] at H
  have c3b0 : ((l0.length : Int) == (l1.length : Int)) = false:=beq_eq_false_iff_ne.mpr c3
  have c3b1 : ((l0.length : Int) != (l1.length : Int)) = true:=bne_iff_ne.mpr c3
  have c3b2 : (l0.length == l1.length) = false:=by first | simpa using c3 | (simp at c3 ⊢;omega)
  obtain rfl:=Option.some.inj H
  go_enter Tryd.func81,Tryd.ntmps81
  go_wp2
  repeat (go_quiet (fail);try go_wp2)
  go_ret
  exact ⟨by first | rfl | (simp;done) | (simp [*];done) | (simp [wrap64];done),by repeat (first | exact Drawn0.refl _ | apply Drawn0.step)⟩
def slices_Equal_3_int_3_int.l0 : Nat → List (S47) → List (S47) → Int → Int → Option (Bool)
  | 0, _, _, _, _ => none
  | k + 1, x0, x1, x12, x13 => if x13 < x12 then (if 0 ≤ x13 then (if x13 < (x0.length : Int) then (if x13 < (x1.length : Int) then (if (!(((rd_T47 x0 x13).f0) == ((rd_T47 x1 x13).f0)) || (!(((rd_T47 x0 x13).f1) == ((rd_T47 x1 x13).f1)) || (!(((rd_T47 x0 x13).f2) == ((rd_T47 x1 x13).f2))))) = true then (some false) else (slices_Equal_3_int_3_int.l0 k x0 x1 x12 (wrap64 (x13 + 1)))) else (none)) else (none)) else (none)) else (some true)
def slices_Equal_3_int_3_int.f (k : Nat) (l0 : List (S47)) (l1 : List (S47)) : Option (Bool) := if (l0.length : Int) = (l1.length : Int) then (slices_Equal_3_int_3_int.l0 k l0 l1 (l0.length : Int) 0) else (some false)
set_option maxHeartbeats 8000000 in
set_option maxRecDepth 100000 in
theorem slices_Equal_3_int_3_int.calls (k : Nat) (A0 : Option Addr) (c0 : Nat) (l0 : List (S47)) (A1 : Option Addr) (c1 : Nat) (l1 : List (S47)) (r : Bool) (w : World) (hr0 : Kd.C k47 w A0 l0.length l0) (hc0 : l0.length ≤ c0) (hr1 : Kd.C k47 w A1 l1.length l1) (hc1 : l1.length ≤ c1) (h : slices_Equal_3_int_3_int.f k l0 l1 = some r) :
  Calls Tryd.prog 82 #[.slice A0 l0.length c0,.slice A1 l1.length c1] w fun e w' => e = .returned (.bool r) ∧ Drawn0 w w':=by
 have hu47:=Tryd.underlying47
 have HR0:=aMx14 hr0
 have HC0:=aMx14 hc0
 clear hr0 hc0
 have HR1:=aMx14 hr1
 have HC1:=aMx14 hc1
 clear hr1 hc1
 have H : (if (l0.length : Int) = (l1.length : Int) then (slices_Equal_3_int_3_int.l0 k l0 l1 (l0.length : Int) 0) else (some false)) = some r:=h
 clear h
 by_cases c3 : (l0.length : Int) = (l1.length : Int)
 ·rw [if_pos c3] at H
  have c3b0 : ((l0.length : Int) == (l1.length : Int)) = true:=beq_iff_eq.mpr c3
  have c3b1 : ((l0.length : Int) != (l1.length : Int)) = false:=bne_eq_false_iff_eq.mpr c3
  have c3b2 : (l0.length == l1.length) = true:=by first | simpa using c3 | (simp at c3 ⊢;omega)
  clear c3
  have H':=aMx14 H
  clear H
  go_enter Tryd.func82,Tryd.ntmps82
  go_wp2
  repeat (go_quiet (fail);try go_wp2)
  go_loopg [13] k (fun kq v13 w' => ∃ (x13_1 : Int),v13 = .int .i64 x13_1 ∧ Aside0 (slices_Equal_3_int_3_int.l0 kq l0 l1 (l0.length : Int) x13_1 = some r) ∧ Aside0 (kq ≤ k) ∧ Drawn0 w w')
  case atStart => exact ⟨(0),(by first | rfl | (simp;done) | (simp [*];done) | (simp [wrap64];done)),H',⟨Nat.le_refl _⟩,by repeat (first | exact Drawn0.refl _ | apply Drawn0.step)⟩
  case round =>
   clear H'
   (try clear c1);(try clear p2);(try clear c3);(try clear c3b0);(try clear c3b1);(try clear c3b2)
   obtain ⟨x13_1,rfl,HA,HK1,⟨m1,rfl⟩⟩:=hrel
   cases gk with
   | zero => exact absurd HA.out (by simp [slices_Equal_3_int_3_int.l0])
   | succ k1 =>
    have H:=HA.out
    clear HA
    simp only [slices_Equal_3_int_3_int.l0] at H
    by_cases c4 : x13_1 < (l0.length : Int)
    ·rw [if_pos c4] at H
     have c4b0 : decide (x13_1 < (l0.length : Int)) = true:=decide_eq_true c4
     clear c4
     by_cases c5 : 0 ≤ x13_1
     ·rw [if_pos c5] at H
      have c5b0 : decide (0 ≤ x13_1) = true:=decide_eq_true c5
      clear c5
      by_cases c6 : x13_1 < (l0.length : Int)
      ·rw [if_pos c6] at H
       have c6b0 : decide (x13_1 < (l0.length : Int)) = true:=decide_eq_true c6
       clear c6
       by_cases c7 : x13_1 < (l1.length : Int)
       ·rw [if_pos c7] at H
        have c7b0 : decide (x13_1 < (l1.length : Int)) = true:=decide_eq_true c7
        clear c7
        by_cases c8 : (!(((rd_T47 l0 x13_1).f0) == ((rd_T47 l1 x13_1).f0)) || (!(((rd_T47 l0 x13_1).f1) == ((rd_T47 l1 x13_1).f1)) || (!(((rd_T47 l0 x13_1).f2) == ((rd_T47 l1 x13_1).f2))))) = true
        ·rw [if_pos c8] at H
         have c8b0 : (!(((rd_T47 l0 x13_1).f0) == ((rd_T47 l1 x13_1).f0)) || (!(((rd_T47 l0 x13_1).f1) == ((rd_T47 l1 x13_1).f1)) || (!(((rd_T47 l0 x13_1).f2) == ((rd_T47 l1 x13_1).f2))))) = true:=c8
         clear c8
         obtain rfl:=Option.some.inj H
         have p467 : 0 ≤ (x13_1 : Int):=of_decide_eq_true (by first | (with_reducible assumption) | assumption)
         have q467 : x13_1 < (l0.length : Int):=of_decide_eq_true (by first | (with_reducible assumption) | assumption)
         obtain ⟨ad467,e467,hx467_0,hx467_1,hx467_2⟩:=at_T47 HR0.out x13_1 p467 q467
         cases e467
         replace p467:=eq_true p467
         replace q467:=eq_true q467
         have p468 : 0 ≤ (x13_1 : Int):=of_decide_eq_true (by first | (with_reducible assumption) | assumption)
         have q468 : x13_1 < (l1.length : Int):=of_decide_eq_true (by first | (with_reducible assumption) | assumption)
         obtain ⟨ad468,e468,hx468_0,hx468_1,hx468_2⟩:=at_T47 HR1.out x13_1 p468 q468
         cases e468
         replace p468:=eq_true p468
         replace q468:=eq_true q468
         go_wp2
         repeat (go_quiet (fail);try go_wp2)
         go_ret
         exact ⟨by first | rfl | (simp;done) | (simp [*];done) | (simp [wrap64];done),by repeat (first | exact Drawn0.refl _ | apply Drawn0.step)⟩
        ·rw [if_neg c8] at H
         have c8b0 : (!(((rd_T47 l0 x13_1).f0) == ((rd_T47 l1 x13_1).f0)) || (!(((rd_T47 l0 x13_1).f1) == ((rd_T47 l1 x13_1).f1)) || (!(((rd_T47 l0 x13_1).f2) == ((rd_T47 l1 x13_1).f2))))) = false:=by simpa using c8
         clear c8
         have H':=aMx14 H
         clear H
         have p467 : 0 ≤ (x13_1 : Int):=of_decide_eq_true (by first | (with_reducible assumption) | assumption)
         have q467 : x13_1 < (l0.length : Int):=of_decide_eq_true (by first | (with_reducible assumption) | assumption)
         obtain ⟨ad467,e467,hx467_0,hx467_1,hx467_2⟩:=at_T47 HR0.out x13_1 p467 q467
         cases e467
         replace p467:=eq_true p467
         replace q467:=eq_true q467
         have p468 : 0 ≤ (x13_1 : Int):=of_decide_eq_true (by first | (with_reducible assumption) | assumption)
         have q468 : x13_1 < (l1.length : Int):=of_decide_eq_true (by first | (with_reducible assumption) | assumption)
         obtain ⟨ad468,e468,hx468_0,hx468_1,hx468_2⟩:=at_T47 HR1.out x13_1 p468 q468
         cases e468
         replace p468:=eq_true p468
         replace q468:=eq_true q468
         go_wp2
         repeat (go_quiet (fail);try go_wp2)
         go_roundg k1
         case measure => have:=HK1.out;omega
         case rel => exact ⟨(wrap64 (x13_1+1)),(by first | rfl | (simp;done) | (simp [*];done) | (simp [wrap64];done)),H',⟨by have:=HK1.out;omega⟩,by repeat (first | exact Drawn0.refl _ | apply Drawn0.step)⟩
       ·rw [if_neg c7] at H
        exact absurd H (by simp)
      ·rw [if_neg c6] at H
       exact absurd H (by simp)
     ·rw [if_neg c5] at H
      exact absurd H (by simp)
    ·rw [if_neg c4] at H
     have c4b0 : decide (x13_1 < (l0.length : Int)) = false:=decide_eq_false c4
     clear c4
     obtain rfl:=Option.some.inj H
     go_wp2
     repeat (go_quiet (fail);try go_wp2)
     go_ret
     exact ⟨by first | rfl | (simp;done) | (simp [*];done) | (simp [wrap64];done),by repeat (first | exact Drawn0.refl _ | apply Drawn0.step)⟩
 ·rw [if_neg c3] at H
  have c3b0 : ((l0.length : Int) == (l1.length : Int)) = false:=beq_eq_false_iff_ne.mpr c3
  have c3b1 : ((l0.length : Int) != (l1.length : Int)) = true:=bne_iff_ne.mpr c3
  have c3b2 : (l0.length == l1.length) = false:=by first | simpa using c3 | (simp at c3 ⊢;omega)
  obtain rfl:=Option.some.inj H
  go_enter Tryd.func82,Tryd.ntmps82
  go_wp2
  repeat (go_quiet (fail);try go_wp2)
  go_ret
  exact ⟨by first | rfl | (simp;done) | (simp [*];done) | (simp [wrap64];done),by repeat (first | exact Drawn0.refl _ | apply Drawn0.step)⟩
def mesh_Same.f (k : Nat) (l0_0 : List (S46)) (l0_1 : List (S47)) (l1_0 : List (S46)) (l1_1 : List (S47)) : Option (Bool) := (api_Point_81.f k l0_0 l1_0).bind fun t471 => (if t471 = true then ((slices_Equal_3_int_3_int.f k l0_1 l1_1).bind fun t472 => (some t472)) else (some false))
set_option maxHeartbeats 8000000 in
set_option maxRecDepth 100000 in
theorem mesh_Same.calls (k : Nat) (A0_0 : Option Addr) (c0_0 : Nat) (l0_0 : List (S46)) (A0_1 : Option Addr) (c0_1 : Nat) (l0_1 : List (S47)) (A1_0 : Option Addr) (c1_0 : Nat) (l1_0 : List (S46)) (A1_1 : Option Addr) (c1_1 : Nat) (l1_1 : List (S47)) (r : Bool) (w : World) (hr0_0 : Kd.C k46 w A0_0 l0_0.length l0_0) (hc0_0 : l0_0.length ≤ c0_0) (hr0_1 : Kd.C k47 w A0_1 l0_1.length l0_1) (hc0_1 : l0_1.length ≤ c0_1) (hr1_0 : Kd.C k46 w A1_0 l1_0.length l1_0) (hc1_0 : l1_0.length ≤ c1_0) (hr1_1 : Kd.C k47 w A1_1 l1_1.length l1_1) (hc1_1 : l1_1.length ≤ c1_1) (h : mesh_Same.f k l0_0 l0_1 l1_0 l1_1 = some r) :
  Calls Tryd.prog 64 #[.agg #[.slice A0_0 l0_0.length c0_0,.slice A0_1 l0_1.length c0_1],.agg #[.slice A1_0 l1_0.length c1_0,.slice A1_1 l1_1.length c1_1]] w fun e w' => e = .returned (.bool r) ∧ Below w.heap.size w w':=by
 have hu25:=Tryd.underlying25
 have HR0_0:=aMx14 hr0_0
 have HC0_0:=aMx14 hc0_0
 clear hr0_0 hc0_0
 have HR0_1:=aMx14 hr0_1
 have HC0_1:=aMx14 hc0_1
 clear hr0_1 hc0_1
 have HR1_0:=aMx14 hr1_0
 have HC1_0:=aMx14 hc1_0
 clear hr1_0 hc1_0
 have HR1_1:=aMx14 hr1_1
 have HC1_1:=aMx14 hc1_1
 clear hr1_1 hc1_1
 have HB:=aMx14 (Below.refl w.heap.size w)
 have H : ((api_Point_81.f k l0_0 l1_0).bind fun t471 => (if t471 = true then ((slices_Equal_3_int_3_int.f k l0_1 l1_1).bind fun t472 => (some t472)) else (some false))) = some r:=h
 clear h
 replace H:=Option.bind_eq_some_iff.mp H
 obtain ⟨t471,A30,H⟩:=H
 replace H : (if t471 = true then ((slices_Equal_3_int_3_int.f k l0_1 l1_1).bind fun t472 => (some t472)) else (some false)) = some r:=H
 have A3:=aMx14 A30
 clear A30
 by_cases c4 : t471 = true
 ·subst c4
  have H1 : ((slices_Equal_3_int_3_int.f k l0_1 l1_1).bind fun t472 => (some t472)) = some r:=by rw [if_pos rfl] at H;exact H
  clear H
  have H:=H1
  clear H1
  replace H:=Option.bind_eq_some_iff.mp H
  obtain ⟨t472,A50,H⟩:=H
  replace H : (some t472) = some r:=H
  have A5:=aMx14 A50
  clear A50
  obtain rfl:=Option.some.inj H
  go_enter Tryd.func64,Tryd.ntmps64
  go_wp2_with (first|((with_reducible refine gate_dst (N:=2) rfl ?_);refine box_event ?hg (N:=2) ?hd (cs:=#[.slice A0_0 l0_0.length c0_0,.slice A0_1 l0_1.length c0_1]) (t:=25) ?hr ?_;(case hd => rfl);(case hg => rfl);(case hr => first|(go_simp;done)|(go_simp;rfl));intro gb469 hg w6 hbox hb;have n0_:=aMx14 (below_step (by repeat (with_reducible first|exact HB.out|apply below_alloc|apply pw_below_drewN|apply below_drew1)) hb);have n1_:=aMx14 (hbox);have n2_:=aMx14 ((by rw [hg];exact (below_size (by repeat (with_reducible first|exact HB.out|apply below_alloc|apply pw_below_drewN|apply below_drew1))) : w.heap.size ≤ gb469));have n3_:=aMx14 ((by rw [hg];exact (below_size (by repeat (with_reducible first|exact HB.out|apply below_alloc|apply pw_below_drewN|apply below_drew1))) : w.heap.size ≤ gb469));clear HB;have HB:=n0_;have BK469:=n1_;have GW469:=n2_;have GE469:=n3_;clear n0_ n1_ n2_ n3_;clear hb hbox hg)|((with_reducible refine gate_dst (N:=3) rfl ?_);refine box_event ?hg (N:=3) ?hd (cs:=#[.slice A1_0 l1_0.length c1_0,.slice A1_1 l1_1.length c1_1]) (t:=25) ?hr ?_;(case hd => rfl);(case hg => rfl);(case hr => first|(go_simp;done)|(go_simp;rfl));intro gb470 hg w7 hbox hb;have n0_:=aMx14 (blk_below (g:=gb469) (o:=.cells #[.slice A0_0 l0_0.length c0_0,.slice A0_1 l0_1.length c0_1] 25 (0,0)) (by (with_reducible repeat (first|refine blk_drewN ?_ _|refine blk_drew ?_|refine blk_alloc ?_ _));exact BK469.out) hb);have n1_:=aMx14 (below_step (by repeat (first|(with_reducible first|exact HB.out|apply below_alloc|apply pw_below_drewN|apply below_drew1|refine below_set ?_ GE469.out)|exact HB.out)) hb);have n2_:=aMx14 (hbox);have n3_:=aMx14 ((by rw [hg];exact (below_size (by repeat (first|(with_reducible first|exact HB.out|apply below_alloc|apply pw_below_drewN|apply below_drew1|refine below_set ?_ GE469.out)|exact HB.out))) : w.heap.size ≤ gb470));have n4_:=aMx14 ((by rw [hg];exact (below_size (by repeat (first|(with_reducible first|exact HB.out|apply below_alloc|apply pw_below_drewN|apply below_drew1|refine below_set ?_ GE469.out)|exact HB.out))) : w.heap.size ≤ gb470));have n5_:=aMx14 ((by rw [hg];exact Nat.ne_of_lt (blk_lt (g:=gb469) (o:=.cells #[.slice A0_0 l0_0.length c0_0,.slice A0_1 l0_1.length c0_1] 25 (0,0)) (by (with_reducible repeat (first|refine blk_drewN ?_ _|refine blk_drew ?_|refine blk_alloc ?_ _));exact BK469.out)) : gb469 ≠ gb470));have n6_:=aMx14 ((by rw [hg];exact Nat.ne_of_gt (blk_lt (g:=gb469) (o:=.cells #[.slice A0_0 l0_0.length c0_0,.slice A0_1 l0_1.length c0_1] 25 (0,0)) (by (with_reducible repeat (first|refine blk_drewN ?_ _|refine blk_drew ?_|refine blk_alloc ?_ _));exact BK469.out)) : gb470 ≠ gb469));clear BK469;clear HB;have BK469:=n0_;have HB:=n1_;have BK470:=n2_;have GW470:=n3_;have GE470:=n4_;have NB469_470:=n5_;have NB470_469:=n6_;clear n0_ n1_ n2_ n3_ n4_ n5_ n6_;clear hb hbox hg;have hnb8:=NB469_470.out;have hnc8:=NB470_469.out;have hcz9_0 : w7.cell? ⟨gb469,0,none⟩ = some (.slice A0_0 l0_0.length c0_0):=(blk_cell BK469.out 0).trans rfl;have hcz9_1 : w7.cell? ⟨gb469,1,none⟩ = some (.slice A0_1 l0_1.length c0_1):=(blk_cell BK469.out 1).trans rfl;have hfz9_0:=blk_frozen BK469.out 0;have hfz9_1:=blk_frozen BK469.out 1;have hcz10_0 : w7.cell? ⟨gb470,0,none⟩ = some (.slice A1_0 l1_0.length c1_0):=(blk_cell BK470.out 0).trans rfl;have hcz10_1 : w7.cell? ⟨gb470,1,none⟩ = some (.slice A1_1 l1_1.length c1_1):=(blk_cell BK470.out 1).trans rfl;have hfz10_0:=blk_frozen BK470.out 0;have hfz10_1:=blk_frozen BK470.out 1)|((with_reducible refine gate_callee (f:=81) rfl ?_);refine goesL_ (some 9) rfl rfl Tryd.func81 (by kernel_rfl) rfl #[.slice A0_0 l0_0.length c0_0,.slice A1_0 l1_0.length c1_0] rfl (by (try simp only [List.map_toArray,List.map_cons,List.map_nil]);first|done|rfl|(simp only [List.length_drop,List.length_take];rfl)) ?_;(with_reducible refine (api_Point_81.calls k _ _ l0_0 _ _ l1_0 true _ ?side1 ?side2 ?side3 ?side4 A3.out).mono ?_);(case side1 => repeat (first|exact (Kd.C_below HR0_0.out HB.out)|(with_reducible first|refine Kd.C_alloc ?_ _|refine Kd.C_drewN ?_ _|refine Kd.C_drew ?_)));(case side2 => exact HC0_0.out);(case side3 => repeat (first|exact (Kd.C_below HR1_0.out HB.out)|(with_reducible first|refine Kd.C_alloc ?_ _|refine Kd.C_drewN ?_ _|refine Kd.C_drew ?_)));(case side4 => exact HC1_0.out);rintro e w' ⟨rfl,⟨nd,rfl⟩⟩;refine ⟨_,rfl,?_⟩)|(go_at_call 82;(with_reducible refine (slices_Equal_3_int_3_int.calls k _ _ l0_1 _ _ l1_1 t472 _ ?side1 ?side2 ?side3 ?side4 A5.out).mono ?_);(case side1 => repeat (first|exact (Kd.C_below HR0_1.out (by repeat (first|(with_reducible first|exact HB.out|apply below_alloc|apply pw_below_drewN|apply below_drew1|refine below_set ?_ GE469.out|refine below_set ?_ GE470.out)|exact HB.out)))|(with_reducible first|refine Kd.C_alloc ?_ _|refine Kd.C_drewN ?_ _|refine Kd.C_drew ?_)));(case side2 => exact HC0_1.out);(case side3 => repeat (first|exact (Kd.C_below HR1_1.out (by repeat (first|(with_reducible first|exact HB.out|apply below_alloc|apply pw_below_drewN|apply below_drew1|refine below_set ?_ GE469.out|refine below_set ?_ GE470.out)|exact HB.out)))|(with_reducible first|refine Kd.C_alloc ?_ _|refine Kd.C_drewN ?_ _|refine Kd.C_drew ?_)));(case side4 => exact HC1_1.out);rintro e w' ⟨rfl,⟨nd,rfl⟩⟩))
  go_ret
  exact ⟨by first | rfl | (simp [errW_none,errW_some]<;>rfl) | (simp [*,errW_none,errW_some]<;>rfl),by repeat (first | (with_reducible first | exact HB.out | apply below_alloc | apply pw_below_drewN | apply below_drew1 | refine below_set ?_ GE469.out | refine below_set ?_ GE470.out) | exact HB.out)⟩
 ·replace c4:=Bool.eq_false_iff.mpr c4
  subst c4
  have H1 : (some false) = some r:=by rw [if_neg (show ¬ (false = true) by decide)] at H;exact H
  clear H
  have H:=H1
  clear H1
  obtain rfl:=Option.some.inj H
  go_enter Tryd.func64,Tryd.ntmps64
  go_wp2_with (first|((with_reducible refine gate_dst (N:=2) rfl ?_);refine box_event ?hg (N:=2) ?hd (cs:=#[.slice A0_0 l0_0.length c0_0,.slice A0_1 l0_1.length c0_1]) (t:=25) ?hr ?_;(case hd => rfl);(case hg => rfl);(case hr => first|(go_simp;done)|(go_simp;rfl));intro gb469 hg w11 hbox hb;have n0_:=aMx14 (below_step (by repeat (with_reducible first|exact HB.out|apply below_alloc|apply pw_below_drewN|apply below_drew1)) hb);have n1_:=aMx14 (hbox);have n2_:=aMx14 ((by rw [hg];exact (below_size (by repeat (with_reducible first|exact HB.out|apply below_alloc|apply pw_below_drewN|apply below_drew1))) : w.heap.size ≤ gb469));have n3_:=aMx14 ((by rw [hg];exact (below_size (by repeat (with_reducible first|exact HB.out|apply below_alloc|apply pw_below_drewN|apply below_drew1))) : w.heap.size ≤ gb469));clear HB;have HB:=n0_;have BK469:=n1_;have GW469:=n2_;have GE469:=n3_;clear n0_ n1_ n2_ n3_;clear hb hbox hg)|((with_reducible refine gate_dst (N:=3) rfl ?_);refine box_event ?hg (N:=3) ?hd (cs:=#[.slice A1_0 l1_0.length c1_0,.slice A1_1 l1_1.length c1_1]) (t:=25) ?hr ?_;(case hd => rfl);(case hg => rfl);(case hr => first|(go_simp;done)|(go_simp;rfl));intro gb470 hg w12 hbox hb;have n0_:=aMx14 (blk_below (g:=gb469) (o:=.cells #[.slice A0_0 l0_0.length c0_0,.slice A0_1 l0_1.length c0_1] 25 (0,0)) (by (with_reducible repeat (first|refine blk_drewN ?_ _|refine blk_drew ?_|refine blk_alloc ?_ _));exact BK469.out) hb);have n1_:=aMx14 (below_step (by repeat (first|(with_reducible first|exact HB.out|apply below_alloc|apply pw_below_drewN|apply below_drew1|refine below_set ?_ GE469.out)|exact HB.out)) hb);have n2_:=aMx14 (hbox);have n3_:=aMx14 ((by rw [hg];exact (below_size (by repeat (first|(with_reducible first|exact HB.out|apply below_alloc|apply pw_below_drewN|apply below_drew1|refine below_set ?_ GE469.out)|exact HB.out))) : w.heap.size ≤ gb470));have n4_:=aMx14 ((by rw [hg];exact (below_size (by repeat (first|(with_reducible first|exact HB.out|apply below_alloc|apply pw_below_drewN|apply below_drew1|refine below_set ?_ GE469.out)|exact HB.out))) : w.heap.size ≤ gb470));have n5_:=aMx14 ((by rw [hg];exact Nat.ne_of_lt (blk_lt (g:=gb469) (o:=.cells #[.slice A0_0 l0_0.length c0_0,.slice A0_1 l0_1.length c0_1] 25 (0,0)) (by (with_reducible repeat (first|refine blk_drewN ?_ _|refine blk_drew ?_|refine blk_alloc ?_ _));exact BK469.out)) : gb469 ≠ gb470));have n6_:=aMx14 ((by rw [hg];exact Nat.ne_of_gt (blk_lt (g:=gb469) (o:=.cells #[.slice A0_0 l0_0.length c0_0,.slice A0_1 l0_1.length c0_1] 25 (0,0)) (by (with_reducible repeat (first|refine blk_drewN ?_ _|refine blk_drew ?_|refine blk_alloc ?_ _));exact BK469.out)) : gb470 ≠ gb469));clear BK469;clear HB;have BK469:=n0_;have HB:=n1_;have BK470:=n2_;have GW470:=n3_;have GE470:=n4_;have NB469_470:=n5_;have NB470_469:=n6_;clear n0_ n1_ n2_ n3_ n4_ n5_ n6_;clear hb hbox hg;have hnb13:=NB469_470.out;have hnc13:=NB470_469.out;have hcz14_0 : w12.cell? ⟨gb469,0,none⟩ = some (.slice A0_0 l0_0.length c0_0):=(blk_cell BK469.out 0).trans rfl;have hcz14_1 : w12.cell? ⟨gb469,1,none⟩ = some (.slice A0_1 l0_1.length c0_1):=(blk_cell BK469.out 1).trans rfl;have hfz14_0:=blk_frozen BK469.out 0;have hfz14_1:=blk_frozen BK469.out 1;have hcz15_0 : w12.cell? ⟨gb470,0,none⟩ = some (.slice A1_0 l1_0.length c1_0):=(blk_cell BK470.out 0).trans rfl;have hcz15_1 : w12.cell? ⟨gb470,1,none⟩ = some (.slice A1_1 l1_1.length c1_1):=(blk_cell BK470.out 1).trans rfl;have hfz15_0:=blk_frozen BK470.out 0;have hfz15_1:=blk_frozen BK470.out 1)|((with_reducible refine gate_callee (f:=81) rfl ?_);refine goesL_ (some 9) rfl rfl Tryd.func81 (by kernel_rfl) rfl #[.slice A0_0 l0_0.length c0_0,.slice A1_0 l1_0.length c1_0] rfl (by (try simp only [List.map_toArray,List.map_cons,List.map_nil]);first|done|rfl|(simp only [List.length_drop,List.length_take];rfl)) ?_;(with_reducible refine (api_Point_81.calls k _ _ l0_0 _ _ l1_0 false _ ?side1 ?side2 ?side3 ?side4 A3.out).mono ?_);(case side1 => repeat (first|exact (Kd.C_below HR0_0.out HB.out)|(with_reducible first|refine Kd.C_alloc ?_ _|refine Kd.C_drewN ?_ _|refine Kd.C_drew ?_)));(case side2 => exact HC0_0.out);(case side3 => repeat (first|exact (Kd.C_below HR1_0.out HB.out)|(with_reducible first|refine Kd.C_alloc ?_ _|refine Kd.C_drewN ?_ _|refine Kd.C_drew ?_)));(case side4 => exact HC1_0.out);rintro e w' ⟨rfl,⟨nd,rfl⟩⟩;refine ⟨_,rfl,?_⟩))
  go_ret
  exact ⟨by first | rfl | (simp [errW_none,errW_some]<;>rfl) | (simp [*,errW_none,errW_some]<;>rfl),by repeat (first | (with_reducible first | exact HB.out | apply below_alloc | apply pw_below_drewN | apply below_drew1 | refine below_set ?_ GE469.out | refine below_set ?_ GE470.out) | exact HB.out)⟩
end Go.Proofs.YtomknjmgcbbjlaaDoor.PWlk
