-- Written for this claim by a program of this session.
import Derived.Test.YtgphhcakkoaipaaPVintx0
import Derived.Test.YtgphhcakkoaipaaPVintx1
import Derived.Test.YtgphhcakkoaipaaPVintx2
namespace Go.Proofs.Ytgphhcakkoaipaa.PVint
open Go.RowKit Go.Proofs.YtgphhcakkoaipaaW.PrintWords Go.Proofs.YtgphhcakkoaipaaW.PrintLast Go.Proofs.YtgphhcakkoaipaaW.PrintMore
attribute [local go_sem] max2_int min2_int max_two min_two max_three min_three max_four min_four   -- for this text's walks alone
set_option linter.unusedVariables false
set_option linter.unusedSimpArgs false

theorem sA {α : Type _} {l : List α} {i : Nat} {a : α} : l.toArray.setIfInBounds i a = (l.set i a).toArray := List.setIfInBounds_toArray ..
theorem sB {α : Type _} {x y : α} {l : List α} : (x :: l).set 0 y = y :: l := rfl
theorem sC {α : Type _} {x y : α} {l : List α} {i : Nat} : (x :: l).set (i + 1) y = x :: l.set i y := rfl
theorem aM {p : Prop} (h : p) : Aside0 p := ⟨h⟩
/-! ### lapidarylaw01_VintOnce: function 6 -/
def lapidarylaw01_VintOnce.j0 : Nat → Int → List Int → List Int → Int → Bool → Option (Bool)
  | 0, _, _, _, _, _ => none
  | k + 1, x0, x1, x2, x3, x27 => if x27 = true then ((lapidarylaw01_known.f k).bind fun t180 => (some t180)) else ((vint_Put.f k (([x0] : List Int))).bind fun t184 => (if (t184.length : Int) = 0 then (some false) else (if ([] : List Int).length + x1.length < 140737488355328 then ((some (([] : List Int) ++ x1 : List Int)).bind fun y187 => (if y187.length + t184.length < 140737488355328 then ((some (y187 ++ t184 : List Int)).bind fun y190 => (if y190.length + x2.length < 140737488355328 then ((vint_Get.f k (y190 ++ x2) (x1.length : Int)).bind fun bt196 => (if 0 ≤ (Int.tmod (wrap64 (x3)) (t184.length : Int)) then (if (Int.tmod (wrap64 (x3)) (t184.length : Int)) ≤ (t184.length : Int) then ((vint_Get.f k (t184.take ((Int.tmod (wrap64 (x3)) (t184.length : Int)) : Int).toNat) 0).bind fun bt203 => ((vint_Get.f k x2 0).bind fun bt206 => (if bt206.2.2 = 0 then ((vint_Put.f k (([bt206.1] : List Int))).bind fun t212 => (if 0 ≤ bt206.2.1 then (if bt206.2.1 ≤ (x2.length : Int) then ((lapidaryref00_Same.f t212 (x2.take (bt206.2.1 : Int).toNat)).bind fun t216 => (if t216 = true then (if bt196.1 = x0 then (if bt196.2.1 = (wrap64 ((x1.length : Int) + (t184.length : Int))) then (if bt196.2.2 = 0 then (if bt203.2.2 = 10 then ((lapidarylaw01_known.f k).bind fun t217 => (some t217)) else (some false)) else (some false)) else (some false)) else (some false)) else (some false))) else (none)) else (none))) else (if bt196.1 = x0 then (if bt196.2.1 = (wrap64 ((x1.length : Int) + (t184.length : Int))) then (if bt196.2.2 = 0 then (if bt203.2.2 = 10 then ((lapidarylaw01_known.f k).bind fun t218 => (some t218)) else (some false)) else (some false)) else (some false)) else (some false))))) else (none)) else (none))) else (none))) else (none))) else (none))))
def lapidarylaw01_VintOnce.f (k : Nat) (a0 : Int) (l1 : List Int) (l2 : List Int) (a3 : Int) : Option (Bool) := if (l1.length : Int) > 400 then (lapidarylaw01_VintOnce.j0 k a0 l1 l2 a3 true) else (lapidarylaw01_VintOnce.j0 k a0 l1 l2 a3 (decide ((l2.length : Int) > 400)))
theorem lapidarylaw01_VintOnce.mono_l : ∀ k, (∀ y0 y1 y2 y3 y4, LeO (lapidarylaw01_VintOnce.j0 k y0 y1 y2 y3 y4) (lapidarylaw01_VintOnce.j0 (k + 1) y0 y1 y2 y3 y4))
  | 0 => fun _ _ _ _ _ r h => by simp [lapidarylaw01_VintOnce.j0] at h
  | k + 1 => by
    have ih0 := lapidarylaw01_VintOnce.mono_l k
    · intro y0 y1 y2 y3 y4
      unfold lapidarylaw01_VintOnce.j0
      repeat' first
      | (with_reducible exact ih0 _ _ _ _ _)
      | (with_reducible exact lapidarylaw01_known.mono _)
      | (with_reducible exact vint_Get.mono _ _ _)
      | (with_reducible exact vint_Put.mono _ _)
      | (with_reducible exact LeO.refl _)
      | (with_reducible exact LeO.none _)
      | (with_reducible refine LeO.ite ?_ ?_)
      | (with_reducible refine LeO.bind ?_ (fun _ => ?_))
      | exact ih0 _ _ _ _ _
      | exact lapidarylaw01_known.mono _
      | exact vint_Get.mono _ _ _
      | exact vint_Put.mono _ _
      | exact LeO.none _
      | refine LeO.ite ?_ ?_
      | refine LeO.bind ?_ (fun _ => ?_)
theorem lapidarylaw01_VintOnce.mono : ∀ a0 a1 a2 a3 k, LeO (lapidarylaw01_VintOnce.f k a0 a1 a2 a3) (lapidarylaw01_VintOnce.f (k + 1) a0 a1 a2 a3) := by
  intro a0 a1 a2 a3 k
  have ih0 := lapidarylaw01_VintOnce.mono_l k
  unfold lapidarylaw01_VintOnce.f
  repeat' first
      | (with_reducible exact ih0 _ _ _ _ _)
      | (with_reducible exact lapidarylaw01_known.mono _)
      | (with_reducible exact vint_Get.mono _ _ _)
      | (with_reducible exact vint_Put.mono _ _)
      | (with_reducible exact LeO.refl _)
      | (with_reducible exact LeO.none _)
      | (with_reducible refine LeO.ite ?_ ?_)
      | (with_reducible refine LeO.bind ?_ (fun _ => ?_))
      | exact ih0 _ _ _ _ _
      | exact lapidarylaw01_known.mono _
      | exact vint_Get.mono _ _ _
      | exact vint_Put.mono _ _
      | exact LeO.none _
      | refine LeO.ite ?_ ?_
      | refine LeO.bind ?_ (fun _ => ?_)
def lapidarylaw01_VintOnce.T13 : Bool × List (List Nat × List Nat) := (true, [([], []), ([0], [0]), ([1], [1]), ([2], [2]), ([3, 2], [2, 3]), ([4, 2, 2], [2, 4]), ([2], [2]), ([2], [2]), ([6, 7, 2], [2, 6, 7]), ([5, 8, 5, 2], [2, 5, 8]), ([9, 2], [2, 9]), ([2, 10], [2, 10])])
def lapidarylaw01_VintOnce.B13 : List Nat := [0, 1, 3, 7, 15, 31, 7, 7, 199, 511, 1023, 2047]
theorem lapidarylaw01_VintOnce.tab13 : rtab .any (opsOf Try.f6 13) = lapidarylaw01_VintOnce.T13 := by kernel_rfl
theorem lapidarylaw01_VintOnce.bits13 : waitsOk lapidarylaw01_VintOnce.T13.2 lapidarylaw01_VintOnce.B13 = true := by kernel_rfl
set_option maxHeartbeats 8000000 in
set_option maxRecDepth 100000 in
theorem lapidarylaw01_VintOnce.calls (k : Nat) (a0 : Int) (A1 : Option Addr) (c1 : Nat) (l1 : List Int) (A2 : Option Addr) (c2 : Nat) (l2 : List Int) (a3 : Int) (r : Bool) (w : World) (hr1 : Kd.C (Kd.int .u8) w A1 l1.length l1) (hc1 : l1.length ≤ c1) (hr2 : Kd.C (Kd.int .u8) w A2 l2.length l2) (hc2 : l2.length ≤ c2) (h : lapidarylaw01_VintOnce.f k a0 l1 l2 a3 = some r) :
  Calls Try.prog 6 #[.int .u64 a0,.slice A1 l1.length c1,.slice A2 l2.length c2,.int .u8 a3] w fun e w' => e = .returned (.bool r) ∧ Below w.heap.size w w':=by
 have HR1:=aM hr1
 have HC1:=aM hc1
 clear hr1 hc1
 have HR2:=aM hr2
 have HC2:=aM hc2
 clear hr2 hc2
 have HB:=aM (Below.refl w.heap.size w)
 have H : (if (l1.length : Int) > 400 then (lapidarylaw01_VintOnce.j0 k a0 l1 l2 a3 true) else (lapidarylaw01_VintOnce.j0 k a0 l1 l2 a3 (decide ((l2.length : Int) > 400)))) = some r:=h
 clear h
 have HC5:=aM H
 clear H
 go_enter Try.func6,Try.ntmps6
 go_upto_region 1 with (fail)
 go_cut [27] (fun v27 wc => ∃ (kq : Nat) (x27_4 : Bool),v27 = .bool x27_4 ∧ Aside0 (lapidarylaw01_VintOnce.j0 kq a0 l1 l2 a3 x27_4 = some r) ∧ Aside0 (kq ≤ k) ∧ Aside0 (Below w.heap.size w wc))
 case first =>
  have H:=HC5.out
  clear HC5
  by_cases c6 : (l1.length : Int) > 400
  ·rw [if_pos c6] at H
   have c6b0 : decide (400 < (l1.length : Int)) = true:=decide_eq_true c6
   have c6b1 : decide (400 < l1.length) = true:=decide_eq_true (by omega)
   clear c6
   (first | rw [c6b0] | (simp only [i64_w,i32_w];rw [c6b0]) | skip)
   have H':=aM H
   clear H
   go_wp2
   go_meet
   case rel => exact ⟨_,(true),(by first | rfl | (simp;done) | (simp [*];done)),H',⟨by first | omega | exact Nat.le_refl _⟩,⟨by repeat (first | (with_reducible first | exact HB.out | apply below_alloc | apply pw_below_drewN | apply below_drew1) | exact HB.out)⟩⟩
  ·rw [if_neg c6] at H
   have c6b0 : decide (400 < (l1.length : Int)) = false:=decide_eq_false c6
   have c6b1 : decide (400 < l1.length) = false:=decide_eq_false (by omega)
   clear c6
   (first | rw [c6b0] | (simp only [i64_w,i32_w];rw [c6b0]) | skip)
   have H':=aM H
   clear H
   go_wp2
   go_meet
   case rel => exact ⟨_,(decide ((l2.length : Int) > 400)),(by first | rfl | (simp;done) | (simp [*];done)),H',⟨by first | omega | exact Nat.le_refl _⟩,⟨by repeat (first | (with_reducible first | exact HB.out | apply below_alloc | apply pw_below_drewN | apply below_drew1) | exact HB.out)⟩⟩
 case rest =>
  clear HC5
  try clear c1
  try clear c2
  try clear p2
  try clear c6
  try clear c6b0
  try clear c6b1
  obtain ⟨kq,x27_4,rfl,HA,HJ4,HB⟩:=hcut
  cases kq with
  | zero => exact absurd HA.out (by simp [lapidarylaw01_VintOnce.j0])
  | succ kj4 =>
   have H:=HA.out
   clear HA
   simp only [lapidarylaw01_VintOnce.j0] at H
   by_cases c7 : x27_4 = true
   ·subst c7
    have H1 : ((lapidarylaw01_known.f kj4).bind fun t180 => (some t180)) = some r:=by rw [if_pos rfl] at H;exact H
    clear H
    have H:=H1
    clear H1
    replace H:=Option.bind_eq_some_iff.mp H
    obtain ⟨t180,A80,H⟩:=H
    replace H : (some t180) = some r:=H
    have A8:=aM A80
    clear A80
    obtain rfl:=Option.some.inj H
    go_wp2_with (first|((with_reducible refine gate_callee (f:=12) rfl ?_);refine goesL_ (some 28) rfl rfl Try.func12 (by kernel_rfl) rfl #[] rfl (by (try simp only [List.map_toArray,List.map_cons,List.map_nil]);first|done|rfl|(simp only [List.length_drop,List.length_take];rfl)) ?_;(with_reducible refine (lapidarylaw01_known.calls kj4  t180 _ A8.out).mono ?_);rintro e w9 ⟨rfl,hb⟩;refine ⟨_,rfl,?_⟩;have n0_:=aM (below_step (by repeat (with_reducible first|exact HB.out|apply below_alloc|apply pw_below_drewN|apply below_drew1)) hb);clear HB;have HB:=n0_;clear n0_;(try clear hb);(try clear hb2);(try clear hk);(try clear hi)))
    go_ret
    exact ⟨by first | rfl | (simp [errW_none,errW_some]<;>rfl) | (simp [*,errW_none,errW_some]<;>rfl),by repeat (first | (with_reducible first | exact HB.out | apply below_alloc | apply pw_below_drewN | apply below_drew1) | exact HB.out)⟩
   ·replace c7:=Bool.eq_false_iff.mpr c7
    subst c7
    have H1 : ((vint_Put.f kj4 (([a0] : List Int))).bind fun t184 => (if (t184.length : Int) = 0 then (some false) else (if ([] : List Int).length+l1.length < 140737488355328 then ((some (([] : List Int)++l1 : List Int)).bind fun y187 => (if y187.length+t184.length < 140737488355328 then ((some (y187++t184 : List Int)).bind fun y190 => (if y190.length+l2.length < 140737488355328 then ((vint_Get.f kj4 (y190++l2) (l1.length : Int)).bind fun bt196 => (if 0 ≤ (Int.tmod (wrap64 (a3)) (t184.length : Int)) then (if (Int.tmod (wrap64 (a3)) (t184.length : Int)) ≤ (t184.length : Int) then ((vint_Get.f kj4 (t184.take ((Int.tmod (wrap64 (a3)) (t184.length : Int)) : Int).toNat) 0).bind fun bt203 => ((vint_Get.f kj4 l2 0).bind fun bt206 => (if bt206.2.2 = 0 then ((vint_Put.f kj4 (([bt206.1] : List Int))).bind fun t212 => (if 0 ≤ bt206.2.1 then (if bt206.2.1 ≤ (l2.length : Int) then ((lapidaryref00_Same.f t212 (l2.take (bt206.2.1 : Int).toNat)).bind fun t216 => (if t216 = true then (if bt196.1 = a0 then (if bt196.2.1 = (wrap64 ((l1.length : Int)+(t184.length : Int))) then (if bt196.2.2 = 0 then (if bt203.2.2 = 10 then ((lapidarylaw01_known.f kj4).bind fun t217 => (some t217)) else (some false)) else (some false)) else (some false)) else (some false)) else (some false))) else (none)) else (none))) else (if bt196.1 = a0 then (if bt196.2.1 = (wrap64 ((l1.length : Int)+(t184.length : Int))) then (if bt196.2.2 = 0 then (if bt203.2.2 = 10 then ((lapidarylaw01_known.f kj4).bind fun t218 => (some t218)) else (some false)) else (some false)) else (some false)) else (some false))))) else (none)) else (none))) else (none))) else (none))) else (none)))) = some r:=by rw [if_neg (show ¬ (false = true) by decide)] at H;exact H
    clear H
    have H:=H1
    clear H1
    obtain ⟨y181,hy181⟩ : ∃ y_ : List Int,y_ = (([a0] : List Int)):=⟨_,rfl⟩
    replace H : ((vint_Put.f kj4 y181).bind fun t184 => (if (t184.length : Int) = 0 then (some false) else (if ([] : List Int).length+l1.length < 140737488355328 then ((some (([] : List Int)++l1 : List Int)).bind fun y187 => (if y187.length+t184.length < 140737488355328 then ((some (y187++t184 : List Int)).bind fun y190 => (if y190.length+l2.length < 140737488355328 then ((vint_Get.f kj4 (y190++l2) (l1.length : Int)).bind fun bt196 => (if 0 ≤ (Int.tmod (wrap64 (a3)) (t184.length : Int)) then (if (Int.tmod (wrap64 (a3)) (t184.length : Int)) ≤ (t184.length : Int) then ((vint_Get.f kj4 (t184.take ((Int.tmod (wrap64 (a3)) (t184.length : Int)) : Int).toNat) 0).bind fun bt203 => ((vint_Get.f kj4 l2 0).bind fun bt206 => (if bt206.2.2 = 0 then ((vint_Put.f kj4 (([bt206.1] : List Int))).bind fun t212 => (if 0 ≤ bt206.2.1 then (if bt206.2.1 ≤ (l2.length : Int) then ((lapidaryref00_Same.f t212 (l2.take (bt206.2.1 : Int).toNat)).bind fun t216 => (if t216 = true then (if bt196.1 = a0 then (if bt196.2.1 = (wrap64 ((l1.length : Int)+(t184.length : Int))) then (if bt196.2.2 = 0 then (if bt203.2.2 = 10 then ((lapidarylaw01_known.f kj4).bind fun t217 => (some t217)) else (some false)) else (some false)) else (some false)) else (some false)) else (some false))) else (none)) else (none))) else (if bt196.1 = a0 then (if bt196.2.1 = (wrap64 ((l1.length : Int)+(t184.length : Int))) then (if bt196.2.2 = 0 then (if bt203.2.2 = 10 then ((lapidarylaw01_known.f kj4).bind fun t218 => (some t218)) else (some false)) else (some false)) else (some false)) else (some false))))) else (none)) else (none))) else (none))) else (none))) else (none)))) = some r:=by first | (rw [hy181];with_reducible exact H) | (have H2_:=(Option.bind_some _ _).symm.trans H;rw [hy181];with_reducible exact H2_) | (have H2_:=(Option.bind_some _ _).symm.trans H;with_reducible exact H2_) | with_reducible exact H | (rw [hy181];exact H) | exact H
    have Ny181:=aM hy181
    clear hy181
    replace H:=Option.bind_eq_some_iff.mp H
    obtain ⟨t184,A100,H⟩:=H
    replace H : (if (t184.length : Int) = 0 then (some false) else (if ([] : List Int).length+l1.length < 140737488355328 then ((some (([] : List Int)++l1 : List Int)).bind fun y187 => (if y187.length+t184.length < 140737488355328 then ((some (y187++t184 : List Int)).bind fun y190 => (if y190.length+l2.length < 140737488355328 then ((vint_Get.f kj4 (y190++l2) (l1.length : Int)).bind fun bt196 => (if 0 ≤ (Int.tmod (wrap64 (a3)) (t184.length : Int)) then (if (Int.tmod (wrap64 (a3)) (t184.length : Int)) ≤ (t184.length : Int) then ((vint_Get.f kj4 (t184.take ((Int.tmod (wrap64 (a3)) (t184.length : Int)) : Int).toNat) 0).bind fun bt203 => ((vint_Get.f kj4 l2 0).bind fun bt206 => (if bt206.2.2 = 0 then ((vint_Put.f kj4 (([bt206.1] : List Int))).bind fun t212 => (if 0 ≤ bt206.2.1 then (if bt206.2.1 ≤ (l2.length : Int) then ((lapidaryref00_Same.f t212 (l2.take (bt206.2.1 : Int).toNat)).bind fun t216 => (if t216 = true then (if bt196.1 = a0 then (if bt196.2.1 = (wrap64 ((l1.length : Int)+(t184.length : Int))) then (if bt196.2.2 = 0 then (if bt203.2.2 = 10 then ((lapidarylaw01_known.f kj4).bind fun t217 => (some t217)) else (some false)) else (some false)) else (some false)) else (some false)) else (some false))) else (none)) else (none))) else (if bt196.1 = a0 then (if bt196.2.1 = (wrap64 ((l1.length : Int)+(t184.length : Int))) then (if bt196.2.2 = 0 then (if bt203.2.2 = 10 then ((lapidarylaw01_known.f kj4).bind fun t218 => (some t218)) else (some false)) else (some false)) else (some false)) else (some false))))) else (none)) else (none))) else (none))) else (none))) else (none))) = some r:=H
    have A10:=aM A100
    clear A100
    by_cases c11 : (t184.length : Int) = 0
    ·rw [if_pos c11] at H
     have c11b0 : ((t184.length : Int) == 0) = true:=beq_iff_eq.mpr c11
     have c11b1 : ((t184.length : Int) != 0) = false:=bne_eq_false_iff_eq.mpr c11
     clear c11
     obtain rfl:=Option.some.inj H
     go_wp2_with (first|((with_reducible refine gate_dst (N:=30) rfl ?_);(try (refine gate_guard (by rfl) ?_;dsimp only));refine Kd.R_lit (Kd.int .u64) _ 26 ?hg (N:=30) ?hd (xs:=([a0] : List Int)) (inner:=[.int .u64 a0]) (ok:=fun _ => True) (okp:=fun _ => True) ?hr ?hp (fun _ hk => hk) trivial (Below.refl _ _) (Nat.le_refl _) (by simp) ?_;(case hd => rfl);(case hg => rfl);(case hr => first|(go_simp;done)|(go_simp;rfl));(case hp => exact (Reps.one (show Kd.M (Kd.int .u64) _ _ _ a0 [.int .u64 a0] from rfl) (Reps.none _ _)));intro v182 w12 ho13 hb hg_ hnew_;clear hg_ hnew_;(first|rw [← Ny181.out] at ho13|(simp only [Int.reduceToNat] at ho13;rw [← Ny181.out] at ho13));have n0_:=aM (Kd.R_lower ho13 (below_size (by repeat (with_reducible first|exact HB.out|apply below_alloc|apply pw_below_drewN|apply below_drew1))));have n1_:=aM (below_step (by repeat (with_reducible first|exact HB.out|apply below_alloc|apply pw_below_drewN|apply below_drew1)) hb);clear HB;have HO183:=n0_;have HB:=n1_;clear n0_ n1_;clear hb ho13;obtain ⟨Ao14,co14,eo14⟩:=Kd.R_slice HO183.out;subst eo14)|((with_reducible refine gate_callee (f:=15) rfl ?_);refine goesL_ (some 31) rfl rfl Try.func15 (by kernel_rfl) rfl #[.slice Ao14 y181.length co14] rfl (by (try simp only [List.map_toArray,List.map_cons,List.map_nil]);first|done|rfl|(simp only [List.length_drop,List.length_take];rfl)) ?_;(with_reducible refine (vint_Put.calls kj4 _ _ y181 t184 _ ?side1 ?side2 A10.out).mono ?_);(case side1 => repeat (first|exact (Kd.R_reads' HO183.out).2.2|(with_reducible first|refine Kd.C_alloc ?_ _|refine Kd.C_drewN ?_ _|refine Kd.C_drew ?_)));(case side2 => exact (Kd.R_reads' HO183.out).2.1);rintro e w15 ⟨v185,rfl,ho0,hb⟩;refine ⟨_,rfl,?_⟩;have n0_:=aM (Kd.R_below (by (with_reducible repeat (first|apply Kd.R_alloc|apply Kd.R_drewN|apply Kd.R_drew));exact HO183.out) hb);have n1_:=aM (Kd.R_lower ho0 (below_size (by repeat (with_reducible first|exact HB.out|apply below_alloc|apply pw_below_drewN|apply below_drew1))));have n2_:=aM (below_step (by repeat (with_reducible first|exact HB.out|apply below_alloc|apply pw_below_drewN|apply below_drew1)) hb);clear HO183;clear HB;have HO183:=n0_;have HO186:=n1_;have HB:=n2_;clear n0_ n1_ n2_;(try clear hb);(try clear hb2);(try clear hk);(try clear hi);(try clear ho0);obtain ⟨Ao16,co16,eo16⟩:=Kd.R_slice HO186.out;subst eo16))
     go_ret
     exact ⟨by first | rfl | (simp [errW_none,errW_some]<;>rfl) | (simp [*,errW_none,errW_some]<;>rfl),by repeat (first | (with_reducible first | exact HB.out | apply below_alloc | apply pw_below_drewN | apply below_drew1) | exact HB.out)⟩
    ·rw [if_neg c11] at H
     have c11b0 : ((t184.length : Int) == 0) = false:=beq_eq_false_iff_ne.mpr c11
     have c11b1 : ((t184.length : Int) != 0) = true:=bne_iff_ne.mpr c11
     have c11b2 : ¬ (t184 = []):=fun h_ => c11 (by rw [h_];rfl)
     by_cases c17 : ([] : List Int).length+l1.length < 140737488355328
     ·rw [if_pos c17] at H
      have LMc17:=aM c17
      clear c17
      obtain ⟨y187,hy187⟩ : ∃ y_ : List Int,y_ = (([] : List Int)++l1):=⟨_,rfl⟩
      replace H : (if y187.length+t184.length < 140737488355328 then ((some (y187++t184 : List Int)).bind fun y190 => (if y190.length+l2.length < 140737488355328 then ((vint_Get.f kj4 (y190++l2) (l1.length : Int)).bind fun bt196 => (if 0 ≤ (Int.tmod (wrap64 (a3)) (t184.length : Int)) then (if (Int.tmod (wrap64 (a3)) (t184.length : Int)) ≤ (t184.length : Int) then ((vint_Get.f kj4 (t184.take ((Int.tmod (wrap64 (a3)) (t184.length : Int)) : Int).toNat) 0).bind fun bt203 => ((vint_Get.f kj4 l2 0).bind fun bt206 => (if bt206.2.2 = 0 then ((vint_Put.f kj4 (([bt206.1] : List Int))).bind fun t212 => (if 0 ≤ bt206.2.1 then (if bt206.2.1 ≤ (l2.length : Int) then ((lapidaryref00_Same.f t212 (l2.take (bt206.2.1 : Int).toNat)).bind fun t216 => (if t216 = true then (if bt196.1 = a0 then (if bt196.2.1 = (wrap64 ((l1.length : Int)+(t184.length : Int))) then (if bt196.2.2 = 0 then (if bt203.2.2 = 10 then ((lapidarylaw01_known.f kj4).bind fun t217 => (some t217)) else (some false)) else (some false)) else (some false)) else (some false)) else (some false))) else (none)) else (none))) else (if bt196.1 = a0 then (if bt196.2.1 = (wrap64 ((l1.length : Int)+(t184.length : Int))) then (if bt196.2.2 = 0 then (if bt203.2.2 = 10 then ((lapidarylaw01_known.f kj4).bind fun t218 => (some t218)) else (some false)) else (some false)) else (some false)) else (some false))))) else (none)) else (none))) else (none))) else (none)) = some r:=by first | (rw [hy187];with_reducible exact H) | (have H2_:=(Option.bind_some _ _).symm.trans H;rw [hy187];with_reducible exact H2_) | (have H2_:=(Option.bind_some _ _).symm.trans H;with_reducible exact H2_) | with_reducible exact H | (rw [hy187];exact H) | exact H
      have Ny187:=aM hy187
      clear hy187
      by_cases c18 : y187.length+t184.length < 140737488355328
      ·rw [if_pos c18] at H
       have LMc18:=aM c18
       clear c18
       obtain ⟨y190,hy190⟩ : ∃ y_ : List Int,y_ = (y187++t184):=⟨_,rfl⟩
       replace H : (if y190.length+l2.length < 140737488355328 then ((vint_Get.f kj4 (y190++l2) (l1.length : Int)).bind fun bt196 => (if 0 ≤ (Int.tmod (wrap64 (a3)) (t184.length : Int)) then (if (Int.tmod (wrap64 (a3)) (t184.length : Int)) ≤ (t184.length : Int) then ((vint_Get.f kj4 (t184.take ((Int.tmod (wrap64 (a3)) (t184.length : Int)) : Int).toNat) 0).bind fun bt203 => ((vint_Get.f kj4 l2 0).bind fun bt206 => (if bt206.2.2 = 0 then ((vint_Put.f kj4 (([bt206.1] : List Int))).bind fun t212 => (if 0 ≤ bt206.2.1 then (if bt206.2.1 ≤ (l2.length : Int) then ((lapidaryref00_Same.f t212 (l2.take (bt206.2.1 : Int).toNat)).bind fun t216 => (if t216 = true then (if bt196.1 = a0 then (if bt196.2.1 = (wrap64 ((l1.length : Int)+(t184.length : Int))) then (if bt196.2.2 = 0 then (if bt203.2.2 = 10 then ((lapidarylaw01_known.f kj4).bind fun t217 => (some t217)) else (some false)) else (some false)) else (some false)) else (some false)) else (some false))) else (none)) else (none))) else (if bt196.1 = a0 then (if bt196.2.1 = (wrap64 ((l1.length : Int)+(t184.length : Int))) then (if bt196.2.2 = 0 then (if bt203.2.2 = 10 then ((lapidarylaw01_known.f kj4).bind fun t218 => (some t218)) else (some false)) else (some false)) else (some false)) else (some false))))) else (none)) else (none))) else (none)) = some r:=by first | (rw [hy190];with_reducible exact H) | (have H2_:=(Option.bind_some _ _).symm.trans H;rw [hy190];with_reducible exact H2_) | (have H2_:=(Option.bind_some _ _).symm.trans H;with_reducible exact H2_) | with_reducible exact H | (rw [hy190];exact H) | exact H
       have Ny190:=aM hy190
       clear hy190
       by_cases c19 : y190.length+l2.length < 140737488355328
       ·rw [if_pos c19] at H
        have LMc19:=aM c19
        clear c19
        obtain ⟨y193,hy193⟩ : ∃ y_ : List Int,y_ = (y190++l2):=⟨_,rfl⟩
        replace H : ((vint_Get.f kj4 y193 (l1.length : Int)).bind fun bt196 => (if 0 ≤ (Int.tmod (wrap64 (a3)) (t184.length : Int)) then (if (Int.tmod (wrap64 (a3)) (t184.length : Int)) ≤ (t184.length : Int) then ((vint_Get.f kj4 (t184.take ((Int.tmod (wrap64 (a3)) (t184.length : Int)) : Int).toNat) 0).bind fun bt203 => ((vint_Get.f kj4 l2 0).bind fun bt206 => (if bt206.2.2 = 0 then ((vint_Put.f kj4 (([bt206.1] : List Int))).bind fun t212 => (if 0 ≤ bt206.2.1 then (if bt206.2.1 ≤ (l2.length : Int) then ((lapidaryref00_Same.f t212 (l2.take (bt206.2.1 : Int).toNat)).bind fun t216 => (if t216 = true then (if bt196.1 = a0 then (if bt196.2.1 = (wrap64 ((l1.length : Int)+(t184.length : Int))) then (if bt196.2.2 = 0 then (if bt203.2.2 = 10 then ((lapidarylaw01_known.f kj4).bind fun t217 => (some t217)) else (some false)) else (some false)) else (some false)) else (some false)) else (some false))) else (none)) else (none))) else (if bt196.1 = a0 then (if bt196.2.1 = (wrap64 ((l1.length : Int)+(t184.length : Int))) then (if bt196.2.2 = 0 then (if bt203.2.2 = 10 then ((lapidarylaw01_known.f kj4).bind fun t218 => (some t218)) else (some false)) else (some false)) else (some false)) else (some false))))) else (none)) else (none))) = some r:=by first | (rw [hy193];with_reducible exact H) | (have H2_:=(Option.bind_some _ _).symm.trans H;rw [hy193];with_reducible exact H2_) | (have H2_:=(Option.bind_some _ _).symm.trans H;with_reducible exact H2_) | with_reducible exact H | (rw [hy193];exact H) | exact H
        have Ny193:=aM hy193
        clear hy193
        replace H:=Option.bind_eq_some_iff.mp H
        obtain ⟨⟨t196,t197,t198⟩,A200,H⟩:=H
        replace H : (if 0 ≤ (Int.tmod (wrap64 (a3)) (t184.length : Int)) then (if (Int.tmod (wrap64 (a3)) (t184.length : Int)) ≤ (t184.length : Int) then ((vint_Get.f kj4 (t184.take ((Int.tmod (wrap64 (a3)) (t184.length : Int)) : Int).toNat) 0).bind fun bt203 => ((vint_Get.f kj4 l2 0).bind fun bt206 => (if bt206.2.2 = 0 then ((vint_Put.f kj4 (([bt206.1] : List Int))).bind fun t212 => (if 0 ≤ bt206.2.1 then (if bt206.2.1 ≤ (l2.length : Int) then ((lapidaryref00_Same.f t212 (l2.take (bt206.2.1 : Int).toNat)).bind fun t216 => (if t216 = true then (if t196 = a0 then (if t197 = (wrap64 ((l1.length : Int)+(t184.length : Int))) then (if t198 = 0 then (if bt203.2.2 = 10 then ((lapidarylaw01_known.f kj4).bind fun t217 => (some t217)) else (some false)) else (some false)) else (some false)) else (some false)) else (some false))) else (none)) else (none))) else (if t196 = a0 then (if t197 = (wrap64 ((l1.length : Int)+(t184.length : Int))) then (if t198 = 0 then (if bt203.2.2 = 10 then ((lapidarylaw01_known.f kj4).bind fun t218 => (some t218)) else (some false)) else (some false)) else (some false)) else (some false))))) else (none)) else (none)) = some r:=H
        have A20:=aM A200
        clear A200
        obtain ⟨ji21,hji21⟩ : ∃ j_ : Int,(Int.tmod (wrap64 (a3)) (t184.length : Int)) = j_:=⟨_,rfl⟩
        replace H : (if 0 ≤ (ji21) then (if (ji21) ≤ (t184.length : Int) then ((vint_Get.f kj4 (t184.take ((ji21) : Int).toNat) 0).bind fun bt203 => ((vint_Get.f kj4 l2 0).bind fun bt206 => (if bt206.2.2 = 0 then ((vint_Put.f kj4 (([bt206.1] : List Int))).bind fun t212 => (if 0 ≤ bt206.2.1 then (if bt206.2.1 ≤ (l2.length : Int) then ((lapidaryref00_Same.f t212 (l2.take (bt206.2.1 : Int).toNat)).bind fun t216 => (if t216 = true then (if t196 = a0 then (if t197 = (wrap64 ((l1.length : Int)+(t184.length : Int))) then (if t198 = 0 then (if bt203.2.2 = 10 then ((lapidarylaw01_known.f kj4).bind fun t217 => (some t217)) else (some false)) else (some false)) else (some false)) else (some false)) else (some false))) else (none)) else (none))) else (if t196 = a0 then (if t197 = (wrap64 ((l1.length : Int)+(t184.length : Int))) then (if t198 = 0 then (if bt203.2.2 = 10 then ((lapidarylaw01_known.f kj4).bind fun t218 => (some t218)) else (some false)) else (some false)) else (some false)) else (some false))))) else (none)) else (none)) = some r:=by first | (rw [hji21] at H;exact H) | (simp only [hji21] at H ⊢;exact H)
        (try rw [hji21] at A10)
        (try rw [hji21] at A20)
        by_cases c22 : 0 ≤ (ji21)
        ·rw [if_pos c22] at H
         have c22b0:=eq_true c22
         have c22b1 : decide (0 ≤ (ji21)) = true:=decide_eq_true c22
         clear c22
         by_cases c23 : (ji21) ≤ (t184.length : Int)
         ·rw [if_pos c23] at H
          have c23b0:=eq_true c23
          have c23b1 : decide ((ji21) ≤ (t184.length : Int)) = true:=decide_eq_true c23
          clear c23
          obtain ⟨y199,hy199⟩ : ∃ y_ : List Int,y_ = (t184.take ((ji21) : Int).toNat):=⟨_,rfl⟩
          replace H : ((vint_Get.f kj4 y199 0).bind fun bt203 => ((vint_Get.f kj4 l2 0).bind fun bt206 => (if bt206.2.2 = 0 then ((vint_Put.f kj4 (([bt206.1] : List Int))).bind fun t212 => (if 0 ≤ bt206.2.1 then (if bt206.2.1 ≤ (l2.length : Int) then ((lapidaryref00_Same.f t212 (l2.take (bt206.2.1 : Int).toNat)).bind fun t216 => (if t216 = true then (if t196 = a0 then (if t197 = (wrap64 ((l1.length : Int)+(t184.length : Int))) then (if t198 = 0 then (if bt203.2.2 = 10 then ((lapidarylaw01_known.f kj4).bind fun t217 => (some t217)) else (some false)) else (some false)) else (some false)) else (some false)) else (some false))) else (none)) else (none))) else (if t196 = a0 then (if t197 = (wrap64 ((l1.length : Int)+(t184.length : Int))) then (if t198 = 0 then (if bt203.2.2 = 10 then ((lapidarylaw01_known.f kj4).bind fun t218 => (some t218)) else (some false)) else (some false)) else (some false)) else (some false))))) = some r:=by first | (rw [hy199];with_reducible exact H) | (have H2_:=(Option.bind_some _ _).symm.trans H;rw [hy199];with_reducible exact H2_) | (have H2_:=(Option.bind_some _ _).symm.trans H;with_reducible exact H2_) | with_reducible exact H | (rw [hy199];exact H) | exact H
          have Ny199:=aM hy199
          clear hy199
          replace H:=Option.bind_eq_some_iff.mp H
          obtain ⟨⟨t203,t204,t205⟩,A240,H⟩:=H
          replace H : ((vint_Get.f kj4 l2 0).bind fun bt206 => (if bt206.2.2 = 0 then ((vint_Put.f kj4 (([bt206.1] : List Int))).bind fun t212 => (if 0 ≤ bt206.2.1 then (if bt206.2.1 ≤ (l2.length : Int) then ((lapidaryref00_Same.f t212 (l2.take (bt206.2.1 : Int).toNat)).bind fun t216 => (if t216 = true then (if t196 = a0 then (if t197 = (wrap64 ((l1.length : Int)+(t184.length : Int))) then (if t198 = 0 then (if t205 = 10 then ((lapidarylaw01_known.f kj4).bind fun t217 => (some t217)) else (some false)) else (some false)) else (some false)) else (some false)) else (some false))) else (none)) else (none))) else (if t196 = a0 then (if t197 = (wrap64 ((l1.length : Int)+(t184.length : Int))) then (if t198 = 0 then (if t205 = 10 then ((lapidarylaw01_known.f kj4).bind fun t218 => (some t218)) else (some false)) else (some false)) else (some false)) else (some false)))) = some r:=H
          have A24:=aM A240
          clear A240
          replace H:=Option.bind_eq_some_iff.mp H
          obtain ⟨⟨t206,t207,t208⟩,A250,H⟩:=H
          replace H : (if t208 = 0 then ((vint_Put.f kj4 (([t206] : List Int))).bind fun t212 => (if 0 ≤ t207 then (if t207 ≤ (l2.length : Int) then ((lapidaryref00_Same.f t212 (l2.take (t207 : Int).toNat)).bind fun t216 => (if t216 = true then (if t196 = a0 then (if t197 = (wrap64 ((l1.length : Int)+(t184.length : Int))) then (if t198 = 0 then (if t205 = 10 then ((lapidarylaw01_known.f kj4).bind fun t217 => (some t217)) else (some false)) else (some false)) else (some false)) else (some false)) else (some false))) else (none)) else (none))) else (if t196 = a0 then (if t197 = (wrap64 ((l1.length : Int)+(t184.length : Int))) then (if t198 = 0 then (if t205 = 10 then ((lapidarylaw01_known.f kj4).bind fun t218 => (some t218)) else (some false)) else (some false)) else (some false)) else (some false))) = some r:=H
          have A25:=aM A250
          clear A250
          by_cases c26 : t208 = 0
          ·rw [if_pos c26] at H
           have c26b0 : (t208 == 0) = true:=beq_iff_eq.mpr c26
           have c26b1 : (t208 != 0) = false:=bne_eq_false_iff_eq.mpr c26
           clear c26
           obtain ⟨y209,hy209⟩ : ∃ y_ : List Int,y_ = (([t206] : List Int)):=⟨_,rfl⟩
           replace H : ((vint_Put.f kj4 y209).bind fun t212 => (if 0 ≤ t207 then (if t207 ≤ (l2.length : Int) then ((lapidaryref00_Same.f t212 (l2.take (t207 : Int).toNat)).bind fun t216 => (if t216 = true then (if t196 = a0 then (if t197 = (wrap64 ((l1.length : Int)+(t184.length : Int))) then (if t198 = 0 then (if t205 = 10 then ((lapidarylaw01_known.f kj4).bind fun t217 => (some t217)) else (some false)) else (some false)) else (some false)) else (some false)) else (some false))) else (none)) else (none))) = some r:=by first | (rw [hy209];with_reducible exact H) | (have H2_:=(Option.bind_some _ _).symm.trans H;rw [hy209];with_reducible exact H2_) | (have H2_:=(Option.bind_some _ _).symm.trans H;with_reducible exact H2_) | with_reducible exact H | (rw [hy209];exact H) | exact H
           have Ny209:=aM hy209
           clear hy209
           replace H:=Option.bind_eq_some_iff.mp H
           obtain ⟨t212,A270,H⟩:=H
           replace H : (if 0 ≤ t207 then (if t207 ≤ (l2.length : Int) then ((lapidaryref00_Same.f t212 (l2.take (t207 : Int).toNat)).bind fun t216 => (if t216 = true then (if t196 = a0 then (if t197 = (wrap64 ((l1.length : Int)+(t184.length : Int))) then (if t198 = 0 then (if t205 = 10 then ((lapidarylaw01_known.f kj4).bind fun t217 => (some t217)) else (some false)) else (some false)) else (some false)) else (some false)) else (some false))) else (none)) else (none)) = some r:=H
           have A27:=aM A270
           clear A270
           by_cases c28 : 0 ≤ t207
           ·rw [if_pos c28] at H
            have c28b0:=eq_true c28
            have c28b1 : decide (0 ≤ t207) = true:=decide_eq_true c28
            clear c28
            by_cases c29 : t207 ≤ (l2.length : Int)
            ·rw [if_pos c29] at H
             have c29b0:=eq_true c29
             have c29b1 : decide (t207 ≤ (l2.length : Int)) = true:=decide_eq_true c29
             clear c29
             replace H:=Option.bind_eq_some_iff.mp H
             obtain ⟨t216,A300,H⟩:=H
             replace H : (if t216 = true then (if t196 = a0 then (if t197 = (wrap64 ((l1.length : Int)+(t184.length : Int))) then (if t198 = 0 then (if t205 = 10 then ((lapidarylaw01_known.f kj4).bind fun t217 => (some t217)) else (some false)) else (some false)) else (some false)) else (some false)) else (some false)) = some r:=H
             have A30:=aM A300
             clear A300
             by_cases c31 : t216 = true
             ·subst c31
              have H1 : (if t196 = a0 then (if t197 = (wrap64 ((l1.length : Int)+(t184.length : Int))) then (if t198 = 0 then (if t205 = 10 then ((lapidarylaw01_known.f kj4).bind fun t217 => (some t217)) else (some false)) else (some false)) else (some false)) else (some false)) = some r:=by rw [if_pos rfl] at H;exact H
              clear H
              have H:=H1
              clear H1
              by_cases c32 : t196 = a0
              ·rw [if_pos c32] at H
               have c32b0 : (t196 == a0) = true:=beq_iff_eq.mpr c32
               have c32b1 : (t196 != a0) = false:=bne_eq_false_iff_eq.mpr c32
               clear c32
               by_cases c33 : t197 = (wrap64 ((l1.length : Int)+(t184.length : Int)))
               ·rw [if_pos c33] at H
                have c33b0 : (t197 == (wrap64 ((l1.length : Int)+(t184.length : Int)))) = true:=beq_iff_eq.mpr c33
                have c33b1 : (t197 != (wrap64 ((l1.length : Int)+(t184.length : Int)))) = false:=bne_eq_false_iff_eq.mpr c33
                clear c33
                by_cases c34 : t198 = 0
                ·rw [if_pos c34] at H
                 have c34b0 : (t198 == 0) = true:=beq_iff_eq.mpr c34
                 have c34b1 : (t198 != 0) = false:=bne_eq_false_iff_eq.mpr c34
                 clear c34
                 by_cases c35 : t205 = 10
                 ·rw [if_pos c35] at H
                  have c35b0 : (t205 == 10) = true:=beq_iff_eq.mpr c35
                  have c35b1 : (t205 != 10) = false:=bne_eq_false_iff_eq.mpr c35
                  clear c35
                  replace H:=Option.bind_eq_some_iff.mp H
                  obtain ⟨t217,A360,H⟩:=H
                  replace H : (some t217) = some r:=H
                  have A36:=aM A360
                  clear A360
                  obtain rfl:=Option.some.inj H
                  try go_wp2_with (first|((with_reducible refine gate_dst (N:=30) rfl ?_);(try (refine gate_guard (by rfl) ?_;dsimp only));refine Kd.R_lit (Kd.int .u64) _ 26 ?hg (N:=30) ?hd (xs:=([a0] : List Int)) (inner:=[.int .u64 a0]) (ok:=fun _ => True) (okp:=fun _ => True) ?hr ?hp (fun _ hk => hk) trivial (Below.refl _ _) (Nat.le_refl _) (by simp) ?_;(case hd => rfl);(case hg => rfl);(case hr => first|(go_simp;done)|(go_simp;rfl));(case hp => exact (Reps.one (show Kd.M (Kd.int .u64) _ _ _ a0 [.int .u64 a0] from rfl) (Reps.none _ _)));intro v182 w37 ho38 hb hg_ hnew_;clear hg_ hnew_;(first|rw [← Ny181.out] at ho38|(simp only [Int.reduceToNat] at ho38;rw [← Ny181.out] at ho38));have n0_:=aM (Kd.R_lower ho38 (below_size (by repeat (with_reducible first|exact HB.out|apply below_alloc|apply pw_below_drewN|apply below_drew1))));have n1_:=aM (below_step (by repeat (with_reducible first|exact HB.out|apply below_alloc|apply pw_below_drewN|apply below_drew1)) hb);clear HB;have HO183:=n0_;have HB:=n1_;clear n0_ n1_;clear hb ho38;obtain ⟨Ao39,co39,eo39⟩:=Kd.R_slice HO183.out;subst eo39)|((with_reducible refine gate_callee (f:=15) rfl ?_);refine goesL_ (some 31) rfl rfl Try.func15 (by kernel_rfl) rfl #[.slice Ao39 y181.length co39] rfl (by (try simp only [List.map_toArray,List.map_cons,List.map_nil]);first|done|rfl|(simp only [List.length_drop,List.length_take];rfl)) ?_;(with_reducible refine (vint_Put.calls kj4 _ _ y181 t184 _ ?side1 ?side2 A10.out).mono ?_);(case side1 => repeat (first|exact (Kd.R_reads' HO183.out).2.2|(with_reducible first|refine Kd.C_alloc ?_ _|refine Kd.C_drewN ?_ _|refine Kd.C_drew ?_)));(case side2 => exact (Kd.R_reads' HO183.out).2.1);rintro e w40 ⟨v185,rfl,ho0,hb⟩;refine ⟨_,rfl,?_⟩;have n0_:=aM (Kd.R_below (by (with_reducible repeat (first|apply Kd.R_alloc|apply Kd.R_drewN|apply Kd.R_drew));exact HO183.out) hb);have n1_:=aM (Kd.R_lower ho0 (below_size (by repeat (with_reducible first|exact HB.out|apply below_alloc|apply pw_below_drewN|apply below_drew1))));have n2_:=aM (below_step (by repeat (with_reducible first|exact HB.out|apply below_alloc|apply pw_below_drewN|apply below_drew1)) hb);clear HO183;clear HB;have HO183:=n0_;have HO186:=n1_;have HB:=n2_;clear n0_ n1_ n2_;(try clear hb);(try clear hb2);(try clear hk);(try clear hi);(try clear ho0);obtain ⟨Ao41,co41,eo41⟩:=Kd.R_slice HO186.out;subst eo41)|((with_reducible refine gate_builtin (b:=.append) (xs:=#[.tmp 35,.tmp 36]) rfl ?_);(try (refine gate_guard (by rfl) ?_;dsimp only));at_builtin;refine Kd.R_append_rows (Kd.int .u8) (w0:=w) w.heap.size rfl (.tmp 35) (.tmp 36) 24 5 (.int .u8 0) 1 rfl Try.underlying24 info5 rfl (by decide) (by omega) (.slice none 0 0) ([] : List Int) l1 _ _ _ (fun k_ => some k_ ≠ (.slice Ao41 t184.length co41 : Value).ownBlock) (fun _ => False) rfl rfl ?aO ?aR (fun _ _ h => h) (fun _ h => h.elim) ?aF ?aB ?aS ?aL ?_;(case aR => repeat (first|exact (Kd.C_below HR1.out HB.out)|(with_reducible first|refine Kd.C_alloc ?_ _|refine Kd.C_drewN ?_ _|refine Kd.C_drew ?_)));(case aB => exact (by repeat (with_reducible first|exact HB.out|apply below_alloc|apply pw_below_drewN|apply below_drew1)));(case aF => exact (fun k_ hk => Kd.fresh' (Kd.R_lt (by (with_reducible repeat (first|apply Kd.R_alloc|apply Kd.R_drewN|apply Kd.R_drew));exact HO186.out)) k_ hk));(case aO => exact ((Kd.R_nil _ _ _ _ (fun k_ => some k_ ≠ (.slice Ao41 t184.length co41 : Value).ownBlock))));(case aS => exact (below_size (by repeat (with_reducible first|exact HB.out|apply below_alloc|apply pw_below_drewN|apply below_drew1))));(case aL => have:=LMc17.out;omega);intro v188 w42 ho hb hg hat;rw [← Ny187.out] at ho;have n0_:=aM (Kd.R_grown (by (with_reducible repeat (first|apply Kd.R_alloc|apply Kd.R_drewN|apply Kd.R_drew));exact HO183.out) hg (fun _ _ => by simp [Value.ownBlock]));have n1_:=aM (Kd.R_after (Kd.R_apart_nil (by (with_reducible repeat (first|apply Kd.R_alloc|apply Kd.R_drewN|apply Kd.R_drew));exact HO186.out)) hg hat);have n2_:=aM (hb);have n3_:=aM (ho);clear HO183;clear HO186;clear HB;have HO183:=n0_;have HO186:=n1_;have HB:=n2_;have HO189:=n3_;clear n0_ n1_ n2_ n3_;clear ho hb hg hat)|((with_reducible refine gate_builtin (b:=.append) (xs:=#[.tmp 38,.tmp 39]) rfl ?_);(try (refine gate_guard (by rfl) ?_;dsimp only));at_builtin;refine Kd.R_append_rows (Kd.int .u8) (w0:=w) w.heap.size rfl (.tmp 38) (.tmp 39) 24 5 (.int .u8 0) 1 rfl Try.underlying24 info5 rfl (by decide) (by omega) v188 y187 t184 _ _ _ (fun k_ => some k_ ≠ (.slice Ao41 t184.length co41 : Value).ownBlock) (fun _ => False) rfl rfl ?aO ?aR (fun _ _ h => h) (fun _ h => h.elim) ?aF ?aB ?aS ?aL ?_;(case aR => repeat (first|exact (Kd.R_reads' HO186.out).2.2|(with_reducible first|refine Kd.C_alloc ?_ _|refine Kd.C_drewN ?_ _|refine Kd.C_drew ?_)));(case aB => exact (by repeat (with_reducible first|exact HB.out|apply below_alloc|apply pw_below_drewN|apply below_drew1)));(case aF => exact (fun k_ hk => Kd.fresh' (Kd.R_lt (by (with_reducible repeat (first|apply Kd.R_alloc|apply Kd.R_drewN|apply Kd.R_drew));exact HO186.out)) k_ hk));(case aO => exact (by (with_reducible repeat (first|apply Kd.R_alloc|apply Kd.R_drewN|apply Kd.R_drew));exact HO189.out));(case aS => exact (below_size (by repeat (with_reducible first|exact HB.out|apply below_alloc|apply pw_below_drewN|apply below_drew1))));(case aL => have:=LMc18.out;omega);intro v191 w43 ho hb hg hat;rw [← Ny190.out] at ho;have n0_:=aM (Kd.R_over' (by (with_reducible repeat (first|apply Kd.R_alloc|apply Kd.R_drewN|apply Kd.R_drew));exact HO183.out) (Kd.R_typed (by (with_reducible repeat (first|apply Kd.R_alloc|apply Kd.R_drewN|apply Kd.R_drew));exact HO189.out)) (by decide) hg);have n1_:=aM (Kd.R_after (ok:=(fun _ => True)) (by (with_reducible repeat (first|apply Kd.R_alloc|apply Kd.R_drewN|apply Kd.R_drew));exact HO186.out) hg hat);have n2_:=aM (hb);have n3_:=aM (ho);clear HO183;clear HO186;clear HB;clear HO189;have HO183:=n0_;have HO186:=n1_;have HB:=n2_;have HO192:=n3_;clear n0_ n1_ n2_ n3_;clear ho hb hg hat)|((with_reducible refine gate_builtin (b:=.append) (xs:=#[.tmp 41,.tmp 42]) rfl ?_);(try (refine gate_guard (by rfl) ?_;dsimp only));at_builtin;refine Kd.R_append_rows (Kd.int .u8) (w0:=w) w.heap.size rfl (.tmp 41) (.tmp 42) 24 5 (.int .u8 0) 1 rfl Try.underlying24 info5 rfl (by decide) (by omega) v191 y190 l2 _ _ _ (fun k_ => some k_ ≠ (.slice Ao41 t184.length co41 : Value).ownBlock) (fun _ => False) rfl rfl ?aO ?aR (fun _ _ h => h) (fun _ h => h.elim) ?aF ?aB ?aS ?aL ?_;(case aR => repeat (first|exact (Kd.C_below HR2.out HB.out)|(with_reducible first|refine Kd.C_alloc ?_ _|refine Kd.C_drewN ?_ _|refine Kd.C_drew ?_)));(case aB => exact (by repeat (with_reducible first|exact HB.out|apply below_alloc|apply pw_below_drewN|apply below_drew1)));(case aF => exact (fun k_ hk => Kd.fresh' (Kd.R_lt (by (with_reducible repeat (first|apply Kd.R_alloc|apply Kd.R_drewN|apply Kd.R_drew));exact HO186.out)) k_ hk));(case aO => exact (by (with_reducible repeat (first|apply Kd.R_alloc|apply Kd.R_drewN|apply Kd.R_drew));exact HO192.out));(case aS => exact (below_size (by repeat (with_reducible first|exact HB.out|apply below_alloc|apply pw_below_drewN|apply below_drew1))));(case aL => have:=LMc19.out;omega);intro v194 w44 ho hb hg hat;rw [← Ny193.out] at ho;have n0_:=aM (Kd.R_over' (by (with_reducible repeat (first|apply Kd.R_alloc|apply Kd.R_drewN|apply Kd.R_drew));exact HO183.out) (Kd.R_typed (by (with_reducible repeat (first|apply Kd.R_alloc|apply Kd.R_drewN|apply Kd.R_drew));exact HO192.out)) (by decide) hg);have n1_:=aM (Kd.R_after (ok:=(fun _ => True)) (by (with_reducible repeat (first|apply Kd.R_alloc|apply Kd.R_drewN|apply Kd.R_drew));exact HO186.out) hg hat);have n2_:=aM (hb);have n3_:=aM (ho);clear HO183;clear HO186;clear HB;clear HO192;have HO183:=n0_;have HO186:=n1_;have HB:=n2_;have HO195:=n3_;clear n0_ n1_ n2_ n3_;clear ho hb hg hat;obtain ⟨Ao45,co45,eo45⟩:=Kd.R_slice HO195.out;subst eo45)|((with_reducible refine gate_callee (f:=16) rfl ?_);refine goesL_ (some 48) rfl rfl Try.func16 (by kernel_rfl) rfl #[.slice Ao45 y193.length co45,.int .i64 (l1.length : Int)] rfl (by (try simp only [List.map_toArray,List.map_cons,List.map_nil]);first|done|rfl|(simp only [List.length_drop,List.length_take];rfl)) ?_;(with_reducible refine (vint_Get.calls kj4 _ _ y193 (l1.length : Int) t196 t197 t198 _ ?side1 ?side2 A20.out).mono ?_);(case side1 => repeat (first|exact (Kd.R_reads' HO195.out).2.2|(with_reducible first|refine Kd.C_alloc ?_ _|refine Kd.C_drewN ?_ _|refine Kd.C_drew ?_)));(case side2 => exact (Kd.R_reads' HO195.out).2.1);rintro e w' ⟨rfl,⟨nd,rfl⟩⟩;refine ⟨_,rfl,?_⟩;have q46 : ((ji21) : Int) ≤ ((t184.length : Int) : Int):=of_decide_eq_true (by first|(with_reducible assumption)|assumption);obtain ⟨i046,hi046,_,hsz46,_⟩:=info_parts info5;have hroom46 : t184.length ≤ co41:=(Kd.R_reads' HO186.out).2.1;have hC46 : Kd.C (Kd.int .u8) _ Ao41 t184.length t184:=(Kd.R_reads' HO186.out).2.2;have hcut46:=cut_to (P:=Try.prog) 24 5 .i64 Try.underlying24 hi046 Ao41 t184.length co41 (ji21) (of_decide_eq_true (by first|(with_reducible assumption)|assumption)) q46 hroom46;have hr46:=Kd.C_take (m:=((ji21) : Int).toNat) hC46 (by omega);have hy46 : y199.length = ((ji21) : Int).toNat:=(by rw [Ny199.out,List.length_take];omega);rw [← Ny199.out] at hr46;rw [← hy46] at hcut46;have HR202:=aM hr46;have HC202:=aM (show y199.length ≤ co41 from by omega);clear hr46 hC46 hroom46 hi046 hsz46;have KY46:=aM hy46;clear hy46;have KL46:=aM (show ((ji21) : Int).toNat ≤ t184.length from by omega);replace q46:=eq_true q46)|((with_reducible refine gate_callee (f:=16) rfl ?_);refine goesL_ (some 60) rfl rfl Try.func16 (by kernel_rfl) rfl #[.slice Ao41 y199.length co41,.int .i64 0] rfl (by (try simp only [List.map_toArray,List.map_cons,List.map_nil]);first|done|rfl|(simp only [List.length_drop,List.length_take];rfl)) ?_;(with_reducible refine (vint_Get.calls kj4 _ _ y199 0 t203 t204 t205 _ ?side1 ?side2 A24.out).mono ?_);(case side1 => repeat (first|exact (by repeat (first|(with_reducible exact HR202.out)|(with_reducible first|refine Kd.C_alloc ?_ _|refine Kd.C_drewN ?_ _|refine Kd.C_drew ?_)|exact HR202.out))|(with_reducible first|refine Kd.C_alloc ?_ _|refine Kd.C_drewN ?_ _|refine Kd.C_drew ?_)));(case side2 => exact HC202.out);rintro e w' ⟨rfl,⟨nd,rfl⟩⟩;refine ⟨_,rfl,?_⟩)|((with_reducible refine gate_callee (f:=16) rfl ?_);refine goesL_ (some 66) rfl rfl Try.func16 (by kernel_rfl) rfl #[.slice A2 l2.length c2,.int .i64 0] rfl (by (try simp only [List.map_toArray,List.map_cons,List.map_nil]);first|done|rfl|(simp only [List.length_drop,List.length_take];rfl)) ?_;(with_reducible refine (vint_Get.calls kj4 _ _ l2 0 t206 t207 t208 _ ?side1 ?side2 A25.out).mono ?_);(case side1 => repeat (first|exact (Kd.C_below HR2.out (by repeat (with_reducible first|exact HB.out|apply below_alloc|apply pw_below_drewN|apply below_drew1)))|(with_reducible first|refine Kd.C_alloc ?_ _|refine Kd.C_drewN ?_ _|refine Kd.C_drew ?_)));(case side2 => exact HC2.out);rintro e w' ⟨rfl,⟨nd,rfl⟩⟩;refine ⟨_,rfl,?_⟩))
                  (try (rw [drewN_self w44];generalize hq_ : World.drewN w44 _ = w44;have n0_ : Aside0 (Kd.R (Kd.int .u64) 26 w44 w.heap.size (fun _ => True) (.slice Ao39 y181.length co39) y181):=⟨by rw [← hq_];exact (by (with_reducible repeat (first | apply Kd.R_alloc | apply Kd.R_drewN | apply Kd.R_drew));exact HO183.out)⟩;have n1_ : Aside0 (Kd.R (Kd.int .u8) 5 w44 w.heap.size (fun k_ => some k_ ≠ (.slice Ao45 y193.length co45 : Value).ownBlock) (.slice Ao41 t184.length co41) t184):=⟨by rw [← hq_];exact (by (with_reducible repeat (first | apply Kd.R_alloc | apply Kd.R_drewN | apply Kd.R_drew));exact Kd.R_mono HO186.out (fun _ hk => hk.2))⟩;have n2_ : Aside0 (Kd.R (Kd.int .u8) 5 w44 w.heap.size (fun k_ => some k_ ≠ (.slice Ao41 t184.length co41 : Value).ownBlock) (.slice Ao45 y193.length co45) y193):=⟨by rw [← hq_];exact (by (with_reducible repeat (first | apply Kd.R_alloc | apply Kd.R_drewN | apply Kd.R_drew));exact HO195.out)⟩;have n3_ : Aside0 (Below w.heap.size w w44):=⟨by rw [← hq_];exact (by repeat (first | (with_reducible first | exact HB.out | apply below_alloc | apply pw_below_drewN | apply below_drew1) | exact HB.out))⟩;have n4_ : Aside0 (Kd.C (Kd.int .u8) w44 Ao41 y199.length y199):=⟨by rw [← hq_];exact (by repeat (first | (with_reducible exact HR202.out) | (with_reducible refine Kd.C_alloc ?_ _) | (with_reducible refine Kd.C_drewN ?_ _) | (with_reducible refine Kd.C_drew ?_) | exact HR202.out))⟩;clear HO183 HO186 HO195 HB HR202 hq_;have HO183:=n0_;have HO186:=n1_;have HO195:=n2_;have HB:=n3_;have HR202:=n4_;clear n0_ n1_ n2_ n3_ n4_))
                  have n0_:=aM (Kd.R_drew HO183.out)
                  have n1_:=aM (Kd.R_drew HO186.out)
                  have n2_:=aM (Kd.R_drew HO195.out)
                  have n3_:=aM (Kd.C_drew HR202.out)
                  have n4_:=aM (below_drew1 HB.out)
                  clear HO183
                  clear HO186
                  clear HO195
                  clear HR202
                  clear HB
                  have HO183:=n0_
                  have HO186:=n1_
                  have HO195:=n2_
                  have HR202:=n3_
                  have HB:=n4_
                  clear n0_ n1_ n2_ n3_ n4_
                  obtain ⟨i048,hi048,_,hsz48,_⟩:=info_parts info5
                  obtain ⟨hcut48,hA48,hC48⟩:=print_take_of (P:=Try.prog) (Value.int .u8) 0 24 5 .i64 Try.underlying24 hi048 hsz48 A2 c2 l2 t207 (of_decide_eq_true (by first | (with_reducible assumption) | assumption)) (of_decide_eq_true (by first | (with_reducible assumption) | assumption)) HC2.out
                  have HR215:=aM (Kd.C_of_reads (h1:=fun _ => rfl) (hA48 _ (Kd.reads_of_C HR2.out)))
                  have HC215:=aM hC48
                  clear hA48 hC48 hi048 hsz48
                  refine start_ (n:=12) (S:=fun w' => True) (ds:=[]) #[false,false,false,false,false,false,false,false,false,false,false,false] (by kernel_rfl) rfl rfl trivial (fun hHeld => ?_);refine with_tabW lapidarylaw01_VintOnce.tab13 lapidarylaw01_VintOnce.bits13 (fun HT_ HW_ => ?_)
                  generalize w44.drew = w47 at HO183 HO186 HO195 HR202 HB HR215 hHeld ⊢
                  refine pure_ (i:=0) (N:=some 70) (v:=?_) (a':=?_) #[true,false,false,false,false,false,false,false,false,false,false,false] rfl rfl (any_of HT_.out (by kernel_rfl)) (fun _ _ _ h => h) (Or.inl ⟨by rfl,?_⟩) ?_ ?_
                  rotate_left
                  ·intro w'
                   go_simp
                   with_reducible rfl
                  rotate_left
                  ·simp only [Act.put,sA,sB,sC,i64_w,i32_w]
                   rfl
                  refine pure_ (i:=1) (N:=some 71) (v:=?_) (a':=?_) #[true,true,false,false,false,false,false,false,false,false,false,false] rfl rfl (any_of HT_.out (by kernel_rfl)) (fun _ _ _ h => h) (Or.inl ⟨by rfl,?_⟩) ?_ ?_
                  rotate_left
                  ·intro w'
                   go_simp
                   with_reducible rfl
                  rotate_left
                  ·simp only [Act.put,sA,sB,sC,i64_w,i32_w]
                   rfl
                  refine pure_ (i:=2) (N:=some 72) (v:=?_) (a':=?_) #[true,true,true,false,false,false,false,false,false,false,false,false] rfl rfl (any_of HT_.out (by kernel_rfl)) (fun _ _ _ h => h) (Or.inl ⟨by rfl,?_⟩) ?_ ?_
                  rotate_left
                  ·intro w'
                   go_simp
                   with_reducible rfl
                  rotate_left
                  ·simp only [Act.put,sA,sB,sC,i64_w,i32_w]
                   rfl
                  refine pure_ (i:=3) (N:=some 73) (v:=?_) (a':=?_) #[true,true,true,true,false,false,false,false,false,false,false,false] rfl rfl (any_of HT_.out (by kernel_rfl)) (fun _ _ _ h => h) (Or.inl ⟨by rfl,?_⟩) ?_ ?_
                  rotate_left
                  ·intro w'
                   go_simp
                   with_reducible rfl
                  rotate_left
                  ·simp only [Act.put,sA,sB,sC,i64_w,i32_w]
                   rfl
                  refine pure_ (i:=6) (N:=some 76) (v:=?_) (a':=?_) #[true,true,true,true,false,false,true,false,false,false,false,false] rfl rfl (any_of HT_.out (by kernel_rfl)) (fun _ _ _ h => h) (Or.inl ⟨by rfl,?_⟩) ?_ ?_
                  rotate_left
                  ·intro w'
                   go_simp
                   with_reducible rfl
                  rotate_left
                  ·simp only [Act.put,sA,sB,sC,i64_w,i32_w]
                   rfl
                  refine pure_ (i:=7) (N:=some 77) (v:=?_) (a':=?_) #[true,true,true,true,false,false,true,true,false,false,false,false] rfl rfl (any_of HT_.out (by kernel_rfl)) (fun _ _ _ h => h) (Or.inl ⟨by rfl,?_⟩) ?_ ?_
                  rotate_left
                  ·intro w'
                   go_simp
                   with_reducible rfl
                  rotate_left
                  ·simp only [Act.put,sA,sB,sC,i64_w,i32_w]
                   rfl
                  refine pure_ (i:=8) (N:=some 78) (v:=?_) (a':=?_) #[true,true,true,true,false,false,true,true,true,false,false,false] rfl rfl (any_of HT_.out (by kernel_rfl)) (fun _ _ _ h => h) (Or.inl ⟨by rfl,?_⟩) ?_ ?_
                  rotate_left
                  ·intro w'
                   go_simp
                   with_reducible rfl
                  rotate_left
                  ·simp only [Act.put,sA,sB,sC,i64_w,i32_w]
                   rfl
                  refine one_ (i:=4) (N:=some 74) #[true,true,true,true,true,false,true,true,true,false,false,false] rfl rfl (one_of HT_.out (by kernel_rfl)) (by decide) (fun K hK => ?_)
                  refine Kd.R_lit_step (Kd.int .u64) _ 26 ?hg (N:=74) ?hd (xs:=([t206] : List Int)) (inner:=[.int .u64 t206]) (ok:=fun _ => True) (okp:=fun _ => True) ?hr ?hp (fun _ hk => hk) trivial (Below.refl _ _) (Nat.le_refl _) (by simp) ?_;(case hd => rfl);(case hg => rfl);(case hr => first | (go_simp;done) | (go_simp;rfl));(case hp => exact (Reps.one (show Kd.M (Kd.int .u64) _ _ _ t206 [.int .u64 t206] from rfl) (Reps.none _ _)))
                  intro v210 w49 ho50 hb hg_ hnew_
                  clear hg_ hnew_
                  (first | rw [← Ny209.out] at ho50 | (simp only [Int.reduceToNat] at ho50;rw [← Ny209.out] at ho50))
                  have n0_:=aM (Kd.R_elder' (by (with_reducible repeat (first | apply Kd.R_alloc | apply Kd.R_drewN | apply Kd.R_drew));exact HO183.out) (Kd.R_base ho50) hb)
                  have n1_:=aM (Kd.R_below (by (with_reducible repeat (first | apply Kd.R_alloc | apply Kd.R_drewN | apply Kd.R_drew));exact HO186.out) hb)
                  have n2_:=aM (Kd.R_below (by (with_reducible repeat (first | apply Kd.R_alloc | apply Kd.R_drewN | apply Kd.R_drew));exact HO195.out) hb)
                  have n3_:=aM (Kd.R_lower (Kd.R_new' ho50 (Kd.R_lt (by (with_reducible repeat (first | apply Kd.R_alloc | apply Kd.R_drewN | apply Kd.R_drew));exact HO183.out))) (below_size (by repeat (first | (with_reducible first | exact HB.out | apply below_alloc | apply pw_below_drewN | apply below_drew1) | exact HB.out))))
                  have n4_:=aM (Kd.C_below (by repeat (first | (with_reducible exact HR202.out) | (with_reducible refine Kd.C_alloc ?_ _) | (with_reducible refine Kd.C_drewN ?_ _) | (with_reducible refine Kd.C_drew ?_) | exact HR202.out)) hb)
                  have n5_:=aM (below_step (by repeat (first | (with_reducible first | exact HB.out | apply below_alloc | apply pw_below_drewN | apply below_drew1) | exact HB.out)) hb)
                  clear HO183
                  clear HO186
                  clear HO195
                  clear HR202
                  clear HB
                  have HO183:=n0_
                  have HO186:=n1_
                  have HO195:=n2_
                  have HO211:=n3_
                  have HR202:=n4_
                  have HB:=n5_
                  clear n0_ n1_ n2_ n3_ n4_ n5_
                  clear hb ho50
                  obtain ⟨Ao51,co51,eo51⟩:=Kd.R_slice HO211.out
                  (first | subst eo51 | (injection eo51 with f1_ f2_ f3_;have f4_:=f1_.symm;have f5_:=f3_.symm;clear f1_ f2_ f3_;subst f4_;subst f5_))
                  refine hK.out _ _ trivial (fun hHeld => ?_)
                  clear hK K
                  refine norm_ (a':=?_) ?_ ?_
                  rotate_left
                  ·show Act.put _ (some 74) _ = _
                   simp only [Act.put,sA,sB,sC,i64_w,i32_w]
                   rfl
                  refine one_ (i:=5) (N:=some 75) #[true,true,true,true,true,true,true,true,true,false,false,false] rfl rfl (one_of HT_.out (by kernel_rfl)) (by decide) (fun K hK => ?_)
                  refine goes_ Try.func15 (by kernel_rfl) rfl #[.slice Ao51 y209.length co51] (by rfl) rfl rfl (by (try simp only [List.map_toArray,List.map_cons,List.map_nil]);first | done | rfl | (simp only [List.length_drop,List.length_take];rfl)) ?_
                  with_reducible refine (vint_Put.calls kj4 _ _ y209 t212 _ ?side1 ?side2 A27.out).mono ?_
                  (case side1 => repeat (first|exact (Kd.R_reads' HO211.out).2.2|(with_reducible first|refine Kd.C_alloc ?_ _|refine Kd.C_drewN ?_ _|refine Kd.C_drew ?_)))
                  (case side2 => exact (Kd.R_reads' HO211.out).2.1)
                  rintro e w52 ⟨v213,rfl,ho0,hb⟩
                  refine ⟨_,rfl,?_⟩
                  have n0_:=aM (Kd.R_below (by (with_reducible repeat (first | apply Kd.R_alloc | apply Kd.R_drewN | apply Kd.R_drew));exact HO183.out) hb)
                  have n1_:=aM (Kd.R_elder' (by (with_reducible repeat (first | apply Kd.R_alloc | apply Kd.R_drewN | apply Kd.R_drew));exact HO186.out) (Kd.R_base ho0) hb)
                  have n2_:=aM (Kd.R_elder' (by (with_reducible repeat (first | apply Kd.R_alloc | apply Kd.R_drewN | apply Kd.R_drew));exact HO195.out) (Kd.R_base ho0) hb)
                  have n3_:=aM (Kd.R_below (by (with_reducible repeat (first | apply Kd.R_alloc | apply Kd.R_drewN | apply Kd.R_drew));exact HO211.out) hb)
                  have n4_:=aM (Kd.R_lower (Kd.R_new' (Kd.R_new' ho0 (Kd.R_lt (by (with_reducible repeat (first | apply Kd.R_alloc | apply Kd.R_drewN | apply Kd.R_drew));exact HO186.out))) (Kd.R_lt (by (with_reducible repeat (first | apply Kd.R_alloc | apply Kd.R_drewN | apply Kd.R_drew));exact HO195.out))) (below_size (by repeat (first | (with_reducible first | exact HB.out | apply below_alloc | apply pw_below_drewN | apply below_drew1) | exact HB.out))))
                  have n5_:=aM (Kd.C_below (by repeat (first | (with_reducible exact HR202.out) | (with_reducible refine Kd.C_alloc ?_ _) | (with_reducible refine Kd.C_drewN ?_ _) | (with_reducible refine Kd.C_drew ?_) | exact HR202.out)) hb)
                  have n6_:=aM (below_step (by repeat (first | (with_reducible first | exact HB.out | apply below_alloc | apply pw_below_drewN | apply below_drew1) | exact HB.out)) hb)
                  clear HO183
                  clear HO186
                  clear HO195
                  clear HO211
                  clear HR202
                  clear HB
                  have HO183:=n0_
                  have HO186:=n1_
                  have HO195:=n2_
                  have HO211:=n3_
                  have HO214:=n4_
                  have HR202:=n5_
                  have HB:=n6_
                  clear n0_ n1_ n2_ n3_ n4_ n5_ n6_
                  (try clear hb)
                  (try clear hb2)
                  (try clear hk)
                  (try clear hi)
                  (try clear ho0)
                  obtain ⟨Ao53,co53,eo53⟩:=Kd.R_slice HO214.out
                  (first | subst eo53 | (injection eo53 with f1_ f2_ f3_;have f4_:=f1_.symm;have f5_:=f3_.symm;clear f1_ f2_ f3_;subst f4_;subst f5_))
                  refine hK.out _ _ trivial (fun hHeld => ?_)
                  clear hK K
                  refine norm_ (a':=?_) ?_ ?_
                  rotate_left
                  ·show Act.put _ (some 75) _ = _
                   simp only [Act.put,sA,sB,sC,i64_w,i32_w]
                   rfl
                  refine one_ (i:=9) (N:=some 79) #[true,true,true,true,true,true,true,true,true,true,false,false] rfl rfl (one_of HT_.out (by kernel_rfl)) (by decide) (fun K hK => ?_)
                  refine goes_ Try.func14 (by kernel_rfl) rfl #[.slice Ao53 t212.length co53,.slice A2 (l2.take (t207 : Int).toNat).length c2] (by rfl) rfl rfl (by (try simp only [List.map_toArray,List.map_cons,List.map_nil]);first | done | (rw [show (l2.take (t207 : Int).toNat).length = t207.toNat from (by rw [List.length_take];have h_ : (t207 : Int) ≤ (l2.length : Int):=of_decide_eq_true (by first | (with_reducible assumption) | assumption);omega)]<;>rfl) | rfl | (simp only [List.length_drop,List.length_take];rfl)) ?_
                  with_reducible refine (lapidaryref00_Same.calls _ _ t212 _ _ (l2.take (t207 : Int).toNat) true _ ?side1 ?side2 ?side3 ?side4 A30.out).mono ?_
                  (case side1 => repeat (first|exact (Kd.R_reads' HO214.out).2.2|(with_reducible first|refine Kd.C_alloc ?_ _|refine Kd.C_drewN ?_ _|refine Kd.C_drew ?_)))
                  (case side2 => exact (Kd.R_reads' HO214.out).2.1)
                  (case side3 => repeat (first|exact (Kd.C_below HR215.out HB.out)|(with_reducible first|refine Kd.C_alloc ?_ _|refine Kd.C_drewN ?_ _|refine Kd.C_drew ?_)))
                  (case side4 => exact HC215.out)
                  rintro e w' ⟨rfl,⟨nd,rfl⟩⟩
                  refine ⟨_,rfl,?_⟩
                  refine hK.out _ _ trivial (fun hHeld => ?_)
                  clear hK K
                  refine norm_ (a':=?_) ?_ ?_
                  rotate_left
                  ·show Act.put _ (some 79) _ = _
                   simp only [Act.put,sA,sB,sC,i64_w,i32_w]
                   rfl
                  refine pure_ (i:=10) (N:=some 80) (v:=?_) (a':=?_) #[true,true,true,true,true,true,true,true,true,true,true,false] rfl rfl (any_of HT_.out (by kernel_rfl)) (fun _ _ _ h => h) (Or.inl ⟨by rfl,?_⟩) ?_ ?_
                  rotate_left
                  ·intro w'
                   go_simp
                   with_reducible rfl
                  rotate_left
                  ·simp only [Act.put,sA,sB,sC,i64_w,i32_w]
                   rfl
                  refine pure_ (i:=11) (N:=some 81) (v:=?_) (a':=?_) #[true,true,true,true,true,true,true,true,true,true,true,true] rfl rfl (any_of HT_.out (by kernel_rfl)) (fun _ _ _ h => h) (Or.inl ⟨by rfl,?_⟩) ?_ ?_
                  rotate_left
                  ·intro w'
                   go_simp
                   with_reducible rfl
                  rotate_left
                  ·simp only [Act.put,sA,sB,sC,i64_w,i32_w]
                   rfl
                  refine done_ (done_of HT_.out (by kernel_rfl)) ?_
                  try go_wp2_with (first|(go_at_call 12;(with_reducible refine (lapidarylaw01_known.calls kj4  t217 _ A36.out).mono ?_);rintro e w54 ⟨rfl,hb⟩;have n0_:=aM (Kd.R_below (by (with_reducible repeat (first|apply Kd.R_alloc|apply Kd.R_drewN|apply Kd.R_drew));exact HO183.out) hb);have n1_:=aM (Kd.R_below (by (with_reducible repeat (first|apply Kd.R_alloc|apply Kd.R_drewN|apply Kd.R_drew));exact HO186.out) hb);have n2_:=aM (Kd.R_below (by (with_reducible repeat (first|apply Kd.R_alloc|apply Kd.R_drewN|apply Kd.R_drew));exact HO195.out) hb);have n3_:=aM (Kd.R_below (by (with_reducible repeat (first|apply Kd.R_alloc|apply Kd.R_drewN|apply Kd.R_drew));exact HO211.out) hb);have n4_:=aM (Kd.R_below (by (with_reducible repeat (first|apply Kd.R_alloc|apply Kd.R_drewN|apply Kd.R_drew));exact HO214.out) hb);have n5_:=aM (Kd.C_below (by repeat (first|(with_reducible exact HR202.out)|(with_reducible first|refine Kd.C_alloc ?_ _|refine Kd.C_drewN ?_ _|refine Kd.C_drew ?_)|exact HR202.out)) hb);have n6_:=aM (below_step (by repeat (with_reducible first|exact HB.out|apply below_alloc|apply pw_below_drewN|apply below_drew1)) hb);clear HO183;clear HO186;clear HO195;clear HO211;clear HO214;clear HR202;clear HB;have HO183:=n0_;have HO186:=n1_;have HO195:=n2_;have HO211:=n3_;have HO214:=n4_;have HR202:=n5_;have HB:=n6_;clear n0_ n1_ n2_ n3_ n4_ n5_ n6_;(try clear hb);(try clear hb2);(try clear hk);(try clear hi)))
                  go_ret
                  exact ⟨by first | rfl | (simp [errW_none,errW_some]<;>rfl) | (simp only [← hji21];first | rfl | (simp [errW_none,errW_some]<;>rfl)) | (simp [*,errW_none,errW_some]<;>rfl),by repeat (first | (with_reducible first | exact HB.out | apply below_alloc | apply pw_below_drewN | apply below_drew1) | exact HB.out)⟩
                 ·rw [if_neg c35] at H
                  have c35b0 : (t205 == 10) = false:=beq_eq_false_iff_ne.mpr c35
                  have c35b1 : (t205 != 10) = true:=bne_iff_ne.mpr c35
                  obtain rfl:=Option.some.inj H
                  try go_wp2_with (first|((with_reducible refine gate_dst (N:=30) rfl ?_);(try (refine gate_guard (by rfl) ?_;dsimp only));refine Kd.R_lit (Kd.int .u64) _ 26 ?hg (N:=30) ?hd (xs:=([a0] : List Int)) (inner:=[.int .u64 a0]) (ok:=fun _ => True) (okp:=fun _ => True) ?hr ?hp (fun _ hk => hk) trivial (Below.refl _ _) (Nat.le_refl _) (by simp) ?_;(case hd => rfl);(case hg => rfl);(case hr => first|(go_simp;done)|(go_simp;rfl));(case hp => exact (Reps.one (show Kd.M (Kd.int .u64) _ _ _ a0 [.int .u64 a0] from rfl) (Reps.none _ _)));intro v182 w55 ho56 hb hg_ hnew_;clear hg_ hnew_;(first|rw [← Ny181.out] at ho56|(simp only [Int.reduceToNat] at ho56;rw [← Ny181.out] at ho56));have n0_:=aM (Kd.R_lower ho56 (below_size (by repeat (with_reducible first|exact HB.out|apply below_alloc|apply pw_below_drewN|apply below_drew1))));have n1_:=aM (below_step (by repeat (with_reducible first|exact HB.out|apply below_alloc|apply pw_below_drewN|apply below_drew1)) hb);clear HB;have HO183:=n0_;have HB:=n1_;clear n0_ n1_;clear hb ho56;obtain ⟨Ao57,co57,eo57⟩:=Kd.R_slice HO183.out;subst eo57)|((with_reducible refine gate_callee (f:=15) rfl ?_);refine goesL_ (some 31) rfl rfl Try.func15 (by kernel_rfl) rfl #[.slice Ao57 y181.length co57] rfl (by (try simp only [List.map_toArray,List.map_cons,List.map_nil]);first|done|rfl|(simp only [List.length_drop,List.length_take];rfl)) ?_;(with_reducible refine (vint_Put.calls kj4 _ _ y181 t184 _ ?side1 ?side2 A10.out).mono ?_);(case side1 => repeat (first|exact (Kd.R_reads' HO183.out).2.2|(with_reducible first|refine Kd.C_alloc ?_ _|refine Kd.C_drewN ?_ _|refine Kd.C_drew ?_)));(case side2 => exact (Kd.R_reads' HO183.out).2.1);rintro e w58 ⟨v185,rfl,ho0,hb⟩;refine ⟨_,rfl,?_⟩;have n0_:=aM (Kd.R_below (by (with_reducible repeat (first|apply Kd.R_alloc|apply Kd.R_drewN|apply Kd.R_drew));exact HO183.out) hb);have n1_:=aM (Kd.R_lower ho0 (below_size (by repeat (with_reducible first|exact HB.out|apply below_alloc|apply pw_below_drewN|apply below_drew1))));have n2_:=aM (below_step (by repeat (with_reducible first|exact HB.out|apply below_alloc|apply pw_below_drewN|apply below_drew1)) hb);clear HO183;clear HB;have HO183:=n0_;have HO186:=n1_;have HB:=n2_;clear n0_ n1_ n2_;(try clear hb);(try clear hb2);(try clear hk);(try clear hi);(try clear ho0);obtain ⟨Ao59,co59,eo59⟩:=Kd.R_slice HO186.out;subst eo59)|((with_reducible refine gate_builtin (b:=.append) (xs:=#[.tmp 35,.tmp 36]) rfl ?_);(try (refine gate_guard (by rfl) ?_;dsimp only));at_builtin;refine Kd.R_append_rows (Kd.int .u8) (w0:=w) w.heap.size rfl (.tmp 35) (.tmp 36) 24 5 (.int .u8 0) 1 rfl Try.underlying24 info5 rfl (by decide) (by omega) (.slice none 0 0) ([] : List Int) l1 _ _ _ (fun k_ => some k_ ≠ (.slice Ao59 t184.length co59 : Value).ownBlock) (fun _ => False) rfl rfl ?aO ?aR (fun _ _ h => h) (fun _ h => h.elim) ?aF ?aB ?aS ?aL ?_;(case aR => repeat (first|exact (Kd.C_below HR1.out HB.out)|(with_reducible first|refine Kd.C_alloc ?_ _|refine Kd.C_drewN ?_ _|refine Kd.C_drew ?_)));(case aB => exact (by repeat (with_reducible first|exact HB.out|apply below_alloc|apply pw_below_drewN|apply below_drew1)));(case aF => exact (fun k_ hk => Kd.fresh' (Kd.R_lt (by (with_reducible repeat (first|apply Kd.R_alloc|apply Kd.R_drewN|apply Kd.R_drew));exact HO186.out)) k_ hk));(case aO => exact ((Kd.R_nil _ _ _ _ (fun k_ => some k_ ≠ (.slice Ao59 t184.length co59 : Value).ownBlock))));(case aS => exact (below_size (by repeat (with_reducible first|exact HB.out|apply below_alloc|apply pw_below_drewN|apply below_drew1))));(case aL => have:=LMc17.out;omega);intro v188 w60 ho hb hg hat;rw [← Ny187.out] at ho;have n0_:=aM (Kd.R_grown (by (with_reducible repeat (first|apply Kd.R_alloc|apply Kd.R_drewN|apply Kd.R_drew));exact HO183.out) hg (fun _ _ => by simp [Value.ownBlock]));have n1_:=aM (Kd.R_after (Kd.R_apart_nil (by (with_reducible repeat (first|apply Kd.R_alloc|apply Kd.R_drewN|apply Kd.R_drew));exact HO186.out)) hg hat);have n2_:=aM (hb);have n3_:=aM (ho);clear HO183;clear HO186;clear HB;have HO183:=n0_;have HO186:=n1_;have HB:=n2_;have HO189:=n3_;clear n0_ n1_ n2_ n3_;clear ho hb hg hat)|((with_reducible refine gate_builtin (b:=.append) (xs:=#[.tmp 38,.tmp 39]) rfl ?_);(try (refine gate_guard (by rfl) ?_;dsimp only));at_builtin;refine Kd.R_append_rows (Kd.int .u8) (w0:=w) w.heap.size rfl (.tmp 38) (.tmp 39) 24 5 (.int .u8 0) 1 rfl Try.underlying24 info5 rfl (by decide) (by omega) v188 y187 t184 _ _ _ (fun k_ => some k_ ≠ (.slice Ao59 t184.length co59 : Value).ownBlock) (fun _ => False) rfl rfl ?aO ?aR (fun _ _ h => h) (fun _ h => h.elim) ?aF ?aB ?aS ?aL ?_;(case aR => repeat (first|exact (Kd.R_reads' HO186.out).2.2|(with_reducible first|refine Kd.C_alloc ?_ _|refine Kd.C_drewN ?_ _|refine Kd.C_drew ?_)));(case aB => exact (by repeat (with_reducible first|exact HB.out|apply below_alloc|apply pw_below_drewN|apply below_drew1)));(case aF => exact (fun k_ hk => Kd.fresh' (Kd.R_lt (by (with_reducible repeat (first|apply Kd.R_alloc|apply Kd.R_drewN|apply Kd.R_drew));exact HO186.out)) k_ hk));(case aO => exact (by (with_reducible repeat (first|apply Kd.R_alloc|apply Kd.R_drewN|apply Kd.R_drew));exact HO189.out));(case aS => exact (below_size (by repeat (with_reducible first|exact HB.out|apply below_alloc|apply pw_below_drewN|apply below_drew1))));(case aL => have:=LMc18.out;omega);intro v191 w61 ho hb hg hat;rw [← Ny190.out] at ho;have n0_:=aM (Kd.R_over' (by (with_reducible repeat (first|apply Kd.R_alloc|apply Kd.R_drewN|apply Kd.R_drew));exact HO183.out) (Kd.R_typed (by (with_reducible repeat (first|apply Kd.R_alloc|apply Kd.R_drewN|apply Kd.R_drew));exact HO189.out)) (by decide) hg);have n1_:=aM (Kd.R_after (ok:=(fun _ => True)) (by (with_reducible repeat (first|apply Kd.R_alloc|apply Kd.R_drewN|apply Kd.R_drew));exact HO186.out) hg hat);have n2_:=aM (hb);have n3_:=aM (ho);clear HO183;clear HO186;clear HB;clear HO189;have HO183:=n0_;have HO186:=n1_;have HB:=n2_;have HO192:=n3_;clear n0_ n1_ n2_ n3_;clear ho hb hg hat)|((with_reducible refine gate_builtin (b:=.append) (xs:=#[.tmp 41,.tmp 42]) rfl ?_);(try (refine gate_guard (by rfl) ?_;dsimp only));at_builtin;refine Kd.R_append_rows (Kd.int .u8) (w0:=w) w.heap.size rfl (.tmp 41) (.tmp 42) 24 5 (.int .u8 0) 1 rfl Try.underlying24 info5 rfl (by decide) (by omega) v191 y190 l2 _ _ _ (fun k_ => some k_ ≠ (.slice Ao59 t184.length co59 : Value).ownBlock) (fun _ => False) rfl rfl ?aO ?aR (fun _ _ h => h) (fun _ h => h.elim) ?aF ?aB ?aS ?aL ?_;(case aR => repeat (first|exact (Kd.C_below HR2.out HB.out)|(with_reducible first|refine Kd.C_alloc ?_ _|refine Kd.C_drewN ?_ _|refine Kd.C_drew ?_)));(case aB => exact (by repeat (with_reducible first|exact HB.out|apply below_alloc|apply pw_below_drewN|apply below_drew1)));(case aF => exact (fun k_ hk => Kd.fresh' (Kd.R_lt (by (with_reducible repeat (first|apply Kd.R_alloc|apply Kd.R_drewN|apply Kd.R_drew));exact HO186.out)) k_ hk));(case aO => exact (by (with_reducible repeat (first|apply Kd.R_alloc|apply Kd.R_drewN|apply Kd.R_drew));exact HO192.out));(case aS => exact (below_size (by repeat (with_reducible first|exact HB.out|apply below_alloc|apply pw_below_drewN|apply below_drew1))));(case aL => have:=LMc19.out;omega);intro v194 w62 ho hb hg hat;rw [← Ny193.out] at ho;have n0_:=aM (Kd.R_over' (by (with_reducible repeat (first|apply Kd.R_alloc|apply Kd.R_drewN|apply Kd.R_drew));exact HO183.out) (Kd.R_typed (by (with_reducible repeat (first|apply Kd.R_alloc|apply Kd.R_drewN|apply Kd.R_drew));exact HO192.out)) (by decide) hg);have n1_:=aM (Kd.R_after (ok:=(fun _ => True)) (by (with_reducible repeat (first|apply Kd.R_alloc|apply Kd.R_drewN|apply Kd.R_drew));exact HO186.out) hg hat);have n2_:=aM (hb);have n3_:=aM (ho);clear HO183;clear HO186;clear HB;clear HO192;have HO183:=n0_;have HO186:=n1_;have HB:=n2_;have HO195:=n3_;clear n0_ n1_ n2_ n3_;clear ho hb hg hat;obtain ⟨Ao63,co63,eo63⟩:=Kd.R_slice HO195.out;subst eo63)|((with_reducible refine gate_callee (f:=16) rfl ?_);refine goesL_ (some 48) rfl rfl Try.func16 (by kernel_rfl) rfl #[.slice Ao63 y193.length co63,.int .i64 (l1.length : Int)] rfl (by (try simp only [List.map_toArray,List.map_cons,List.map_nil]);first|done|rfl|(simp only [List.length_drop,List.length_take];rfl)) ?_;(with_reducible refine (vint_Get.calls kj4 _ _ y193 (l1.length : Int) t196 t197 t198 _ ?side1 ?side2 A20.out).mono ?_);(case side1 => repeat (first|exact (Kd.R_reads' HO195.out).2.2|(with_reducible first|refine Kd.C_alloc ?_ _|refine Kd.C_drewN ?_ _|refine Kd.C_drew ?_)));(case side2 => exact (Kd.R_reads' HO195.out).2.1);rintro e w' ⟨rfl,⟨nd,rfl⟩⟩;refine ⟨_,rfl,?_⟩;have q64 : ((ji21) : Int) ≤ ((t184.length : Int) : Int):=of_decide_eq_true (by first|(with_reducible assumption)|assumption);obtain ⟨i064,hi064,_,hsz64,_⟩:=info_parts info5;have hroom64 : t184.length ≤ co59:=(Kd.R_reads' HO186.out).2.1;have hC64 : Kd.C (Kd.int .u8) _ Ao59 t184.length t184:=(Kd.R_reads' HO186.out).2.2;have hcut64:=cut_to (P:=Try.prog) 24 5 .i64 Try.underlying24 hi064 Ao59 t184.length co59 (ji21) (of_decide_eq_true (by first|(with_reducible assumption)|assumption)) q64 hroom64;have hr64:=Kd.C_take (m:=((ji21) : Int).toNat) hC64 (by omega);have hy64 : y199.length = ((ji21) : Int).toNat:=(by rw [Ny199.out,List.length_take];omega);rw [← Ny199.out] at hr64;rw [← hy64] at hcut64;have HR202:=aM hr64;have HC202:=aM (show y199.length ≤ co59 from by omega);clear hr64 hC64 hroom64 hi064 hsz64;have KY64:=aM hy64;clear hy64;have KL64:=aM (show ((ji21) : Int).toNat ≤ t184.length from by omega);replace q64:=eq_true q64)|((with_reducible refine gate_callee (f:=16) rfl ?_);refine goesL_ (some 60) rfl rfl Try.func16 (by kernel_rfl) rfl #[.slice Ao59 y199.length co59,.int .i64 0] rfl (by (try simp only [List.map_toArray,List.map_cons,List.map_nil]);first|done|rfl|(simp only [List.length_drop,List.length_take];rfl)) ?_;(with_reducible refine (vint_Get.calls kj4 _ _ y199 0 t203 t204 t205 _ ?side1 ?side2 A24.out).mono ?_);(case side1 => repeat (first|exact (by repeat (first|(with_reducible exact HR202.out)|(with_reducible first|refine Kd.C_alloc ?_ _|refine Kd.C_drewN ?_ _|refine Kd.C_drew ?_)|exact HR202.out))|(with_reducible first|refine Kd.C_alloc ?_ _|refine Kd.C_drewN ?_ _|refine Kd.C_drew ?_)));(case side2 => exact HC202.out);rintro e w' ⟨rfl,⟨nd,rfl⟩⟩;refine ⟨_,rfl,?_⟩)|((with_reducible refine gate_callee (f:=16) rfl ?_);refine goesL_ (some 66) rfl rfl Try.func16 (by kernel_rfl) rfl #[.slice A2 l2.length c2,.int .i64 0] rfl (by (try simp only [List.map_toArray,List.map_cons,List.map_nil]);first|done|rfl|(simp only [List.length_drop,List.length_take];rfl)) ?_;(with_reducible refine (vint_Get.calls kj4 _ _ l2 0 t206 t207 t208 _ ?side1 ?side2 A25.out).mono ?_);(case side1 => repeat (first|exact (Kd.C_below HR2.out (by repeat (with_reducible first|exact HB.out|apply below_alloc|apply pw_below_drewN|apply below_drew1)))|(with_reducible first|refine Kd.C_alloc ?_ _|refine Kd.C_drewN ?_ _|refine Kd.C_drew ?_)));(case side2 => exact HC2.out);rintro e w' ⟨rfl,⟨nd,rfl⟩⟩;refine ⟨_,rfl,?_⟩))
                  (try (rw [drewN_self w62];generalize hq_ : World.drewN w62 _ = w62;have n0_ : Aside0 (Kd.R (Kd.int .u64) 26 w62 w.heap.size (fun _ => True) (.slice Ao57 y181.length co57) y181):=⟨by rw [← hq_];exact (by (with_reducible repeat (first | apply Kd.R_alloc | apply Kd.R_drewN | apply Kd.R_drew));exact HO183.out)⟩;have n1_ : Aside0 (Kd.R (Kd.int .u8) 5 w62 w.heap.size (fun k_ => some k_ ≠ (.slice Ao63 y193.length co63 : Value).ownBlock) (.slice Ao59 t184.length co59) t184):=⟨by rw [← hq_];exact (by (with_reducible repeat (first | apply Kd.R_alloc | apply Kd.R_drewN | apply Kd.R_drew));exact Kd.R_mono HO186.out (fun _ hk => hk.2))⟩;have n2_ : Aside0 (Kd.R (Kd.int .u8) 5 w62 w.heap.size (fun k_ => some k_ ≠ (.slice Ao59 t184.length co59 : Value).ownBlock) (.slice Ao63 y193.length co63) y193):=⟨by rw [← hq_];exact (by (with_reducible repeat (first | apply Kd.R_alloc | apply Kd.R_drewN | apply Kd.R_drew));exact HO195.out)⟩;have n3_ : Aside0 (Below w.heap.size w w62):=⟨by rw [← hq_];exact (by repeat (first | (with_reducible first | exact HB.out | apply below_alloc | apply pw_below_drewN | apply below_drew1) | exact HB.out))⟩;have n4_ : Aside0 (Kd.C (Kd.int .u8) w62 Ao59 y199.length y199):=⟨by rw [← hq_];exact (by repeat (first | (with_reducible exact HR202.out) | (with_reducible refine Kd.C_alloc ?_ _) | (with_reducible refine Kd.C_drewN ?_ _) | (with_reducible refine Kd.C_drew ?_) | exact HR202.out))⟩;clear HO183 HO186 HO195 HB HR202 hq_;have HO183:=n0_;have HO186:=n1_;have HO195:=n2_;have HB:=n3_;have HR202:=n4_;clear n0_ n1_ n2_ n3_ n4_))
                  have n0_:=aM (Kd.R_drew HO183.out)
                  have n1_:=aM (Kd.R_drew HO186.out)
                  have n2_:=aM (Kd.R_drew HO195.out)
                  have n3_:=aM (Kd.C_drew HR202.out)
                  have n4_:=aM (below_drew1 HB.out)
                  clear HO183
                  clear HO186
                  clear HO195
                  clear HR202
                  clear HB
                  have HO183:=n0_
                  have HO186:=n1_
                  have HO195:=n2_
                  have HR202:=n3_
                  have HB:=n4_
                  clear n0_ n1_ n2_ n3_ n4_
                  obtain ⟨i066,hi066,_,hsz66,_⟩:=info_parts info5
                  obtain ⟨hcut66,hA66,hC66⟩:=print_take_of (P:=Try.prog) (Value.int .u8) 0 24 5 .i64 Try.underlying24 hi066 hsz66 A2 c2 l2 t207 (of_decide_eq_true (by first | (with_reducible assumption) | assumption)) (of_decide_eq_true (by first | (with_reducible assumption) | assumption)) HC2.out
                  have HR215:=aM (Kd.C_of_reads (h1:=fun _ => rfl) (hA66 _ (Kd.reads_of_C HR2.out)))
                  have HC215:=aM hC66
                  clear hA66 hC66 hi066 hsz66
                  refine start_ (n:=12) (S:=fun w' => True) (ds:=[]) #[false,false,false,false,false,false,false,false,false,false,false,false] (by kernel_rfl) rfl rfl trivial (fun hHeld => ?_);refine with_tabW lapidarylaw01_VintOnce.tab13 lapidarylaw01_VintOnce.bits13 (fun HT_ HW_ => ?_)
                  generalize w62.drew = w65 at HO183 HO186 HO195 HR202 HB HR215 hHeld ⊢
                  refine pure_ (i:=0) (N:=some 70) (v:=?_) (a':=?_) #[true,false,false,false,false,false,false,false,false,false,false,false] rfl rfl (any_of HT_.out (by kernel_rfl)) (fun _ _ _ h => h) (Or.inl ⟨by rfl,?_⟩) ?_ ?_
                  rotate_left
                  ·intro w'
                   go_simp
                   with_reducible rfl
                  rotate_left
                  ·simp only [Act.put,sA,sB,sC,i64_w,i32_w]
                   rfl
                  refine pure_ (i:=1) (N:=some 71) (v:=?_) (a':=?_) #[true,true,false,false,false,false,false,false,false,false,false,false] rfl rfl (any_of HT_.out (by kernel_rfl)) (fun _ _ _ h => h) (Or.inl ⟨by rfl,?_⟩) ?_ ?_
                  rotate_left
                  ·intro w'
                   go_simp
                   with_reducible rfl
                  rotate_left
                  ·simp only [Act.put,sA,sB,sC,i64_w,i32_w]
                   rfl
                  refine pure_ (i:=2) (N:=some 72) (v:=?_) (a':=?_) #[true,true,true,false,false,false,false,false,false,false,false,false] rfl rfl (any_of HT_.out (by kernel_rfl)) (fun _ _ _ h => h) (Or.inl ⟨by rfl,?_⟩) ?_ ?_
                  rotate_left
                  ·intro w'
                   go_simp
                   with_reducible rfl
                  rotate_left
                  ·simp only [Act.put,sA,sB,sC,i64_w,i32_w]
                   rfl
                  refine pure_ (i:=3) (N:=some 73) (v:=?_) (a':=?_) #[true,true,true,true,false,false,false,false,false,false,false,false] rfl rfl (any_of HT_.out (by kernel_rfl)) (fun _ _ _ h => h) (Or.inl ⟨by rfl,?_⟩) ?_ ?_
                  rotate_left
                  ·intro w'
                   go_simp
                   with_reducible rfl
                  rotate_left
                  ·simp only [Act.put,sA,sB,sC,i64_w,i32_w]
                   rfl
                  refine pure_ (i:=6) (N:=some 76) (v:=?_) (a':=?_) #[true,true,true,true,false,false,true,false,false,false,false,false] rfl rfl (any_of HT_.out (by kernel_rfl)) (fun _ _ _ h => h) (Or.inl ⟨by rfl,?_⟩) ?_ ?_
                  rotate_left
                  ·intro w'
                   go_simp
                   with_reducible rfl
                  rotate_left
                  ·simp only [Act.put,sA,sB,sC,i64_w,i32_w]
                   rfl
                  refine pure_ (i:=7) (N:=some 77) (v:=?_) (a':=?_) #[true,true,true,true,false,false,true,true,false,false,false,false] rfl rfl (any_of HT_.out (by kernel_rfl)) (fun _ _ _ h => h) (Or.inl ⟨by rfl,?_⟩) ?_ ?_
                  rotate_left
                  ·intro w'
                   go_simp
                   with_reducible rfl
                  rotate_left
                  ·simp only [Act.put,sA,sB,sC,i64_w,i32_w]
                   rfl
                  refine pure_ (i:=8) (N:=some 78) (v:=?_) (a':=?_) #[true,true,true,true,false,false,true,true,true,false,false,false] rfl rfl (any_of HT_.out (by kernel_rfl)) (fun _ _ _ h => h) (Or.inl ⟨by rfl,?_⟩) ?_ ?_
                  rotate_left
                  ·intro w'
                   go_simp
                   with_reducible rfl
                  rotate_left
                  ·simp only [Act.put,sA,sB,sC,i64_w,i32_w]
                   rfl
                  refine one_ (i:=4) (N:=some 74) #[true,true,true,true,true,false,true,true,true,false,false,false] rfl rfl (one_of HT_.out (by kernel_rfl)) (by decide) (fun K hK => ?_)
                  refine Kd.R_lit_step (Kd.int .u64) _ 26 ?hg (N:=74) ?hd (xs:=([t206] : List Int)) (inner:=[.int .u64 t206]) (ok:=fun _ => True) (okp:=fun _ => True) ?hr ?hp (fun _ hk => hk) trivial (Below.refl _ _) (Nat.le_refl _) (by simp) ?_;(case hd => rfl);(case hg => rfl);(case hr => first | (go_simp;done) | (go_simp;rfl));(case hp => exact (Reps.one (show Kd.M (Kd.int .u64) _ _ _ t206 [.int .u64 t206] from rfl) (Reps.none _ _)))
                  intro v210 w67 ho68 hb hg_ hnew_
                  clear hg_ hnew_
                  (first | rw [← Ny209.out] at ho68 | (simp only [Int.reduceToNat] at ho68;rw [← Ny209.out] at ho68))
                  have n0_:=aM (Kd.R_elder' (by (with_reducible repeat (first | apply Kd.R_alloc | apply Kd.R_drewN | apply Kd.R_drew));exact HO183.out) (Kd.R_base ho68) hb)
                  have n1_:=aM (Kd.R_below (by (with_reducible repeat (first | apply Kd.R_alloc | apply Kd.R_drewN | apply Kd.R_drew));exact HO186.out) hb)
                  have n2_:=aM (Kd.R_below (by (with_reducible repeat (first | apply Kd.R_alloc | apply Kd.R_drewN | apply Kd.R_drew));exact HO195.out) hb)
                  have n3_:=aM (Kd.R_lower (Kd.R_new' ho68 (Kd.R_lt (by (with_reducible repeat (first | apply Kd.R_alloc | apply Kd.R_drewN | apply Kd.R_drew));exact HO183.out))) (below_size (by repeat (first | (with_reducible first | exact HB.out | apply below_alloc | apply pw_below_drewN | apply below_drew1) | exact HB.out))))
                  have n4_:=aM (Kd.C_below (by repeat (first | (with_reducible exact HR202.out) | (with_reducible refine Kd.C_alloc ?_ _) | (with_reducible refine Kd.C_drewN ?_ _) | (with_reducible refine Kd.C_drew ?_) | exact HR202.out)) hb)
                  have n5_:=aM (below_step (by repeat (first | (with_reducible first | exact HB.out | apply below_alloc | apply pw_below_drewN | apply below_drew1) | exact HB.out)) hb)
                  clear HO183
                  clear HO186
                  clear HO195
                  clear HR202
                  clear HB
                  have HO183:=n0_
                  have HO186:=n1_
                  have HO195:=n2_
                  have HO211:=n3_
                  have HR202:=n4_
                  have HB:=n5_
                  clear n0_ n1_ n2_ n3_ n4_ n5_
                  clear hb ho68
                  obtain ⟨Ao69,co69,eo69⟩:=Kd.R_slice HO211.out
                  (first | subst eo69 | (injection eo69 with f1_ f2_ f3_;have f4_:=f1_.symm;have f5_:=f3_.symm;clear f1_ f2_ f3_;subst f4_;subst f5_))
                  refine hK.out _ _ trivial (fun hHeld => ?_)
                  clear hK K
                  refine norm_ (a':=?_) ?_ ?_
                  rotate_left
                  ·show Act.put _ (some 74) _ = _
                   simp only [Act.put,sA,sB,sC,i64_w,i32_w]
                   rfl
                  refine one_ (i:=5) (N:=some 75) #[true,true,true,true,true,true,true,true,true,false,false,false] rfl rfl (one_of HT_.out (by kernel_rfl)) (by decide) (fun K hK => ?_)
                  refine goes_ Try.func15 (by kernel_rfl) rfl #[.slice Ao69 y209.length co69] (by rfl) rfl rfl (by (try simp only [List.map_toArray,List.map_cons,List.map_nil]);first | done | rfl | (simp only [List.length_drop,List.length_take];rfl)) ?_
                  with_reducible refine (vint_Put.calls kj4 _ _ y209 t212 _ ?side1 ?side2 A27.out).mono ?_
                  (case side1 => repeat (first|exact (Kd.R_reads' HO211.out).2.2|(with_reducible first|refine Kd.C_alloc ?_ _|refine Kd.C_drewN ?_ _|refine Kd.C_drew ?_)))
                  (case side2 => exact (Kd.R_reads' HO211.out).2.1)
                  rintro e w70 ⟨v213,rfl,ho0,hb⟩
                  refine ⟨_,rfl,?_⟩
                  have n0_:=aM (Kd.R_below (by (with_reducible repeat (first | apply Kd.R_alloc | apply Kd.R_drewN | apply Kd.R_drew));exact HO183.out) hb)
                  have n1_:=aM (Kd.R_elder' (by (with_reducible repeat (first | apply Kd.R_alloc | apply Kd.R_drewN | apply Kd.R_drew));exact HO186.out) (Kd.R_base ho0) hb)
                  have n2_:=aM (Kd.R_elder' (by (with_reducible repeat (first | apply Kd.R_alloc | apply Kd.R_drewN | apply Kd.R_drew));exact HO195.out) (Kd.R_base ho0) hb)
                  have n3_:=aM (Kd.R_below (by (with_reducible repeat (first | apply Kd.R_alloc | apply Kd.R_drewN | apply Kd.R_drew));exact HO211.out) hb)
                  have n4_:=aM (Kd.R_lower (Kd.R_new' (Kd.R_new' ho0 (Kd.R_lt (by (with_reducible repeat (first | apply Kd.R_alloc | apply Kd.R_drewN | apply Kd.R_drew));exact HO186.out))) (Kd.R_lt (by (with_reducible repeat (first | apply Kd.R_alloc | apply Kd.R_drewN | apply Kd.R_drew));exact HO195.out))) (below_size (by repeat (first | (with_reducible first | exact HB.out | apply below_alloc | apply pw_below_drewN | apply below_drew1) | exact HB.out))))
                  have n5_:=aM (Kd.C_below (by repeat (first | (with_reducible exact HR202.out) | (with_reducible refine Kd.C_alloc ?_ _) | (with_reducible refine Kd.C_drewN ?_ _) | (with_reducible refine Kd.C_drew ?_) | exact HR202.out)) hb)
                  have n6_:=aM (below_step (by repeat (first | (with_reducible first | exact HB.out | apply below_alloc | apply pw_below_drewN | apply below_drew1) | exact HB.out)) hb)
                  clear HO183
                  clear HO186
                  clear HO195
                  clear HO211
                  clear HR202
                  clear HB
                  have HO183:=n0_
                  have HO186:=n1_
                  have HO195:=n2_
                  have HO211:=n3_
                  have HO214:=n4_
                  have HR202:=n5_
                  have HB:=n6_
                  clear n0_ n1_ n2_ n3_ n4_ n5_ n6_
                  (try clear hb)
                  (try clear hb2)
                  (try clear hk)
                  (try clear hi)
                  (try clear ho0)
                  obtain ⟨Ao71,co71,eo71⟩:=Kd.R_slice HO214.out
                  (first | subst eo71 | (injection eo71 with f1_ f2_ f3_;have f4_:=f1_.symm;have f5_:=f3_.symm;clear f1_ f2_ f3_;subst f4_;subst f5_))
                  refine hK.out _ _ trivial (fun hHeld => ?_)
                  clear hK K
                  refine norm_ (a':=?_) ?_ ?_
                  rotate_left
                  ·show Act.put _ (some 75) _ = _
                   simp only [Act.put,sA,sB,sC,i64_w,i32_w]
                   rfl
                  refine one_ (i:=9) (N:=some 79) #[true,true,true,true,true,true,true,true,true,true,false,false] rfl rfl (one_of HT_.out (by kernel_rfl)) (by decide) (fun K hK => ?_)
                  refine goes_ Try.func14 (by kernel_rfl) rfl #[.slice Ao71 t212.length co71,.slice A2 (l2.take (t207 : Int).toNat).length c2] (by rfl) rfl rfl (by (try simp only [List.map_toArray,List.map_cons,List.map_nil]);first | done | (rw [show (l2.take (t207 : Int).toNat).length = t207.toNat from (by rw [List.length_take];have h_ : (t207 : Int) ≤ (l2.length : Int):=of_decide_eq_true (by first | (with_reducible assumption) | assumption);omega)]<;>rfl) | rfl | (simp only [List.length_drop,List.length_take];rfl)) ?_
                  with_reducible refine (lapidaryref00_Same.calls _ _ t212 _ _ (l2.take (t207 : Int).toNat) true _ ?side1 ?side2 ?side3 ?side4 A30.out).mono ?_
                  (case side1 => repeat (first|exact (Kd.R_reads' HO214.out).2.2|(with_reducible first|refine Kd.C_alloc ?_ _|refine Kd.C_drewN ?_ _|refine Kd.C_drew ?_)))
                  (case side2 => exact (Kd.R_reads' HO214.out).2.1)
                  (case side3 => repeat (first|exact (Kd.C_below HR215.out HB.out)|(with_reducible first|refine Kd.C_alloc ?_ _|refine Kd.C_drewN ?_ _|refine Kd.C_drew ?_)))
                  (case side4 => exact HC215.out)
                  rintro e w' ⟨rfl,⟨nd,rfl⟩⟩
                  refine ⟨_,rfl,?_⟩
                  refine hK.out _ _ trivial (fun hHeld => ?_)
                  clear hK K
                  refine norm_ (a':=?_) ?_ ?_
                  rotate_left
                  ·show Act.put _ (some 79) _ = _
                   simp only [Act.put,sA,sB,sC,i64_w,i32_w]
                   rfl
                  refine pure_ (i:=10) (N:=some 80) (v:=?_) (a':=?_) #[true,true,true,true,true,true,true,true,true,true,true,false] rfl rfl (any_of HT_.out (by kernel_rfl)) (fun _ _ _ h => h) (Or.inl ⟨by rfl,?_⟩) ?_ ?_
                  rotate_left
                  ·intro w'
                   go_simp
                   with_reducible rfl
                  rotate_left
                  ·simp only [Act.put,sA,sB,sC,i64_w,i32_w]
                   rfl
                  refine pure_ (i:=11) (N:=some 81) (v:=?_) (a':=?_) #[true,true,true,true,true,true,true,true,true,true,true,true] rfl rfl (any_of HT_.out (by kernel_rfl)) (fun _ _ _ h => h) (Or.inl ⟨by rfl,?_⟩) ?_ ?_
                  rotate_left
                  ·intro w'
                   go_simp
                   with_reducible rfl
                  rotate_left
                  ·simp only [Act.put,sA,sB,sC,i64_w,i32_w]
                   rfl
                  refine done_ (done_of HT_.out (by kernel_rfl)) ?_
                  try go_wp2
                  go_ret
                  exact ⟨by first | rfl | (simp [errW_none,errW_some]<;>rfl) | (simp only [← hji21];first | rfl | (simp [errW_none,errW_some]<;>rfl)) | (simp [*,errW_none,errW_some]<;>rfl),by repeat (first | (with_reducible first | exact HB.out | apply below_alloc | apply pw_below_drewN | apply below_drew1) | exact HB.out)⟩
                ·rw [if_neg c34] at H
                 have c34b0 : (t198 == 0) = false:=beq_eq_false_iff_ne.mpr c34
                 have c34b1 : (t198 != 0) = true:=bne_iff_ne.mpr c34
                 obtain rfl:=Option.some.inj H
                 try go_wp2_with (first|((with_reducible refine gate_dst (N:=30) rfl ?_);(try (refine gate_guard (by rfl) ?_;dsimp only));refine Kd.R_lit (Kd.int .u64) _ 26 ?hg (N:=30) ?hd (xs:=([a0] : List Int)) (inner:=[.int .u64 a0]) (ok:=fun _ => True) (okp:=fun _ => True) ?hr ?hp (fun _ hk => hk) trivial (Below.refl _ _) (Nat.le_refl _) (by simp) ?_;(case hd => rfl);(case hg => rfl);(case hr => first|(go_simp;done)|(go_simp;rfl));(case hp => exact (Reps.one (show Kd.M (Kd.int .u64) _ _ _ a0 [.int .u64 a0] from rfl) (Reps.none _ _)));intro v182 w72 ho73 hb hg_ hnew_;clear hg_ hnew_;(first|rw [← Ny181.out] at ho73|(simp only [Int.reduceToNat] at ho73;rw [← Ny181.out] at ho73));have n0_:=aM (Kd.R_lower ho73 (below_size (by repeat (with_reducible first|exact HB.out|apply below_alloc|apply pw_below_drewN|apply below_drew1))));have n1_:=aM (below_step (by repeat (with_reducible first|exact HB.out|apply below_alloc|apply pw_below_drewN|apply below_drew1)) hb);clear HB;have HO183:=n0_;have HB:=n1_;clear n0_ n1_;clear hb ho73;obtain ⟨Ao74,co74,eo74⟩:=Kd.R_slice HO183.out;subst eo74)|((with_reducible refine gate_callee (f:=15) rfl ?_);refine goesL_ (some 31) rfl rfl Try.func15 (by kernel_rfl) rfl #[.slice Ao74 y181.length co74] rfl (by (try simp only [List.map_toArray,List.map_cons,List.map_nil]);first|done|rfl|(simp only [List.length_drop,List.length_take];rfl)) ?_;(with_reducible refine (vint_Put.calls kj4 _ _ y181 t184 _ ?side1 ?side2 A10.out).mono ?_);(case side1 => repeat (first|exact (Kd.R_reads' HO183.out).2.2|(with_reducible first|refine Kd.C_alloc ?_ _|refine Kd.C_drewN ?_ _|refine Kd.C_drew ?_)));(case side2 => exact (Kd.R_reads' HO183.out).2.1);rintro e w75 ⟨v185,rfl,ho0,hb⟩;refine ⟨_,rfl,?_⟩;have n0_:=aM (Kd.R_below (by (with_reducible repeat (first|apply Kd.R_alloc|apply Kd.R_drewN|apply Kd.R_drew));exact HO183.out) hb);have n1_:=aM (Kd.R_lower ho0 (below_size (by repeat (with_reducible first|exact HB.out|apply below_alloc|apply pw_below_drewN|apply below_drew1))));have n2_:=aM (below_step (by repeat (with_reducible first|exact HB.out|apply below_alloc|apply pw_below_drewN|apply below_drew1)) hb);clear HO183;clear HB;have HO183:=n0_;have HO186:=n1_;have HB:=n2_;clear n0_ n1_ n2_;(try clear hb);(try clear hb2);(try clear hk);(try clear hi);(try clear ho0);obtain ⟨Ao76,co76,eo76⟩:=Kd.R_slice HO186.out;subst eo76)|((with_reducible refine gate_builtin (b:=.append) (xs:=#[.tmp 35,.tmp 36]) rfl ?_);(try (refine gate_guard (by rfl) ?_;dsimp only));at_builtin;refine Kd.R_append_rows (Kd.int .u8) (w0:=w) w.heap.size rfl (.tmp 35) (.tmp 36) 24 5 (.int .u8 0) 1 rfl Try.underlying24 info5 rfl (by decide) (by omega) (.slice none 0 0) ([] : List Int) l1 _ _ _ (fun k_ => some k_ ≠ (.slice Ao76 t184.length co76 : Value).ownBlock) (fun _ => False) rfl rfl ?aO ?aR (fun _ _ h => h) (fun _ h => h.elim) ?aF ?aB ?aS ?aL ?_;(case aR => repeat (first|exact (Kd.C_below HR1.out HB.out)|(with_reducible first|refine Kd.C_alloc ?_ _|refine Kd.C_drewN ?_ _|refine Kd.C_drew ?_)));(case aB => exact (by repeat (with_reducible first|exact HB.out|apply below_alloc|apply pw_below_drewN|apply below_drew1)));(case aF => exact (fun k_ hk => Kd.fresh' (Kd.R_lt (by (with_reducible repeat (first|apply Kd.R_alloc|apply Kd.R_drewN|apply Kd.R_drew));exact HO186.out)) k_ hk));(case aO => exact ((Kd.R_nil _ _ _ _ (fun k_ => some k_ ≠ (.slice Ao76 t184.length co76 : Value).ownBlock))));(case aS => exact (below_size (by repeat (with_reducible first|exact HB.out|apply below_alloc|apply pw_below_drewN|apply below_drew1))));(case aL => have:=LMc17.out;omega);intro v188 w77 ho hb hg hat;rw [← Ny187.out] at ho;have n0_:=aM (Kd.R_grown (by (with_reducible repeat (first|apply Kd.R_alloc|apply Kd.R_drewN|apply Kd.R_drew));exact HO183.out) hg (fun _ _ => by simp [Value.ownBlock]));have n1_:=aM (Kd.R_after (Kd.R_apart_nil (by (with_reducible repeat (first|apply Kd.R_alloc|apply Kd.R_drewN|apply Kd.R_drew));exact HO186.out)) hg hat);have n2_:=aM (hb);have n3_:=aM (ho);clear HO183;clear HO186;clear HB;have HO183:=n0_;have HO186:=n1_;have HB:=n2_;have HO189:=n3_;clear n0_ n1_ n2_ n3_;clear ho hb hg hat)|((with_reducible refine gate_builtin (b:=.append) (xs:=#[.tmp 38,.tmp 39]) rfl ?_);(try (refine gate_guard (by rfl) ?_;dsimp only));at_builtin;refine Kd.R_append_rows (Kd.int .u8) (w0:=w) w.heap.size rfl (.tmp 38) (.tmp 39) 24 5 (.int .u8 0) 1 rfl Try.underlying24 info5 rfl (by decide) (by omega) v188 y187 t184 _ _ _ (fun k_ => some k_ ≠ (.slice Ao76 t184.length co76 : Value).ownBlock) (fun _ => False) rfl rfl ?aO ?aR (fun _ _ h => h) (fun _ h => h.elim) ?aF ?aB ?aS ?aL ?_;(case aR => repeat (first|exact (Kd.R_reads' HO186.out).2.2|(with_reducible first|refine Kd.C_alloc ?_ _|refine Kd.C_drewN ?_ _|refine Kd.C_drew ?_)));(case aB => exact (by repeat (with_reducible first|exact HB.out|apply below_alloc|apply pw_below_drewN|apply below_drew1)));(case aF => exact (fun k_ hk => Kd.fresh' (Kd.R_lt (by (with_reducible repeat (first|apply Kd.R_alloc|apply Kd.R_drewN|apply Kd.R_drew));exact HO186.out)) k_ hk));(case aO => exact (by (with_reducible repeat (first|apply Kd.R_alloc|apply Kd.R_drewN|apply Kd.R_drew));exact HO189.out));(case aS => exact (below_size (by repeat (with_reducible first|exact HB.out|apply below_alloc|apply pw_below_drewN|apply below_drew1))));(case aL => have:=LMc18.out;omega);intro v191 w78 ho hb hg hat;rw [← Ny190.out] at ho;have n0_:=aM (Kd.R_over' (by (with_reducible repeat (first|apply Kd.R_alloc|apply Kd.R_drewN|apply Kd.R_drew));exact HO183.out) (Kd.R_typed (by (with_reducible repeat (first|apply Kd.R_alloc|apply Kd.R_drewN|apply Kd.R_drew));exact HO189.out)) (by decide) hg);have n1_:=aM (Kd.R_after (ok:=(fun _ => True)) (by (with_reducible repeat (first|apply Kd.R_alloc|apply Kd.R_drewN|apply Kd.R_drew));exact HO186.out) hg hat);have n2_:=aM (hb);have n3_:=aM (ho);clear HO183;clear HO186;clear HB;clear HO189;have HO183:=n0_;have HO186:=n1_;have HB:=n2_;have HO192:=n3_;clear n0_ n1_ n2_ n3_;clear ho hb hg hat)|((with_reducible refine gate_builtin (b:=.append) (xs:=#[.tmp 41,.tmp 42]) rfl ?_);(try (refine gate_guard (by rfl) ?_;dsimp only));at_builtin;refine Kd.R_append_rows (Kd.int .u8) (w0:=w) w.heap.size rfl (.tmp 41) (.tmp 42) 24 5 (.int .u8 0) 1 rfl Try.underlying24 info5 rfl (by decide) (by omega) v191 y190 l2 _ _ _ (fun k_ => some k_ ≠ (.slice Ao76 t184.length co76 : Value).ownBlock) (fun _ => False) rfl rfl ?aO ?aR (fun _ _ h => h) (fun _ h => h.elim) ?aF ?aB ?aS ?aL ?_;(case aR => repeat (first|exact (Kd.C_below HR2.out HB.out)|(with_reducible first|refine Kd.C_alloc ?_ _|refine Kd.C_drewN ?_ _|refine Kd.C_drew ?_)));(case aB => exact (by repeat (with_reducible first|exact HB.out|apply below_alloc|apply pw_below_drewN|apply below_drew1)));(case aF => exact (fun k_ hk => Kd.fresh' (Kd.R_lt (by (with_reducible repeat (first|apply Kd.R_alloc|apply Kd.R_drewN|apply Kd.R_drew));exact HO186.out)) k_ hk));(case aO => exact (by (with_reducible repeat (first|apply Kd.R_alloc|apply Kd.R_drewN|apply Kd.R_drew));exact HO192.out));(case aS => exact (below_size (by repeat (with_reducible first|exact HB.out|apply below_alloc|apply pw_below_drewN|apply below_drew1))));(case aL => have:=LMc19.out;omega);intro v194 w79 ho hb hg hat;rw [← Ny193.out] at ho;have n0_:=aM (Kd.R_over' (by (with_reducible repeat (first|apply Kd.R_alloc|apply Kd.R_drewN|apply Kd.R_drew));exact HO183.out) (Kd.R_typed (by (with_reducible repeat (first|apply Kd.R_alloc|apply Kd.R_drewN|apply Kd.R_drew));exact HO192.out)) (by decide) hg);have n1_:=aM (Kd.R_after (ok:=(fun _ => True)) (by (with_reducible repeat (first|apply Kd.R_alloc|apply Kd.R_drewN|apply Kd.R_drew));exact HO186.out) hg hat);have n2_:=aM (hb);have n3_:=aM (ho);clear HO183;clear HO186;clear HB;clear HO192;have HO183:=n0_;have HO186:=n1_;have HB:=n2_;have HO195:=n3_;clear n0_ n1_ n2_ n3_;clear ho hb hg hat;obtain ⟨Ao80,co80,eo80⟩:=Kd.R_slice HO195.out;subst eo80)|((with_reducible refine gate_callee (f:=16) rfl ?_);refine goesL_ (some 48) rfl rfl Try.func16 (by kernel_rfl) rfl #[.slice Ao80 y193.length co80,.int .i64 (l1.length : Int)] rfl (by (try simp only [List.map_toArray,List.map_cons,List.map_nil]);first|done|rfl|(simp only [List.length_drop,List.length_take];rfl)) ?_;(with_reducible refine (vint_Get.calls kj4 _ _ y193 (l1.length : Int) t196 t197 t198 _ ?side1 ?side2 A20.out).mono ?_);(case side1 => repeat (first|exact (Kd.R_reads' HO195.out).2.2|(with_reducible first|refine Kd.C_alloc ?_ _|refine Kd.C_drewN ?_ _|refine Kd.C_drew ?_)));(case side2 => exact (Kd.R_reads' HO195.out).2.1);rintro e w' ⟨rfl,⟨nd,rfl⟩⟩;refine ⟨_,rfl,?_⟩;have q81 : ((ji21) : Int) ≤ ((t184.length : Int) : Int):=of_decide_eq_true (by first|(with_reducible assumption)|assumption);obtain ⟨i081,hi081,_,hsz81,_⟩:=info_parts info5;have hroom81 : t184.length ≤ co76:=(Kd.R_reads' HO186.out).2.1;have hC81 : Kd.C (Kd.int .u8) _ Ao76 t184.length t184:=(Kd.R_reads' HO186.out).2.2;have hcut81:=cut_to (P:=Try.prog) 24 5 .i64 Try.underlying24 hi081 Ao76 t184.length co76 (ji21) (of_decide_eq_true (by first|(with_reducible assumption)|assumption)) q81 hroom81;have hr81:=Kd.C_take (m:=((ji21) : Int).toNat) hC81 (by omega);have hy81 : y199.length = ((ji21) : Int).toNat:=(by rw [Ny199.out,List.length_take];omega);rw [← Ny199.out] at hr81;rw [← hy81] at hcut81;have HR202:=aM hr81;have HC202:=aM (show y199.length ≤ co76 from by omega);clear hr81 hC81 hroom81 hi081 hsz81;have KY81:=aM hy81;clear hy81;have KL81:=aM (show ((ji21) : Int).toNat ≤ t184.length from by omega);replace q81:=eq_true q81)|((with_reducible refine gate_callee (f:=16) rfl ?_);refine goesL_ (some 60) rfl rfl Try.func16 (by kernel_rfl) rfl #[.slice Ao76 y199.length co76,.int .i64 0] rfl (by (try simp only [List.map_toArray,List.map_cons,List.map_nil]);first|done|rfl|(simp only [List.length_drop,List.length_take];rfl)) ?_;(with_reducible refine (vint_Get.calls kj4 _ _ y199 0 t203 t204 t205 _ ?side1 ?side2 A24.out).mono ?_);(case side1 => repeat (first|exact (by repeat (first|(with_reducible exact HR202.out)|(with_reducible first|refine Kd.C_alloc ?_ _|refine Kd.C_drewN ?_ _|refine Kd.C_drew ?_)|exact HR202.out))|(with_reducible first|refine Kd.C_alloc ?_ _|refine Kd.C_drewN ?_ _|refine Kd.C_drew ?_)));(case side2 => exact HC202.out);rintro e w' ⟨rfl,⟨nd,rfl⟩⟩;refine ⟨_,rfl,?_⟩)|((with_reducible refine gate_callee (f:=16) rfl ?_);refine goesL_ (some 66) rfl rfl Try.func16 (by kernel_rfl) rfl #[.slice A2 l2.length c2,.int .i64 0] rfl (by (try simp only [List.map_toArray,List.map_cons,List.map_nil]);first|done|rfl|(simp only [List.length_drop,List.length_take];rfl)) ?_;(with_reducible refine (vint_Get.calls kj4 _ _ l2 0 t206 t207 t208 _ ?side1 ?side2 A25.out).mono ?_);(case side1 => repeat (first|exact (Kd.C_below HR2.out (by repeat (with_reducible first|exact HB.out|apply below_alloc|apply pw_below_drewN|apply below_drew1)))|(with_reducible first|refine Kd.C_alloc ?_ _|refine Kd.C_drewN ?_ _|refine Kd.C_drew ?_)));(case side2 => exact HC2.out);rintro e w' ⟨rfl,⟨nd,rfl⟩⟩;refine ⟨_,rfl,?_⟩))
                 (try (rw [drewN_self w79];generalize hq_ : World.drewN w79 _ = w79;have n0_ : Aside0 (Kd.R (Kd.int .u64) 26 w79 w.heap.size (fun _ => True) (.slice Ao74 y181.length co74) y181):=⟨by rw [← hq_];exact (by (with_reducible repeat (first | apply Kd.R_alloc | apply Kd.R_drewN | apply Kd.R_drew));exact HO183.out)⟩;have n1_ : Aside0 (Kd.R (Kd.int .u8) 5 w79 w.heap.size (fun k_ => some k_ ≠ (.slice Ao80 y193.length co80 : Value).ownBlock) (.slice Ao76 t184.length co76) t184):=⟨by rw [← hq_];exact (by (with_reducible repeat (first | apply Kd.R_alloc | apply Kd.R_drewN | apply Kd.R_drew));exact Kd.R_mono HO186.out (fun _ hk => hk.2))⟩;have n2_ : Aside0 (Kd.R (Kd.int .u8) 5 w79 w.heap.size (fun k_ => some k_ ≠ (.slice Ao76 t184.length co76 : Value).ownBlock) (.slice Ao80 y193.length co80) y193):=⟨by rw [← hq_];exact (by (with_reducible repeat (first | apply Kd.R_alloc | apply Kd.R_drewN | apply Kd.R_drew));exact HO195.out)⟩;have n3_ : Aside0 (Below w.heap.size w w79):=⟨by rw [← hq_];exact (by repeat (first | (with_reducible first | exact HB.out | apply below_alloc | apply pw_below_drewN | apply below_drew1) | exact HB.out))⟩;have n4_ : Aside0 (Kd.C (Kd.int .u8) w79 Ao76 y199.length y199):=⟨by rw [← hq_];exact (by repeat (first | (with_reducible exact HR202.out) | (with_reducible refine Kd.C_alloc ?_ _) | (with_reducible refine Kd.C_drewN ?_ _) | (with_reducible refine Kd.C_drew ?_) | exact HR202.out))⟩;clear HO183 HO186 HO195 HB HR202 hq_;have HO183:=n0_;have HO186:=n1_;have HO195:=n2_;have HB:=n3_;have HR202:=n4_;clear n0_ n1_ n2_ n3_ n4_))
                 have n0_:=aM (Kd.R_drew HO183.out)
                 have n1_:=aM (Kd.R_drew HO186.out)
                 have n2_:=aM (Kd.R_drew HO195.out)
                 have n3_:=aM (Kd.C_drew HR202.out)
                 have n4_:=aM (below_drew1 HB.out)
                 clear HO183
                 clear HO186
                 clear HO195
                 clear HR202
                 clear HB
                 have HO183:=n0_
                 have HO186:=n1_
                 have HO195:=n2_
                 have HR202:=n3_
                 have HB:=n4_
                 clear n0_ n1_ n2_ n3_ n4_
                 obtain ⟨i083,hi083,_,hsz83,_⟩:=info_parts info5
                 obtain ⟨hcut83,hA83,hC83⟩:=print_take_of (P:=Try.prog) (Value.int .u8) 0 24 5 .i64 Try.underlying24 hi083 hsz83 A2 c2 l2 t207 (of_decide_eq_true (by first | (with_reducible assumption) | assumption)) (of_decide_eq_true (by first | (with_reducible assumption) | assumption)) HC2.out
                 have HR215:=aM (Kd.C_of_reads (h1:=fun _ => rfl) (hA83 _ (Kd.reads_of_C HR2.out)))
                 have HC215:=aM hC83
                 clear hA83 hC83 hi083 hsz83
                 refine start_ (n:=12) (S:=fun w' => True) (ds:=[]) #[false,false,false,false,false,false,false,false,false,false,false,false] (by kernel_rfl) rfl rfl trivial (fun hHeld => ?_);refine with_tabW lapidarylaw01_VintOnce.tab13 lapidarylaw01_VintOnce.bits13 (fun HT_ HW_ => ?_)
                 generalize w79.drew = w82 at HO183 HO186 HO195 HR202 HB HR215 hHeld ⊢
                 refine pure_ (i:=0) (N:=some 70) (v:=?_) (a':=?_) #[true,false,false,false,false,false,false,false,false,false,false,false] rfl rfl (any_of HT_.out (by kernel_rfl)) (fun _ _ _ h => h) (Or.inl ⟨by rfl,?_⟩) ?_ ?_
                 rotate_left
                 ·intro w'
                  go_simp
                  with_reducible rfl
                 rotate_left
                 ·simp only [Act.put,sA,sB,sC,i64_w,i32_w]
                  rfl
                 refine pure_ (i:=1) (N:=some 71) (v:=?_) (a':=?_) #[true,true,false,false,false,false,false,false,false,false,false,false] rfl rfl (any_of HT_.out (by kernel_rfl)) (fun _ _ _ h => h) (Or.inl ⟨by rfl,?_⟩) ?_ ?_
                 rotate_left
                 ·intro w'
                  go_simp
                  with_reducible rfl
                 rotate_left
                 ·simp only [Act.put,sA,sB,sC,i64_w,i32_w]
                  rfl
                 refine pure_ (i:=2) (N:=some 72) (v:=?_) (a':=?_) #[true,true,true,false,false,false,false,false,false,false,false,false] rfl rfl (any_of HT_.out (by kernel_rfl)) (fun _ _ _ h => h) (Or.inl ⟨by rfl,?_⟩) ?_ ?_
                 rotate_left
                 ·intro w'
                  go_simp
                  with_reducible rfl
                 rotate_left
                 ·simp only [Act.put,sA,sB,sC,i64_w,i32_w]
                  rfl
                 refine pure_ (i:=3) (N:=some 73) (v:=?_) (a':=?_) #[true,true,true,true,false,false,false,false,false,false,false,false] rfl rfl (any_of HT_.out (by kernel_rfl)) (fun _ _ _ h => h) (Or.inl ⟨by rfl,?_⟩) ?_ ?_
                 rotate_left
                 ·intro w'
                  go_simp
                  with_reducible rfl
                 rotate_left
                 ·simp only [Act.put,sA,sB,sC,i64_w,i32_w]
                  rfl
                 refine pure_ (i:=6) (N:=some 76) (v:=?_) (a':=?_) #[true,true,true,true,false,false,true,false,false,false,false,false] rfl rfl (any_of HT_.out (by kernel_rfl)) (fun _ _ _ h => h) (Or.inl ⟨by rfl,?_⟩) ?_ ?_
                 rotate_left
                 ·intro w'
                  go_simp
                  with_reducible rfl
                 rotate_left
                 ·simp only [Act.put,sA,sB,sC,i64_w,i32_w]
                  rfl
                 refine pure_ (i:=7) (N:=some 77) (v:=?_) (a':=?_) #[true,true,true,true,false,false,true,true,false,false,false,false] rfl rfl (any_of HT_.out (by kernel_rfl)) (fun _ _ _ h => h) (Or.inl ⟨by rfl,?_⟩) ?_ ?_
                 rotate_left
                 ·intro w'
                  go_simp
                  with_reducible rfl
                 rotate_left
                 ·simp only [Act.put,sA,sB,sC,i64_w,i32_w]
                  rfl
                 refine pure_ (i:=8) (N:=some 78) (v:=?_) (a':=?_) #[true,true,true,true,false,false,true,true,true,false,false,false] rfl rfl (any_of HT_.out (by kernel_rfl)) (fun _ _ _ h => h) (Or.inl ⟨by rfl,?_⟩) ?_ ?_
                 rotate_left
                 ·intro w'
                  go_simp
                  with_reducible rfl
                 rotate_left
                 ·simp only [Act.put,sA,sB,sC,i64_w,i32_w]
                  rfl
                 refine one_ (i:=4) (N:=some 74) #[true,true,true,true,true,false,true,true,true,false,false,false] rfl rfl (one_of HT_.out (by kernel_rfl)) (by decide) (fun K hK => ?_)
                 refine Kd.R_lit_step (Kd.int .u64) _ 26 ?hg (N:=74) ?hd (xs:=([t206] : List Int)) (inner:=[.int .u64 t206]) (ok:=fun _ => True) (okp:=fun _ => True) ?hr ?hp (fun _ hk => hk) trivial (Below.refl _ _) (Nat.le_refl _) (by simp) ?_;(case hd => rfl);(case hg => rfl);(case hr => first | (go_simp;done) | (go_simp;rfl));(case hp => exact (Reps.one (show Kd.M (Kd.int .u64) _ _ _ t206 [.int .u64 t206] from rfl) (Reps.none _ _)))
                 intro v210 w84 ho85 hb hg_ hnew_
                 clear hg_ hnew_
                 (first | rw [← Ny209.out] at ho85 | (simp only [Int.reduceToNat] at ho85;rw [← Ny209.out] at ho85))
                 have n0_:=aM (Kd.R_elder' (by (with_reducible repeat (first | apply Kd.R_alloc | apply Kd.R_drewN | apply Kd.R_drew));exact HO183.out) (Kd.R_base ho85) hb)
                 have n1_:=aM (Kd.R_below (by (with_reducible repeat (first | apply Kd.R_alloc | apply Kd.R_drewN | apply Kd.R_drew));exact HO186.out) hb)
                 have n2_:=aM (Kd.R_below (by (with_reducible repeat (first | apply Kd.R_alloc | apply Kd.R_drewN | apply Kd.R_drew));exact HO195.out) hb)
                 have n3_:=aM (Kd.R_lower (Kd.R_new' ho85 (Kd.R_lt (by (with_reducible repeat (first | apply Kd.R_alloc | apply Kd.R_drewN | apply Kd.R_drew));exact HO183.out))) (below_size (by repeat (first | (with_reducible first | exact HB.out | apply below_alloc | apply pw_below_drewN | apply below_drew1) | exact HB.out))))
                 have n4_:=aM (Kd.C_below (by repeat (first | (with_reducible exact HR202.out) | (with_reducible refine Kd.C_alloc ?_ _) | (with_reducible refine Kd.C_drewN ?_ _) | (with_reducible refine Kd.C_drew ?_) | exact HR202.out)) hb)
                 have n5_:=aM (below_step (by repeat (first | (with_reducible first | exact HB.out | apply below_alloc | apply pw_below_drewN | apply below_drew1) | exact HB.out)) hb)
                 clear HO183
                 clear HO186
                 clear HO195
                 clear HR202
                 clear HB
                 have HO183:=n0_
                 have HO186:=n1_
                 have HO195:=n2_
                 have HO211:=n3_
                 have HR202:=n4_
                 have HB:=n5_
                 clear n0_ n1_ n2_ n3_ n4_ n5_
                 clear hb ho85
                 obtain ⟨Ao86,co86,eo86⟩:=Kd.R_slice HO211.out
                 (first | subst eo86 | (injection eo86 with f1_ f2_ f3_;have f4_:=f1_.symm;have f5_:=f3_.symm;clear f1_ f2_ f3_;subst f4_;subst f5_))
                 refine hK.out _ _ trivial (fun hHeld => ?_)
                 clear hK K
                 refine norm_ (a':=?_) ?_ ?_
                 rotate_left
                 ·show Act.put _ (some 74) _ = _
                  simp only [Act.put,sA,sB,sC,i64_w,i32_w]
                  rfl
                 refine one_ (i:=5) (N:=some 75) #[true,true,true,true,true,true,true,true,true,false,false,false] rfl rfl (one_of HT_.out (by kernel_rfl)) (by decide) (fun K hK => ?_)
                 refine goes_ Try.func15 (by kernel_rfl) rfl #[.slice Ao86 y209.length co86] (by rfl) rfl rfl (by (try simp only [List.map_toArray,List.map_cons,List.map_nil]);first | done | rfl | (simp only [List.length_drop,List.length_take];rfl)) ?_
                 with_reducible refine (vint_Put.calls kj4 _ _ y209 t212 _ ?side1 ?side2 A27.out).mono ?_
                 (case side1 => repeat (first|exact (Kd.R_reads' HO211.out).2.2|(with_reducible first|refine Kd.C_alloc ?_ _|refine Kd.C_drewN ?_ _|refine Kd.C_drew ?_)))
                 (case side2 => exact (Kd.R_reads' HO211.out).2.1)
                 rintro e w87 ⟨v213,rfl,ho0,hb⟩
                 refine ⟨_,rfl,?_⟩
                 have n0_:=aM (Kd.R_below (by (with_reducible repeat (first | apply Kd.R_alloc | apply Kd.R_drewN | apply Kd.R_drew));exact HO183.out) hb)
                 have n1_:=aM (Kd.R_elder' (by (with_reducible repeat (first | apply Kd.R_alloc | apply Kd.R_drewN | apply Kd.R_drew));exact HO186.out) (Kd.R_base ho0) hb)
                 have n2_:=aM (Kd.R_elder' (by (with_reducible repeat (first | apply Kd.R_alloc | apply Kd.R_drewN | apply Kd.R_drew));exact HO195.out) (Kd.R_base ho0) hb)
                 have n3_:=aM (Kd.R_below (by (with_reducible repeat (first | apply Kd.R_alloc | apply Kd.R_drewN | apply Kd.R_drew));exact HO211.out) hb)
                 have n4_:=aM (Kd.R_lower (Kd.R_new' (Kd.R_new' ho0 (Kd.R_lt (by (with_reducible repeat (first | apply Kd.R_alloc | apply Kd.R_drewN | apply Kd.R_drew));exact HO186.out))) (Kd.R_lt (by (with_reducible repeat (first | apply Kd.R_alloc | apply Kd.R_drewN | apply Kd.R_drew));exact HO195.out))) (below_size (by repeat (first | (with_reducible first | exact HB.out | apply below_alloc | apply pw_below_drewN | apply below_drew1) | exact HB.out))))
                 have n5_:=aM (Kd.C_below (by repeat (first | (with_reducible exact HR202.out) | (with_reducible refine Kd.C_alloc ?_ _) | (with_reducible refine Kd.C_drewN ?_ _) | (with_reducible refine Kd.C_drew ?_) | exact HR202.out)) hb)
                 have n6_:=aM (below_step (by repeat (first | (with_reducible first | exact HB.out | apply below_alloc | apply pw_below_drewN | apply below_drew1) | exact HB.out)) hb)
                 clear HO183
                 clear HO186
                 clear HO195
                 clear HO211
                 clear HR202
                 clear HB
                 have HO183:=n0_
                 have HO186:=n1_
                 have HO195:=n2_
                 have HO211:=n3_
                 have HO214:=n4_
                 have HR202:=n5_
                 have HB:=n6_
                 clear n0_ n1_ n2_ n3_ n4_ n5_ n6_
                 (try clear hb)
                 (try clear hb2)
                 (try clear hk)
                 (try clear hi)
                 (try clear ho0)
                 obtain ⟨Ao88,co88,eo88⟩:=Kd.R_slice HO214.out
                 (first | subst eo88 | (injection eo88 with f1_ f2_ f3_;have f4_:=f1_.symm;have f5_:=f3_.symm;clear f1_ f2_ f3_;subst f4_;subst f5_))
                 refine hK.out _ _ trivial (fun hHeld => ?_)
                 clear hK K
                 refine norm_ (a':=?_) ?_ ?_
                 rotate_left
                 ·show Act.put _ (some 75) _ = _
                  simp only [Act.put,sA,sB,sC,i64_w,i32_w]
                  rfl
                 refine one_ (i:=9) (N:=some 79) #[true,true,true,true,true,true,true,true,true,true,false,false] rfl rfl (one_of HT_.out (by kernel_rfl)) (by decide) (fun K hK => ?_)
                 refine goes_ Try.func14 (by kernel_rfl) rfl #[.slice Ao88 t212.length co88,.slice A2 (l2.take (t207 : Int).toNat).length c2] (by rfl) rfl rfl (by (try simp only [List.map_toArray,List.map_cons,List.map_nil]);first | done | (rw [show (l2.take (t207 : Int).toNat).length = t207.toNat from (by rw [List.length_take];have h_ : (t207 : Int) ≤ (l2.length : Int):=of_decide_eq_true (by first | (with_reducible assumption) | assumption);omega)]<;>rfl) | rfl | (simp only [List.length_drop,List.length_take];rfl)) ?_
                 with_reducible refine (lapidaryref00_Same.calls _ _ t212 _ _ (l2.take (t207 : Int).toNat) true _ ?side1 ?side2 ?side3 ?side4 A30.out).mono ?_
                 (case side1 => repeat (first|exact (Kd.R_reads' HO214.out).2.2|(with_reducible first|refine Kd.C_alloc ?_ _|refine Kd.C_drewN ?_ _|refine Kd.C_drew ?_)))
                 (case side2 => exact (Kd.R_reads' HO214.out).2.1)
                 (case side3 => repeat (first|exact (Kd.C_below HR215.out HB.out)|(with_reducible first|refine Kd.C_alloc ?_ _|refine Kd.C_drewN ?_ _|refine Kd.C_drew ?_)))
                 (case side4 => exact HC215.out)
                 rintro e w' ⟨rfl,⟨nd,rfl⟩⟩
                 refine ⟨_,rfl,?_⟩
                 refine hK.out _ _ trivial (fun hHeld => ?_)
                 clear hK K
                 refine norm_ (a':=?_) ?_ ?_
                 rotate_left
                 ·show Act.put _ (some 79) _ = _
                  simp only [Act.put,sA,sB,sC,i64_w,i32_w]
                  rfl
                 refine pure_ (i:=10) (N:=some 80) (v:=?_) (a':=?_) #[true,true,true,true,true,true,true,true,true,true,true,false] rfl rfl (any_of HT_.out (by kernel_rfl)) (fun _ _ _ h => h) (Or.inl ⟨by rfl,?_⟩) ?_ ?_
                 rotate_left
                 ·intro w'
                  go_simp
                  with_reducible rfl
                 rotate_left
                 ·simp only [Act.put,sA,sB,sC,i64_w,i32_w]
                  rfl
                 refine pure_ (i:=11) (N:=some 81) (v:=?_) (a':=?_) #[true,true,true,true,true,true,true,true,true,true,true,true] rfl rfl (any_of HT_.out (by kernel_rfl)) (fun _ _ _ h => h) (Or.inl ⟨by rfl,?_⟩) ?_ ?_
                 rotate_left
                 ·intro w'
                  go_simp
                  with_reducible rfl
                 rotate_left
                 ·simp only [Act.put,sA,sB,sC,i64_w,i32_w]
                  rfl
                 refine done_ (done_of HT_.out (by kernel_rfl)) ?_
                 try go_wp2
                 go_ret
                 exact ⟨by first | rfl | (simp [errW_none,errW_some]<;>rfl) | (simp only [← hji21];first | rfl | (simp [errW_none,errW_some]<;>rfl)) | (simp [*,errW_none,errW_some]<;>rfl),by repeat (first | (with_reducible first | exact HB.out | apply below_alloc | apply pw_below_drewN | apply below_drew1) | exact HB.out)⟩
               ·rw [if_neg c33] at H
                have c33b0 : (t197 == (wrap64 ((l1.length : Int)+(t184.length : Int)))) = false:=beq_eq_false_iff_ne.mpr c33
                have c33b1 : (t197 != (wrap64 ((l1.length : Int)+(t184.length : Int)))) = true:=bne_iff_ne.mpr c33
                obtain rfl:=Option.some.inj H
                try go_wp2_with (first|((with_reducible refine gate_dst (N:=30) rfl ?_);(try (refine gate_guard (by rfl) ?_;dsimp only));refine Kd.R_lit (Kd.int .u64) _ 26 ?hg (N:=30) ?hd (xs:=([a0] : List Int)) (inner:=[.int .u64 a0]) (ok:=fun _ => True) (okp:=fun _ => True) ?hr ?hp (fun _ hk => hk) trivial (Below.refl _ _) (Nat.le_refl _) (by simp) ?_;(case hd => rfl);(case hg => rfl);(case hr => first|(go_simp;done)|(go_simp;rfl));(case hp => exact (Reps.one (show Kd.M (Kd.int .u64) _ _ _ a0 [.int .u64 a0] from rfl) (Reps.none _ _)));intro v182 w89 ho90 hb hg_ hnew_;clear hg_ hnew_;(first|rw [← Ny181.out] at ho90|(simp only [Int.reduceToNat] at ho90;rw [← Ny181.out] at ho90));have n0_:=aM (Kd.R_lower ho90 (below_size (by repeat (with_reducible first|exact HB.out|apply below_alloc|apply pw_below_drewN|apply below_drew1))));have n1_:=aM (below_step (by repeat (with_reducible first|exact HB.out|apply below_alloc|apply pw_below_drewN|apply below_drew1)) hb);clear HB;have HO183:=n0_;have HB:=n1_;clear n0_ n1_;clear hb ho90;obtain ⟨Ao91,co91,eo91⟩:=Kd.R_slice HO183.out;subst eo91)|((with_reducible refine gate_callee (f:=15) rfl ?_);refine goesL_ (some 31) rfl rfl Try.func15 (by kernel_rfl) rfl #[.slice Ao91 y181.length co91] rfl (by (try simp only [List.map_toArray,List.map_cons,List.map_nil]);first|done|rfl|(simp only [List.length_drop,List.length_take];rfl)) ?_;(with_reducible refine (vint_Put.calls kj4 _ _ y181 t184 _ ?side1 ?side2 A10.out).mono ?_);(case side1 => repeat (first|exact (Kd.R_reads' HO183.out).2.2|(with_reducible first|refine Kd.C_alloc ?_ _|refine Kd.C_drewN ?_ _|refine Kd.C_drew ?_)));(case side2 => exact (Kd.R_reads' HO183.out).2.1);rintro e w92 ⟨v185,rfl,ho0,hb⟩;refine ⟨_,rfl,?_⟩;have n0_:=aM (Kd.R_below (by (with_reducible repeat (first|apply Kd.R_alloc|apply Kd.R_drewN|apply Kd.R_drew));exact HO183.out) hb);have n1_:=aM (Kd.R_lower ho0 (below_size (by repeat (with_reducible first|exact HB.out|apply below_alloc|apply pw_below_drewN|apply below_drew1))));have n2_:=aM (below_step (by repeat (with_reducible first|exact HB.out|apply below_alloc|apply pw_below_drewN|apply below_drew1)) hb);clear HO183;clear HB;have HO183:=n0_;have HO186:=n1_;have HB:=n2_;clear n0_ n1_ n2_;(try clear hb);(try clear hb2);(try clear hk);(try clear hi);(try clear ho0);obtain ⟨Ao93,co93,eo93⟩:=Kd.R_slice HO186.out;subst eo93)|((with_reducible refine gate_builtin (b:=.append) (xs:=#[.tmp 35,.tmp 36]) rfl ?_);(try (refine gate_guard (by rfl) ?_;dsimp only));at_builtin;refine Kd.R_append_rows (Kd.int .u8) (w0:=w) w.heap.size rfl (.tmp 35) (.tmp 36) 24 5 (.int .u8 0) 1 rfl Try.underlying24 info5 rfl (by decide) (by omega) (.slice none 0 0) ([] : List Int) l1 _ _ _ (fun k_ => some k_ ≠ (.slice Ao93 t184.length co93 : Value).ownBlock) (fun _ => False) rfl rfl ?aO ?aR (fun _ _ h => h) (fun _ h => h.elim) ?aF ?aB ?aS ?aL ?_;(case aR => repeat (first|exact (Kd.C_below HR1.out HB.out)|(with_reducible first|refine Kd.C_alloc ?_ _|refine Kd.C_drewN ?_ _|refine Kd.C_drew ?_)));(case aB => exact (by repeat (with_reducible first|exact HB.out|apply below_alloc|apply pw_below_drewN|apply below_drew1)));(case aF => exact (fun k_ hk => Kd.fresh' (Kd.R_lt (by (with_reducible repeat (first|apply Kd.R_alloc|apply Kd.R_drewN|apply Kd.R_drew));exact HO186.out)) k_ hk));(case aO => exact ((Kd.R_nil _ _ _ _ (fun k_ => some k_ ≠ (.slice Ao93 t184.length co93 : Value).ownBlock))));(case aS => exact (below_size (by repeat (with_reducible first|exact HB.out|apply below_alloc|apply pw_below_drewN|apply below_drew1))));(case aL => have:=LMc17.out;omega);intro v188 w94 ho hb hg hat;rw [← Ny187.out] at ho;have n0_:=aM (Kd.R_grown (by (with_reducible repeat (first|apply Kd.R_alloc|apply Kd.R_drewN|apply Kd.R_drew));exact HO183.out) hg (fun _ _ => by simp [Value.ownBlock]));have n1_:=aM (Kd.R_after (Kd.R_apart_nil (by (with_reducible repeat (first|apply Kd.R_alloc|apply Kd.R_drewN|apply Kd.R_drew));exact HO186.out)) hg hat);have n2_:=aM (hb);have n3_:=aM (ho);clear HO183;clear HO186;clear HB;have HO183:=n0_;have HO186:=n1_;have HB:=n2_;have HO189:=n3_;clear n0_ n1_ n2_ n3_;clear ho hb hg hat)|((with_reducible refine gate_builtin (b:=.append) (xs:=#[.tmp 38,.tmp 39]) rfl ?_);(try (refine gate_guard (by rfl) ?_;dsimp only));at_builtin;refine Kd.R_append_rows (Kd.int .u8) (w0:=w) w.heap.size rfl (.tmp 38) (.tmp 39) 24 5 (.int .u8 0) 1 rfl Try.underlying24 info5 rfl (by decide) (by omega) v188 y187 t184 _ _ _ (fun k_ => some k_ ≠ (.slice Ao93 t184.length co93 : Value).ownBlock) (fun _ => False) rfl rfl ?aO ?aR (fun _ _ h => h) (fun _ h => h.elim) ?aF ?aB ?aS ?aL ?_;(case aR => repeat (first|exact (Kd.R_reads' HO186.out).2.2|(with_reducible first|refine Kd.C_alloc ?_ _|refine Kd.C_drewN ?_ _|refine Kd.C_drew ?_)));(case aB => exact (by repeat (with_reducible first|exact HB.out|apply below_alloc|apply pw_below_drewN|apply below_drew1)));(case aF => exact (fun k_ hk => Kd.fresh' (Kd.R_lt (by (with_reducible repeat (first|apply Kd.R_alloc|apply Kd.R_drewN|apply Kd.R_drew));exact HO186.out)) k_ hk));(case aO => exact (by (with_reducible repeat (first|apply Kd.R_alloc|apply Kd.R_drewN|apply Kd.R_drew));exact HO189.out));(case aS => exact (below_size (by repeat (with_reducible first|exact HB.out|apply below_alloc|apply pw_below_drewN|apply below_drew1))));(case aL => have:=LMc18.out;omega);intro v191 w95 ho hb hg hat;rw [← Ny190.out] at ho;have n0_:=aM (Kd.R_over' (by (with_reducible repeat (first|apply Kd.R_alloc|apply Kd.R_drewN|apply Kd.R_drew));exact HO183.out) (Kd.R_typed (by (with_reducible repeat (first|apply Kd.R_alloc|apply Kd.R_drewN|apply Kd.R_drew));exact HO189.out)) (by decide) hg);have n1_:=aM (Kd.R_after (ok:=(fun _ => True)) (by (with_reducible repeat (first|apply Kd.R_alloc|apply Kd.R_drewN|apply Kd.R_drew));exact HO186.out) hg hat);have n2_:=aM (hb);have n3_:=aM (ho);clear HO183;clear HO186;clear HB;clear HO189;have HO183:=n0_;have HO186:=n1_;have HB:=n2_;have HO192:=n3_;clear n0_ n1_ n2_ n3_;clear ho hb hg hat)|((with_reducible refine gate_builtin (b:=.append) (xs:=#[.tmp 41,.tmp 42]) rfl ?_);(try (refine gate_guard (by rfl) ?_;dsimp only));at_builtin;refine Kd.R_append_rows (Kd.int .u8) (w0:=w) w.heap.size rfl (.tmp 41) (.tmp 42) 24 5 (.int .u8 0) 1 rfl Try.underlying24 info5 rfl (by decide) (by omega) v191 y190 l2 _ _ _ (fun k_ => some k_ ≠ (.slice Ao93 t184.length co93 : Value).ownBlock) (fun _ => False) rfl rfl ?aO ?aR (fun _ _ h => h) (fun _ h => h.elim) ?aF ?aB ?aS ?aL ?_;(case aR => repeat (first|exact (Kd.C_below HR2.out HB.out)|(with_reducible first|refine Kd.C_alloc ?_ _|refine Kd.C_drewN ?_ _|refine Kd.C_drew ?_)));(case aB => exact (by repeat (with_reducible first|exact HB.out|apply below_alloc|apply pw_below_drewN|apply below_drew1)));(case aF => exact (fun k_ hk => Kd.fresh' (Kd.R_lt (by (with_reducible repeat (first|apply Kd.R_alloc|apply Kd.R_drewN|apply Kd.R_drew));exact HO186.out)) k_ hk));(case aO => exact (by (with_reducible repeat (first|apply Kd.R_alloc|apply Kd.R_drewN|apply Kd.R_drew));exact HO192.out));(case aS => exact (below_size (by repeat (with_reducible first|exact HB.out|apply below_alloc|apply pw_below_drewN|apply below_drew1))));(case aL => have:=LMc19.out;omega);intro v194 w96 ho hb hg hat;rw [← Ny193.out] at ho;have n0_:=aM (Kd.R_over' (by (with_reducible repeat (first|apply Kd.R_alloc|apply Kd.R_drewN|apply Kd.R_drew));exact HO183.out) (Kd.R_typed (by (with_reducible repeat (first|apply Kd.R_alloc|apply Kd.R_drewN|apply Kd.R_drew));exact HO192.out)) (by decide) hg);have n1_:=aM (Kd.R_after (ok:=(fun _ => True)) (by (with_reducible repeat (first|apply Kd.R_alloc|apply Kd.R_drewN|apply Kd.R_drew));exact HO186.out) hg hat);have n2_:=aM (hb);have n3_:=aM (ho);clear HO183;clear HO186;clear HB;clear HO192;have HO183:=n0_;have HO186:=n1_;have HB:=n2_;have HO195:=n3_;clear n0_ n1_ n2_ n3_;clear ho hb hg hat;obtain ⟨Ao97,co97,eo97⟩:=Kd.R_slice HO195.out;subst eo97)|((with_reducible refine gate_callee (f:=16) rfl ?_);refine goesL_ (some 48) rfl rfl Try.func16 (by kernel_rfl) rfl #[.slice Ao97 y193.length co97,.int .i64 (l1.length : Int)] rfl (by (try simp only [List.map_toArray,List.map_cons,List.map_nil]);first|done|rfl|(simp only [List.length_drop,List.length_take];rfl)) ?_;(with_reducible refine (vint_Get.calls kj4 _ _ y193 (l1.length : Int) t196 t197 t198 _ ?side1 ?side2 A20.out).mono ?_);(case side1 => repeat (first|exact (Kd.R_reads' HO195.out).2.2|(with_reducible first|refine Kd.C_alloc ?_ _|refine Kd.C_drewN ?_ _|refine Kd.C_drew ?_)));(case side2 => exact (Kd.R_reads' HO195.out).2.1);rintro e w' ⟨rfl,⟨nd,rfl⟩⟩;refine ⟨_,rfl,?_⟩;have q98 : ((ji21) : Int) ≤ ((t184.length : Int) : Int):=of_decide_eq_true (by first|(with_reducible assumption)|assumption);obtain ⟨i098,hi098,_,hsz98,_⟩:=info_parts info5;have hroom98 : t184.length ≤ co93:=(Kd.R_reads' HO186.out).2.1;have hC98 : Kd.C (Kd.int .u8) _ Ao93 t184.length t184:=(Kd.R_reads' HO186.out).2.2;have hcut98:=cut_to (P:=Try.prog) 24 5 .i64 Try.underlying24 hi098 Ao93 t184.length co93 (ji21) (of_decide_eq_true (by first|(with_reducible assumption)|assumption)) q98 hroom98;have hr98:=Kd.C_take (m:=((ji21) : Int).toNat) hC98 (by omega);have hy98 : y199.length = ((ji21) : Int).toNat:=(by rw [Ny199.out,List.length_take];omega);rw [← Ny199.out] at hr98;rw [← hy98] at hcut98;have HR202:=aM hr98;have HC202:=aM (show y199.length ≤ co93 from by omega);clear hr98 hC98 hroom98 hi098 hsz98;have KY98:=aM hy98;clear hy98;have KL98:=aM (show ((ji21) : Int).toNat ≤ t184.length from by omega);replace q98:=eq_true q98)|((with_reducible refine gate_callee (f:=16) rfl ?_);refine goesL_ (some 60) rfl rfl Try.func16 (by kernel_rfl) rfl #[.slice Ao93 y199.length co93,.int .i64 0] rfl (by (try simp only [List.map_toArray,List.map_cons,List.map_nil]);first|done|rfl|(simp only [List.length_drop,List.length_take];rfl)) ?_;(with_reducible refine (vint_Get.calls kj4 _ _ y199 0 t203 t204 t205 _ ?side1 ?side2 A24.out).mono ?_);(case side1 => repeat (first|exact (by repeat (first|(with_reducible exact HR202.out)|(with_reducible first|refine Kd.C_alloc ?_ _|refine Kd.C_drewN ?_ _|refine Kd.C_drew ?_)|exact HR202.out))|(with_reducible first|refine Kd.C_alloc ?_ _|refine Kd.C_drewN ?_ _|refine Kd.C_drew ?_)));(case side2 => exact HC202.out);rintro e w' ⟨rfl,⟨nd,rfl⟩⟩;refine ⟨_,rfl,?_⟩)|((with_reducible refine gate_callee (f:=16) rfl ?_);refine goesL_ (some 66) rfl rfl Try.func16 (by kernel_rfl) rfl #[.slice A2 l2.length c2,.int .i64 0] rfl (by (try simp only [List.map_toArray,List.map_cons,List.map_nil]);first|done|rfl|(simp only [List.length_drop,List.length_take];rfl)) ?_;(with_reducible refine (vint_Get.calls kj4 _ _ l2 0 t206 t207 t208 _ ?side1 ?side2 A25.out).mono ?_);(case side1 => repeat (first|exact (Kd.C_below HR2.out (by repeat (with_reducible first|exact HB.out|apply below_alloc|apply pw_below_drewN|apply below_drew1)))|(with_reducible first|refine Kd.C_alloc ?_ _|refine Kd.C_drewN ?_ _|refine Kd.C_drew ?_)));(case side2 => exact HC2.out);rintro e w' ⟨rfl,⟨nd,rfl⟩⟩;refine ⟨_,rfl,?_⟩))
                (try (rw [drewN_self w96];generalize hq_ : World.drewN w96 _ = w96;have n0_ : Aside0 (Kd.R (Kd.int .u64) 26 w96 w.heap.size (fun _ => True) (.slice Ao91 y181.length co91) y181):=⟨by rw [← hq_];exact (by (with_reducible repeat (first | apply Kd.R_alloc | apply Kd.R_drewN | apply Kd.R_drew));exact HO183.out)⟩;have n1_ : Aside0 (Kd.R (Kd.int .u8) 5 w96 w.heap.size (fun k_ => some k_ ≠ (.slice Ao97 y193.length co97 : Value).ownBlock) (.slice Ao93 t184.length co93) t184):=⟨by rw [← hq_];exact (by (with_reducible repeat (first | apply Kd.R_alloc | apply Kd.R_drewN | apply Kd.R_drew));exact Kd.R_mono HO186.out (fun _ hk => hk.2))⟩;have n2_ : Aside0 (Kd.R (Kd.int .u8) 5 w96 w.heap.size (fun k_ => some k_ ≠ (.slice Ao93 t184.length co93 : Value).ownBlock) (.slice Ao97 y193.length co97) y193):=⟨by rw [← hq_];exact (by (with_reducible repeat (first | apply Kd.R_alloc | apply Kd.R_drewN | apply Kd.R_drew));exact HO195.out)⟩;have n3_ : Aside0 (Below w.heap.size w w96):=⟨by rw [← hq_];exact (by repeat (first | (with_reducible first | exact HB.out | apply below_alloc | apply pw_below_drewN | apply below_drew1) | exact HB.out))⟩;have n4_ : Aside0 (Kd.C (Kd.int .u8) w96 Ao93 y199.length y199):=⟨by rw [← hq_];exact (by repeat (first | (with_reducible exact HR202.out) | (with_reducible refine Kd.C_alloc ?_ _) | (with_reducible refine Kd.C_drewN ?_ _) | (with_reducible refine Kd.C_drew ?_) | exact HR202.out))⟩;clear HO183 HO186 HO195 HB HR202 hq_;have HO183:=n0_;have HO186:=n1_;have HO195:=n2_;have HB:=n3_;have HR202:=n4_;clear n0_ n1_ n2_ n3_ n4_))
                have n0_:=aM (Kd.R_drew HO183.out)
                have n1_:=aM (Kd.R_drew HO186.out)
                have n2_:=aM (Kd.R_drew HO195.out)
                have n3_:=aM (Kd.C_drew HR202.out)
                have n4_:=aM (below_drew1 HB.out)
                clear HO183
                clear HO186
                clear HO195
                clear HR202
                clear HB
                have HO183:=n0_
                have HO186:=n1_
                have HO195:=n2_
                have HR202:=n3_
                have HB:=n4_
                clear n0_ n1_ n2_ n3_ n4_
                obtain ⟨i0100,hi0100,_,hsz100,_⟩:=info_parts info5
                obtain ⟨hcut100,hA100,hC100⟩:=print_take_of (P:=Try.prog) (Value.int .u8) 0 24 5 .i64 Try.underlying24 hi0100 hsz100 A2 c2 l2 t207 (of_decide_eq_true (by first | (with_reducible assumption) | assumption)) (of_decide_eq_true (by first | (with_reducible assumption) | assumption)) HC2.out
                have HR215:=aM (Kd.C_of_reads (h1:=fun _ => rfl) (hA100 _ (Kd.reads_of_C HR2.out)))
                have HC215:=aM hC100
                clear hA100 hC100 hi0100 hsz100
                refine start_ (n:=12) (S:=fun w' => True) (ds:=[]) #[false,false,false,false,false,false,false,false,false,false,false,false] (by kernel_rfl) rfl rfl trivial (fun hHeld => ?_);refine with_tabW lapidarylaw01_VintOnce.tab13 lapidarylaw01_VintOnce.bits13 (fun HT_ HW_ => ?_)
                generalize w96.drew = w99 at HO183 HO186 HO195 HR202 HB HR215 hHeld ⊢
                refine pure_ (i:=0) (N:=some 70) (v:=?_) (a':=?_) #[true,false,false,false,false,false,false,false,false,false,false,false] rfl rfl (any_of HT_.out (by kernel_rfl)) (fun _ _ _ h => h) (Or.inl ⟨by rfl,?_⟩) ?_ ?_
                rotate_left
                ·intro w'
                 go_simp
                 with_reducible rfl
                rotate_left
                ·simp only [Act.put,sA,sB,sC,i64_w,i32_w]
                 rfl
                refine pure_ (i:=1) (N:=some 71) (v:=?_) (a':=?_) #[true,true,false,false,false,false,false,false,false,false,false,false] rfl rfl (any_of HT_.out (by kernel_rfl)) (fun _ _ _ h => h) (Or.inl ⟨by rfl,?_⟩) ?_ ?_
                rotate_left
                ·intro w'
                 go_simp
                 with_reducible rfl
                rotate_left
                ·simp only [Act.put,sA,sB,sC,i64_w,i32_w]
                 rfl
                refine pure_ (i:=2) (N:=some 72) (v:=?_) (a':=?_) #[true,true,true,false,false,false,false,false,false,false,false,false] rfl rfl (any_of HT_.out (by kernel_rfl)) (fun _ _ _ h => h) (Or.inl ⟨by rfl,?_⟩) ?_ ?_
                rotate_left
                ·intro w'
                 go_simp
                 with_reducible rfl
                rotate_left
                ·simp only [Act.put,sA,sB,sC,i64_w,i32_w]
                 rfl
                refine pure_ (i:=3) (N:=some 73) (v:=?_) (a':=?_) #[true,true,true,true,false,false,false,false,false,false,false,false] rfl rfl (any_of HT_.out (by kernel_rfl)) (fun _ _ _ h => h) (Or.inl ⟨by rfl,?_⟩) ?_ ?_
                rotate_left
                ·intro w'
                 go_simp
                 with_reducible rfl
                rotate_left
                ·simp only [Act.put,sA,sB,sC,i64_w,i32_w]
                 rfl
                refine pure_ (i:=6) (N:=some 76) (v:=?_) (a':=?_) #[true,true,true,true,false,false,true,false,false,false,false,false] rfl rfl (any_of HT_.out (by kernel_rfl)) (fun _ _ _ h => h) (Or.inl ⟨by rfl,?_⟩) ?_ ?_
                rotate_left
                ·intro w'
                 go_simp
                 with_reducible rfl
                rotate_left
                ·simp only [Act.put,sA,sB,sC,i64_w,i32_w]
                 rfl
                refine pure_ (i:=7) (N:=some 77) (v:=?_) (a':=?_) #[true,true,true,true,false,false,true,true,false,false,false,false] rfl rfl (any_of HT_.out (by kernel_rfl)) (fun _ _ _ h => h) (Or.inl ⟨by rfl,?_⟩) ?_ ?_
                rotate_left
                ·intro w'
                 go_simp
                 with_reducible rfl
                rotate_left
                ·simp only [Act.put,sA,sB,sC,i64_w,i32_w]
                 rfl
                refine pure_ (i:=8) (N:=some 78) (v:=?_) (a':=?_) #[true,true,true,true,false,false,true,true,true,false,false,false] rfl rfl (any_of HT_.out (by kernel_rfl)) (fun _ _ _ h => h) (Or.inl ⟨by rfl,?_⟩) ?_ ?_
                rotate_left
                ·intro w'
                 go_simp
                 with_reducible rfl
                rotate_left
                ·simp only [Act.put,sA,sB,sC,i64_w,i32_w]
                 rfl
                refine one_ (i:=4) (N:=some 74) #[true,true,true,true,true,false,true,true,true,false,false,false] rfl rfl (one_of HT_.out (by kernel_rfl)) (by decide) (fun K hK => ?_)
                refine Kd.R_lit_step (Kd.int .u64) _ 26 ?hg (N:=74) ?hd (xs:=([t206] : List Int)) (inner:=[.int .u64 t206]) (ok:=fun _ => True) (okp:=fun _ => True) ?hr ?hp (fun _ hk => hk) trivial (Below.refl _ _) (Nat.le_refl _) (by simp) ?_;(case hd => rfl);(case hg => rfl);(case hr => first | (go_simp;done) | (go_simp;rfl));(case hp => exact (Reps.one (show Kd.M (Kd.int .u64) _ _ _ t206 [.int .u64 t206] from rfl) (Reps.none _ _)))
                intro v210 w101 ho102 hb hg_ hnew_
                clear hg_ hnew_
                (first | rw [← Ny209.out] at ho102 | (simp only [Int.reduceToNat] at ho102;rw [← Ny209.out] at ho102))
                have n0_:=aM (Kd.R_elder' (by (with_reducible repeat (first | apply Kd.R_alloc | apply Kd.R_drewN | apply Kd.R_drew));exact HO183.out) (Kd.R_base ho102) hb)
                have n1_:=aM (Kd.R_below (by (with_reducible repeat (first | apply Kd.R_alloc | apply Kd.R_drewN | apply Kd.R_drew));exact HO186.out) hb)
                have n2_:=aM (Kd.R_below (by (with_reducible repeat (first | apply Kd.R_alloc | apply Kd.R_drewN | apply Kd.R_drew));exact HO195.out) hb)
                have n3_:=aM (Kd.R_lower (Kd.R_new' ho102 (Kd.R_lt (by (with_reducible repeat (first | apply Kd.R_alloc | apply Kd.R_drewN | apply Kd.R_drew));exact HO183.out))) (below_size (by repeat (first | (with_reducible first | exact HB.out | apply below_alloc | apply pw_below_drewN | apply below_drew1) | exact HB.out))))
                have n4_:=aM (Kd.C_below (by repeat (first | (with_reducible exact HR202.out) | (with_reducible refine Kd.C_alloc ?_ _) | (with_reducible refine Kd.C_drewN ?_ _) | (with_reducible refine Kd.C_drew ?_) | exact HR202.out)) hb)
                have n5_:=aM (below_step (by repeat (first | (with_reducible first | exact HB.out | apply below_alloc | apply pw_below_drewN | apply below_drew1) | exact HB.out)) hb)
                clear HO183
                clear HO186
                clear HO195
                clear HR202
                clear HB
                have HO183:=n0_
                have HO186:=n1_
                have HO195:=n2_
                have HO211:=n3_
                have HR202:=n4_
                have HB:=n5_
                clear n0_ n1_ n2_ n3_ n4_ n5_
                clear hb ho102
                obtain ⟨Ao103,co103,eo103⟩:=Kd.R_slice HO211.out
                (first | subst eo103 | (injection eo103 with f1_ f2_ f3_;have f4_:=f1_.symm;have f5_:=f3_.symm;clear f1_ f2_ f3_;subst f4_;subst f5_))
                refine hK.out _ _ trivial (fun hHeld => ?_)
                clear hK K
                refine norm_ (a':=?_) ?_ ?_
                rotate_left
                ·show Act.put _ (some 74) _ = _
                 simp only [Act.put,sA,sB,sC,i64_w,i32_w]
                 rfl
                refine one_ (i:=5) (N:=some 75) #[true,true,true,true,true,true,true,true,true,false,false,false] rfl rfl (one_of HT_.out (by kernel_rfl)) (by decide) (fun K hK => ?_)
                refine goes_ Try.func15 (by kernel_rfl) rfl #[.slice Ao103 y209.length co103] (by rfl) rfl rfl (by (try simp only [List.map_toArray,List.map_cons,List.map_nil]);first | done | rfl | (simp only [List.length_drop,List.length_take];rfl)) ?_
                with_reducible refine (vint_Put.calls kj4 _ _ y209 t212 _ ?side1 ?side2 A27.out).mono ?_
                (case side1 => repeat (first|exact (Kd.R_reads' HO211.out).2.2|(with_reducible first|refine Kd.C_alloc ?_ _|refine Kd.C_drewN ?_ _|refine Kd.C_drew ?_)))
                (case side2 => exact (Kd.R_reads' HO211.out).2.1)
                rintro e w104 ⟨v213,rfl,ho0,hb⟩
                refine ⟨_,rfl,?_⟩
                have n0_:=aM (Kd.R_below (by (with_reducible repeat (first | apply Kd.R_alloc | apply Kd.R_drewN | apply Kd.R_drew));exact HO183.out) hb)
                have n1_:=aM (Kd.R_elder' (by (with_reducible repeat (first | apply Kd.R_alloc | apply Kd.R_drewN | apply Kd.R_drew));exact HO186.out) (Kd.R_base ho0) hb)
                have n2_:=aM (Kd.R_elder' (by (with_reducible repeat (first | apply Kd.R_alloc | apply Kd.R_drewN | apply Kd.R_drew));exact HO195.out) (Kd.R_base ho0) hb)
                have n3_:=aM (Kd.R_below (by (with_reducible repeat (first | apply Kd.R_alloc | apply Kd.R_drewN | apply Kd.R_drew));exact HO211.out) hb)
                have n4_:=aM (Kd.R_lower (Kd.R_new' (Kd.R_new' ho0 (Kd.R_lt (by (with_reducible repeat (first | apply Kd.R_alloc | apply Kd.R_drewN | apply Kd.R_drew));exact HO186.out))) (Kd.R_lt (by (with_reducible repeat (first | apply Kd.R_alloc | apply Kd.R_drewN | apply Kd.R_drew));exact HO195.out))) (below_size (by repeat (first | (with_reducible first | exact HB.out | apply below_alloc | apply pw_below_drewN | apply below_drew1) | exact HB.out))))
                have n5_:=aM (Kd.C_below (by repeat (first | (with_reducible exact HR202.out) | (with_reducible refine Kd.C_alloc ?_ _) | (with_reducible refine Kd.C_drewN ?_ _) | (with_reducible refine Kd.C_drew ?_) | exact HR202.out)) hb)
                have n6_:=aM (below_step (by repeat (first | (with_reducible first | exact HB.out | apply below_alloc | apply pw_below_drewN | apply below_drew1) | exact HB.out)) hb)
                clear HO183
                clear HO186
                clear HO195
                clear HO211
                clear HR202
                clear HB
                have HO183:=n0_
                have HO186:=n1_
                have HO195:=n2_
                have HO211:=n3_
                have HO214:=n4_
                have HR202:=n5_
                have HB:=n6_
                clear n0_ n1_ n2_ n3_ n4_ n5_ n6_
                (try clear hb)
                (try clear hb2)
                (try clear hk)
                (try clear hi)
                (try clear ho0)
                obtain ⟨Ao105,co105,eo105⟩:=Kd.R_slice HO214.out
                (first | subst eo105 | (injection eo105 with f1_ f2_ f3_;have f4_:=f1_.symm;have f5_:=f3_.symm;clear f1_ f2_ f3_;subst f4_;subst f5_))
                refine hK.out _ _ trivial (fun hHeld => ?_)
                clear hK K
                refine norm_ (a':=?_) ?_ ?_
                rotate_left
                ·show Act.put _ (some 75) _ = _
                 simp only [Act.put,sA,sB,sC,i64_w,i32_w]
                 rfl
                refine one_ (i:=9) (N:=some 79) #[true,true,true,true,true,true,true,true,true,true,false,false] rfl rfl (one_of HT_.out (by kernel_rfl)) (by decide) (fun K hK => ?_)
                refine goes_ Try.func14 (by kernel_rfl) rfl #[.slice Ao105 t212.length co105,.slice A2 (l2.take (t207 : Int).toNat).length c2] (by rfl) rfl rfl (by (try simp only [List.map_toArray,List.map_cons,List.map_nil]);first | done | (rw [show (l2.take (t207 : Int).toNat).length = t207.toNat from (by rw [List.length_take];have h_ : (t207 : Int) ≤ (l2.length : Int):=of_decide_eq_true (by first | (with_reducible assumption) | assumption);omega)]<;>rfl) | rfl | (simp only [List.length_drop,List.length_take];rfl)) ?_
                with_reducible refine (lapidaryref00_Same.calls _ _ t212 _ _ (l2.take (t207 : Int).toNat) true _ ?side1 ?side2 ?side3 ?side4 A30.out).mono ?_
                (case side1 => repeat (first|exact (Kd.R_reads' HO214.out).2.2|(with_reducible first|refine Kd.C_alloc ?_ _|refine Kd.C_drewN ?_ _|refine Kd.C_drew ?_)))
                (case side2 => exact (Kd.R_reads' HO214.out).2.1)
                (case side3 => repeat (first|exact (Kd.C_below HR215.out HB.out)|(with_reducible first|refine Kd.C_alloc ?_ _|refine Kd.C_drewN ?_ _|refine Kd.C_drew ?_)))
                (case side4 => exact HC215.out)
                rintro e w' ⟨rfl,⟨nd,rfl⟩⟩
                refine ⟨_,rfl,?_⟩
                refine hK.out _ _ trivial (fun hHeld => ?_)
                clear hK K
                refine norm_ (a':=?_) ?_ ?_
                rotate_left
                ·show Act.put _ (some 79) _ = _
                 simp only [Act.put,sA,sB,sC,i64_w,i32_w]
                 rfl
                refine pure_ (i:=10) (N:=some 80) (v:=?_) (a':=?_) #[true,true,true,true,true,true,true,true,true,true,true,false] rfl rfl (any_of HT_.out (by kernel_rfl)) (fun _ _ _ h => h) (Or.inl ⟨by rfl,?_⟩) ?_ ?_
                rotate_left
                ·intro w'
                 go_simp
                 with_reducible rfl
                rotate_left
                ·simp only [Act.put,sA,sB,sC,i64_w,i32_w]
                 rfl
                refine pure_ (i:=11) (N:=some 81) (v:=?_) (a':=?_) #[true,true,true,true,true,true,true,true,true,true,true,true] rfl rfl (any_of HT_.out (by kernel_rfl)) (fun _ _ _ h => h) (Or.inl ⟨by rfl,?_⟩) ?_ ?_
                rotate_left
                ·intro w'
                 go_simp
                 with_reducible rfl
                rotate_left
                ·simp only [Act.put,sA,sB,sC,i64_w,i32_w]
                 rfl
                refine done_ (done_of HT_.out (by kernel_rfl)) ?_
                try go_wp2
                go_ret
                exact ⟨by first | rfl | (simp [errW_none,errW_some]<;>rfl) | (simp only [← hji21];first | rfl | (simp [errW_none,errW_some]<;>rfl)) | (simp [*,errW_none,errW_some]<;>rfl),by repeat (first | (with_reducible first | exact HB.out | apply below_alloc | apply pw_below_drewN | apply below_drew1) | exact HB.out)⟩
              ·rw [if_neg c32] at H
               have c32b0 : (t196 == a0) = false:=beq_eq_false_iff_ne.mpr c32
               have c32b1 : (t196 != a0) = true:=bne_iff_ne.mpr c32
               obtain rfl:=Option.some.inj H
               try go_wp2_with (first|((with_reducible refine gate_dst (N:=30) rfl ?_);(try (refine gate_guard (by rfl) ?_;dsimp only));refine Kd.R_lit (Kd.int .u64) _ 26 ?hg (N:=30) ?hd (xs:=([a0] : List Int)) (inner:=[.int .u64 a0]) (ok:=fun _ => True) (okp:=fun _ => True) ?hr ?hp (fun _ hk => hk) trivial (Below.refl _ _) (Nat.le_refl _) (by simp) ?_;(case hd => rfl);(case hg => rfl);(case hr => first|(go_simp;done)|(go_simp;rfl));(case hp => exact (Reps.one (show Kd.M (Kd.int .u64) _ _ _ a0 [.int .u64 a0] from rfl) (Reps.none _ _)));intro v182 w106 ho107 hb hg_ hnew_;clear hg_ hnew_;(first|rw [← Ny181.out] at ho107|(simp only [Int.reduceToNat] at ho107;rw [← Ny181.out] at ho107));have n0_:=aM (Kd.R_lower ho107 (below_size (by repeat (with_reducible first|exact HB.out|apply below_alloc|apply pw_below_drewN|apply below_drew1))));have n1_:=aM (below_step (by repeat (with_reducible first|exact HB.out|apply below_alloc|apply pw_below_drewN|apply below_drew1)) hb);clear HB;have HO183:=n0_;have HB:=n1_;clear n0_ n1_;clear hb ho107;obtain ⟨Ao108,co108,eo108⟩:=Kd.R_slice HO183.out;subst eo108)|((with_reducible refine gate_callee (f:=15) rfl ?_);refine goesL_ (some 31) rfl rfl Try.func15 (by kernel_rfl) rfl #[.slice Ao108 y181.length co108] rfl (by (try simp only [List.map_toArray,List.map_cons,List.map_nil]);first|done|rfl|(simp only [List.length_drop,List.length_take];rfl)) ?_;(with_reducible refine (vint_Put.calls kj4 _ _ y181 t184 _ ?side1 ?side2 A10.out).mono ?_);(case side1 => repeat (first|exact (Kd.R_reads' HO183.out).2.2|(with_reducible first|refine Kd.C_alloc ?_ _|refine Kd.C_drewN ?_ _|refine Kd.C_drew ?_)));(case side2 => exact (Kd.R_reads' HO183.out).2.1);rintro e w109 ⟨v185,rfl,ho0,hb⟩;refine ⟨_,rfl,?_⟩;have n0_:=aM (Kd.R_below (by (with_reducible repeat (first|apply Kd.R_alloc|apply Kd.R_drewN|apply Kd.R_drew));exact HO183.out) hb);have n1_:=aM (Kd.R_lower ho0 (below_size (by repeat (with_reducible first|exact HB.out|apply below_alloc|apply pw_below_drewN|apply below_drew1))));have n2_:=aM (below_step (by repeat (with_reducible first|exact HB.out|apply below_alloc|apply pw_below_drewN|apply below_drew1)) hb);clear HO183;clear HB;have HO183:=n0_;have HO186:=n1_;have HB:=n2_;clear n0_ n1_ n2_;(try clear hb);(try clear hb2);(try clear hk);(try clear hi);(try clear ho0);obtain ⟨Ao110,co110,eo110⟩:=Kd.R_slice HO186.out;subst eo110)|((with_reducible refine gate_builtin (b:=.append) (xs:=#[.tmp 35,.tmp 36]) rfl ?_);(try (refine gate_guard (by rfl) ?_;dsimp only));at_builtin;refine Kd.R_append_rows (Kd.int .u8) (w0:=w) w.heap.size rfl (.tmp 35) (.tmp 36) 24 5 (.int .u8 0) 1 rfl Try.underlying24 info5 rfl (by decide) (by omega) (.slice none 0 0) ([] : List Int) l1 _ _ _ (fun k_ => some k_ ≠ (.slice Ao110 t184.length co110 : Value).ownBlock) (fun _ => False) rfl rfl ?aO ?aR (fun _ _ h => h) (fun _ h => h.elim) ?aF ?aB ?aS ?aL ?_;(case aR => repeat (first|exact (Kd.C_below HR1.out HB.out)|(with_reducible first|refine Kd.C_alloc ?_ _|refine Kd.C_drewN ?_ _|refine Kd.C_drew ?_)));(case aB => exact (by repeat (with_reducible first|exact HB.out|apply below_alloc|apply pw_below_drewN|apply below_drew1)));(case aF => exact (fun k_ hk => Kd.fresh' (Kd.R_lt (by (with_reducible repeat (first|apply Kd.R_alloc|apply Kd.R_drewN|apply Kd.R_drew));exact HO186.out)) k_ hk));(case aO => exact ((Kd.R_nil _ _ _ _ (fun k_ => some k_ ≠ (.slice Ao110 t184.length co110 : Value).ownBlock))));(case aS => exact (below_size (by repeat (with_reducible first|exact HB.out|apply below_alloc|apply pw_below_drewN|apply below_drew1))));(case aL => have:=LMc17.out;omega);intro v188 w111 ho hb hg hat;rw [← Ny187.out] at ho;have n0_:=aM (Kd.R_grown (by (with_reducible repeat (first|apply Kd.R_alloc|apply Kd.R_drewN|apply Kd.R_drew));exact HO183.out) hg (fun _ _ => by simp [Value.ownBlock]));have n1_:=aM (Kd.R_after (Kd.R_apart_nil (by (with_reducible repeat (first|apply Kd.R_alloc|apply Kd.R_drewN|apply Kd.R_drew));exact HO186.out)) hg hat);have n2_:=aM (hb);have n3_:=aM (ho);clear HO183;clear HO186;clear HB;have HO183:=n0_;have HO186:=n1_;have HB:=n2_;have HO189:=n3_;clear n0_ n1_ n2_ n3_;clear ho hb hg hat)|((with_reducible refine gate_builtin (b:=.append) (xs:=#[.tmp 38,.tmp 39]) rfl ?_);(try (refine gate_guard (by rfl) ?_;dsimp only));at_builtin;refine Kd.R_append_rows (Kd.int .u8) (w0:=w) w.heap.size rfl (.tmp 38) (.tmp 39) 24 5 (.int .u8 0) 1 rfl Try.underlying24 info5 rfl (by decide) (by omega) v188 y187 t184 _ _ _ (fun k_ => some k_ ≠ (.slice Ao110 t184.length co110 : Value).ownBlock) (fun _ => False) rfl rfl ?aO ?aR (fun _ _ h => h) (fun _ h => h.elim) ?aF ?aB ?aS ?aL ?_;(case aR => repeat (first|exact (Kd.R_reads' HO186.out).2.2|(with_reducible first|refine Kd.C_alloc ?_ _|refine Kd.C_drewN ?_ _|refine Kd.C_drew ?_)));(case aB => exact (by repeat (with_reducible first|exact HB.out|apply below_alloc|apply pw_below_drewN|apply below_drew1)));(case aF => exact (fun k_ hk => Kd.fresh' (Kd.R_lt (by (with_reducible repeat (first|apply Kd.R_alloc|apply Kd.R_drewN|apply Kd.R_drew));exact HO186.out)) k_ hk));(case aO => exact (by (with_reducible repeat (first|apply Kd.R_alloc|apply Kd.R_drewN|apply Kd.R_drew));exact HO189.out));(case aS => exact (below_size (by repeat (with_reducible first|exact HB.out|apply below_alloc|apply pw_below_drewN|apply below_drew1))));(case aL => have:=LMc18.out;omega);intro v191 w112 ho hb hg hat;rw [← Ny190.out] at ho;have n0_:=aM (Kd.R_over' (by (with_reducible repeat (first|apply Kd.R_alloc|apply Kd.R_drewN|apply Kd.R_drew));exact HO183.out) (Kd.R_typed (by (with_reducible repeat (first|apply Kd.R_alloc|apply Kd.R_drewN|apply Kd.R_drew));exact HO189.out)) (by decide) hg);have n1_:=aM (Kd.R_after (ok:=(fun _ => True)) (by (with_reducible repeat (first|apply Kd.R_alloc|apply Kd.R_drewN|apply Kd.R_drew));exact HO186.out) hg hat);have n2_:=aM (hb);have n3_:=aM (ho);clear HO183;clear HO186;clear HB;clear HO189;have HO183:=n0_;have HO186:=n1_;have HB:=n2_;have HO192:=n3_;clear n0_ n1_ n2_ n3_;clear ho hb hg hat)|((with_reducible refine gate_builtin (b:=.append) (xs:=#[.tmp 41,.tmp 42]) rfl ?_);(try (refine gate_guard (by rfl) ?_;dsimp only));at_builtin;refine Kd.R_append_rows (Kd.int .u8) (w0:=w) w.heap.size rfl (.tmp 41) (.tmp 42) 24 5 (.int .u8 0) 1 rfl Try.underlying24 info5 rfl (by decide) (by omega) v191 y190 l2 _ _ _ (fun k_ => some k_ ≠ (.slice Ao110 t184.length co110 : Value).ownBlock) (fun _ => False) rfl rfl ?aO ?aR (fun _ _ h => h) (fun _ h => h.elim) ?aF ?aB ?aS ?aL ?_;(case aR => repeat (first|exact (Kd.C_below HR2.out HB.out)|(with_reducible first|refine Kd.C_alloc ?_ _|refine Kd.C_drewN ?_ _|refine Kd.C_drew ?_)));(case aB => exact (by repeat (with_reducible first|exact HB.out|apply below_alloc|apply pw_below_drewN|apply below_drew1)));(case aF => exact (fun k_ hk => Kd.fresh' (Kd.R_lt (by (with_reducible repeat (first|apply Kd.R_alloc|apply Kd.R_drewN|apply Kd.R_drew));exact HO186.out)) k_ hk));(case aO => exact (by (with_reducible repeat (first|apply Kd.R_alloc|apply Kd.R_drewN|apply Kd.R_drew));exact HO192.out));(case aS => exact (below_size (by repeat (with_reducible first|exact HB.out|apply below_alloc|apply pw_below_drewN|apply below_drew1))));(case aL => have:=LMc19.out;omega);intro v194 w113 ho hb hg hat;rw [← Ny193.out] at ho;have n0_:=aM (Kd.R_over' (by (with_reducible repeat (first|apply Kd.R_alloc|apply Kd.R_drewN|apply Kd.R_drew));exact HO183.out) (Kd.R_typed (by (with_reducible repeat (first|apply Kd.R_alloc|apply Kd.R_drewN|apply Kd.R_drew));exact HO192.out)) (by decide) hg);have n1_:=aM (Kd.R_after (ok:=(fun _ => True)) (by (with_reducible repeat (first|apply Kd.R_alloc|apply Kd.R_drewN|apply Kd.R_drew));exact HO186.out) hg hat);have n2_:=aM (hb);have n3_:=aM (ho);clear HO183;clear HO186;clear HB;clear HO192;have HO183:=n0_;have HO186:=n1_;have HB:=n2_;have HO195:=n3_;clear n0_ n1_ n2_ n3_;clear ho hb hg hat;obtain ⟨Ao114,co114,eo114⟩:=Kd.R_slice HO195.out;subst eo114)|((with_reducible refine gate_callee (f:=16) rfl ?_);refine goesL_ (some 48) rfl rfl Try.func16 (by kernel_rfl) rfl #[.slice Ao114 y193.length co114,.int .i64 (l1.length : Int)] rfl (by (try simp only [List.map_toArray,List.map_cons,List.map_nil]);first|done|rfl|(simp only [List.length_drop,List.length_take];rfl)) ?_;(with_reducible refine (vint_Get.calls kj4 _ _ y193 (l1.length : Int) t196 t197 t198 _ ?side1 ?side2 A20.out).mono ?_);(case side1 => repeat (first|exact (Kd.R_reads' HO195.out).2.2|(with_reducible first|refine Kd.C_alloc ?_ _|refine Kd.C_drewN ?_ _|refine Kd.C_drew ?_)));(case side2 => exact (Kd.R_reads' HO195.out).2.1);rintro e w' ⟨rfl,⟨nd,rfl⟩⟩;refine ⟨_,rfl,?_⟩;have q115 : ((ji21) : Int) ≤ ((t184.length : Int) : Int):=of_decide_eq_true (by first|(with_reducible assumption)|assumption);obtain ⟨i0115,hi0115,_,hsz115,_⟩:=info_parts info5;have hroom115 : t184.length ≤ co110:=(Kd.R_reads' HO186.out).2.1;have hC115 : Kd.C (Kd.int .u8) _ Ao110 t184.length t184:=(Kd.R_reads' HO186.out).2.2;have hcut115:=cut_to (P:=Try.prog) 24 5 .i64 Try.underlying24 hi0115 Ao110 t184.length co110 (ji21) (of_decide_eq_true (by first|(with_reducible assumption)|assumption)) q115 hroom115;have hr115:=Kd.C_take (m:=((ji21) : Int).toNat) hC115 (by omega);have hy115 : y199.length = ((ji21) : Int).toNat:=(by rw [Ny199.out,List.length_take];omega);rw [← Ny199.out] at hr115;rw [← hy115] at hcut115;have HR202:=aM hr115;have HC202:=aM (show y199.length ≤ co110 from by omega);clear hr115 hC115 hroom115 hi0115 hsz115;have KY115:=aM hy115;clear hy115;have KL115:=aM (show ((ji21) : Int).toNat ≤ t184.length from by omega);replace q115:=eq_true q115)|((with_reducible refine gate_callee (f:=16) rfl ?_);refine goesL_ (some 60) rfl rfl Try.func16 (by kernel_rfl) rfl #[.slice Ao110 y199.length co110,.int .i64 0] rfl (by (try simp only [List.map_toArray,List.map_cons,List.map_nil]);first|done|rfl|(simp only [List.length_drop,List.length_take];rfl)) ?_;(with_reducible refine (vint_Get.calls kj4 _ _ y199 0 t203 t204 t205 _ ?side1 ?side2 A24.out).mono ?_);(case side1 => repeat (first|exact (by repeat (first|(with_reducible exact HR202.out)|(with_reducible first|refine Kd.C_alloc ?_ _|refine Kd.C_drewN ?_ _|refine Kd.C_drew ?_)|exact HR202.out))|(with_reducible first|refine Kd.C_alloc ?_ _|refine Kd.C_drewN ?_ _|refine Kd.C_drew ?_)));(case side2 => exact HC202.out);rintro e w' ⟨rfl,⟨nd,rfl⟩⟩;refine ⟨_,rfl,?_⟩)|((with_reducible refine gate_callee (f:=16) rfl ?_);refine goesL_ (some 66) rfl rfl Try.func16 (by kernel_rfl) rfl #[.slice A2 l2.length c2,.int .i64 0] rfl (by (try simp only [List.map_toArray,List.map_cons,List.map_nil]);first|done|rfl|(simp only [List.length_drop,List.length_take];rfl)) ?_;(with_reducible refine (vint_Get.calls kj4 _ _ l2 0 t206 t207 t208 _ ?side1 ?side2 A25.out).mono ?_);(case side1 => repeat (first|exact (Kd.C_below HR2.out (by repeat (with_reducible first|exact HB.out|apply below_alloc|apply pw_below_drewN|apply below_drew1)))|(with_reducible first|refine Kd.C_alloc ?_ _|refine Kd.C_drewN ?_ _|refine Kd.C_drew ?_)));(case side2 => exact HC2.out);rintro e w' ⟨rfl,⟨nd,rfl⟩⟩;refine ⟨_,rfl,?_⟩))
               (try (rw [drewN_self w113];generalize hq_ : World.drewN w113 _ = w113;have n0_ : Aside0 (Kd.R (Kd.int .u64) 26 w113 w.heap.size (fun _ => True) (.slice Ao108 y181.length co108) y181):=⟨by rw [← hq_];exact (by (with_reducible repeat (first | apply Kd.R_alloc | apply Kd.R_drewN | apply Kd.R_drew));exact HO183.out)⟩;have n1_ : Aside0 (Kd.R (Kd.int .u8) 5 w113 w.heap.size (fun k_ => some k_ ≠ (.slice Ao114 y193.length co114 : Value).ownBlock) (.slice Ao110 t184.length co110) t184):=⟨by rw [← hq_];exact (by (with_reducible repeat (first | apply Kd.R_alloc | apply Kd.R_drewN | apply Kd.R_drew));exact Kd.R_mono HO186.out (fun _ hk => hk.2))⟩;have n2_ : Aside0 (Kd.R (Kd.int .u8) 5 w113 w.heap.size (fun k_ => some k_ ≠ (.slice Ao110 t184.length co110 : Value).ownBlock) (.slice Ao114 y193.length co114) y193):=⟨by rw [← hq_];exact (by (with_reducible repeat (first | apply Kd.R_alloc | apply Kd.R_drewN | apply Kd.R_drew));exact HO195.out)⟩;have n3_ : Aside0 (Below w.heap.size w w113):=⟨by rw [← hq_];exact (by repeat (first | (with_reducible first | exact HB.out | apply below_alloc | apply pw_below_drewN | apply below_drew1) | exact HB.out))⟩;have n4_ : Aside0 (Kd.C (Kd.int .u8) w113 Ao110 y199.length y199):=⟨by rw [← hq_];exact (by repeat (first | (with_reducible exact HR202.out) | (with_reducible refine Kd.C_alloc ?_ _) | (with_reducible refine Kd.C_drewN ?_ _) | (with_reducible refine Kd.C_drew ?_) | exact HR202.out))⟩;clear HO183 HO186 HO195 HB HR202 hq_;have HO183:=n0_;have HO186:=n1_;have HO195:=n2_;have HB:=n3_;have HR202:=n4_;clear n0_ n1_ n2_ n3_ n4_))
               have n0_:=aM (Kd.R_drew HO183.out)
               have n1_:=aM (Kd.R_drew HO186.out)
               have n2_:=aM (Kd.R_drew HO195.out)
               have n3_:=aM (Kd.C_drew HR202.out)
               have n4_:=aM (below_drew1 HB.out)
               clear HO183
               clear HO186
               clear HO195
               clear HR202
               clear HB
               have HO183:=n0_
               have HO186:=n1_
               have HO195:=n2_
               have HR202:=n3_
               have HB:=n4_
               clear n0_ n1_ n2_ n3_ n4_
               obtain ⟨i0117,hi0117,_,hsz117,_⟩:=info_parts info5
               obtain ⟨hcut117,hA117,hC117⟩:=print_take_of (P:=Try.prog) (Value.int .u8) 0 24 5 .i64 Try.underlying24 hi0117 hsz117 A2 c2 l2 t207 (of_decide_eq_true (by first | (with_reducible assumption) | assumption)) (of_decide_eq_true (by first | (with_reducible assumption) | assumption)) HC2.out
               have HR215:=aM (Kd.C_of_reads (h1:=fun _ => rfl) (hA117 _ (Kd.reads_of_C HR2.out)))
               have HC215:=aM hC117
               clear hA117 hC117 hi0117 hsz117
               refine start_ (n:=12) (S:=fun w' => True) (ds:=[]) #[false,false,false,false,false,false,false,false,false,false,false,false] (by kernel_rfl) rfl rfl trivial (fun hHeld => ?_);refine with_tabW lapidarylaw01_VintOnce.tab13 lapidarylaw01_VintOnce.bits13 (fun HT_ HW_ => ?_)
               generalize w113.drew = w116 at HO183 HO186 HO195 HR202 HB HR215 hHeld ⊢
               refine pure_ (i:=0) (N:=some 70) (v:=?_) (a':=?_) #[true,false,false,false,false,false,false,false,false,false,false,false] rfl rfl (any_of HT_.out (by kernel_rfl)) (fun _ _ _ h => h) (Or.inl ⟨by rfl,?_⟩) ?_ ?_
               rotate_left
               ·intro w'
                go_simp
                with_reducible rfl
               rotate_left
               ·simp only [Act.put,sA,sB,sC,i64_w,i32_w]
                rfl
               refine pure_ (i:=1) (N:=some 71) (v:=?_) (a':=?_) #[true,true,false,false,false,false,false,false,false,false,false,false] rfl rfl (any_of HT_.out (by kernel_rfl)) (fun _ _ _ h => h) (Or.inl ⟨by rfl,?_⟩) ?_ ?_
               rotate_left
               ·intro w'
                go_simp
                with_reducible rfl
               rotate_left
               ·simp only [Act.put,sA,sB,sC,i64_w,i32_w]
                rfl
               refine pure_ (i:=2) (N:=some 72) (v:=?_) (a':=?_) #[true,true,true,false,false,false,false,false,false,false,false,false] rfl rfl (any_of HT_.out (by kernel_rfl)) (fun _ _ _ h => h) (Or.inl ⟨by rfl,?_⟩) ?_ ?_
               rotate_left
               ·intro w'
                go_simp
                with_reducible rfl
               rotate_left
               ·simp only [Act.put,sA,sB,sC,i64_w,i32_w]
                rfl
               refine pure_ (i:=3) (N:=some 73) (v:=?_) (a':=?_) #[true,true,true,true,false,false,false,false,false,false,false,false] rfl rfl (any_of HT_.out (by kernel_rfl)) (fun _ _ _ h => h) (Or.inl ⟨by rfl,?_⟩) ?_ ?_
               rotate_left
               ·intro w'
                go_simp
                with_reducible rfl
               rotate_left
               ·simp only [Act.put,sA,sB,sC,i64_w,i32_w]
                rfl
               refine pure_ (i:=6) (N:=some 76) (v:=?_) (a':=?_) #[true,true,true,true,false,false,true,false,false,false,false,false] rfl rfl (any_of HT_.out (by kernel_rfl)) (fun _ _ _ h => h) (Or.inl ⟨by rfl,?_⟩) ?_ ?_
               rotate_left
               ·intro w'
                go_simp
                with_reducible rfl
               rotate_left
               ·simp only [Act.put,sA,sB,sC,i64_w,i32_w]
                rfl
               refine pure_ (i:=7) (N:=some 77) (v:=?_) (a':=?_) #[true,true,true,true,false,false,true,true,false,false,false,false] rfl rfl (any_of HT_.out (by kernel_rfl)) (fun _ _ _ h => h) (Or.inl ⟨by rfl,?_⟩) ?_ ?_
               rotate_left
               ·intro w'
                go_simp
                with_reducible rfl
               rotate_left
               ·simp only [Act.put,sA,sB,sC,i64_w,i32_w]
                rfl
               refine pure_ (i:=8) (N:=some 78) (v:=?_) (a':=?_) #[true,true,true,true,false,false,true,true,true,false,false,false] rfl rfl (any_of HT_.out (by kernel_rfl)) (fun _ _ _ h => h) (Or.inl ⟨by rfl,?_⟩) ?_ ?_
               rotate_left
               ·intro w'
                go_simp
                with_reducible rfl
               rotate_left
               ·simp only [Act.put,sA,sB,sC,i64_w,i32_w]
                rfl
               refine one_ (i:=4) (N:=some 74) #[true,true,true,true,true,false,true,true,true,false,false,false] rfl rfl (one_of HT_.out (by kernel_rfl)) (by decide) (fun K hK => ?_)
               refine Kd.R_lit_step (Kd.int .u64) _ 26 ?hg (N:=74) ?hd (xs:=([t206] : List Int)) (inner:=[.int .u64 t206]) (ok:=fun _ => True) (okp:=fun _ => True) ?hr ?hp (fun _ hk => hk) trivial (Below.refl _ _) (Nat.le_refl _) (by simp) ?_;(case hd => rfl);(case hg => rfl);(case hr => first | (go_simp;done) | (go_simp;rfl));(case hp => exact (Reps.one (show Kd.M (Kd.int .u64) _ _ _ t206 [.int .u64 t206] from rfl) (Reps.none _ _)))
               intro v210 w118 ho119 hb hg_ hnew_
               clear hg_ hnew_
               (first | rw [← Ny209.out] at ho119 | (simp only [Int.reduceToNat] at ho119;rw [← Ny209.out] at ho119))
               have n0_:=aM (Kd.R_elder' (by (with_reducible repeat (first | apply Kd.R_alloc | apply Kd.R_drewN | apply Kd.R_drew));exact HO183.out) (Kd.R_base ho119) hb)
               have n1_:=aM (Kd.R_below (by (with_reducible repeat (first | apply Kd.R_alloc | apply Kd.R_drewN | apply Kd.R_drew));exact HO186.out) hb)
               have n2_:=aM (Kd.R_below (by (with_reducible repeat (first | apply Kd.R_alloc | apply Kd.R_drewN | apply Kd.R_drew));exact HO195.out) hb)
               have n3_:=aM (Kd.R_lower (Kd.R_new' ho119 (Kd.R_lt (by (with_reducible repeat (first | apply Kd.R_alloc | apply Kd.R_drewN | apply Kd.R_drew));exact HO183.out))) (below_size (by repeat (first | (with_reducible first | exact HB.out | apply below_alloc | apply pw_below_drewN | apply below_drew1) | exact HB.out))))
               have n4_:=aM (Kd.C_below (by repeat (first | (with_reducible exact HR202.out) | (with_reducible refine Kd.C_alloc ?_ _) | (with_reducible refine Kd.C_drewN ?_ _) | (with_reducible refine Kd.C_drew ?_) | exact HR202.out)) hb)
               have n5_:=aM (below_step (by repeat (first | (with_reducible first | exact HB.out | apply below_alloc | apply pw_below_drewN | apply below_drew1) | exact HB.out)) hb)
               clear HO183
               clear HO186
               clear HO195
               clear HR202
               clear HB
               have HO183:=n0_
               have HO186:=n1_
               have HO195:=n2_
               have HO211:=n3_
               have HR202:=n4_
               have HB:=n5_
               clear n0_ n1_ n2_ n3_ n4_ n5_
               clear hb ho119
               obtain ⟨Ao120,co120,eo120⟩:=Kd.R_slice HO211.out
               (first | subst eo120 | (injection eo120 with f1_ f2_ f3_;have f4_:=f1_.symm;have f5_:=f3_.symm;clear f1_ f2_ f3_;subst f4_;subst f5_))
               refine hK.out _ _ trivial (fun hHeld => ?_)
               clear hK K
               refine norm_ (a':=?_) ?_ ?_
               rotate_left
               ·show Act.put _ (some 74) _ = _
                simp only [Act.put,sA,sB,sC,i64_w,i32_w]
                rfl
               refine one_ (i:=5) (N:=some 75) #[true,true,true,true,true,true,true,true,true,false,false,false] rfl rfl (one_of HT_.out (by kernel_rfl)) (by decide) (fun K hK => ?_)
               refine goes_ Try.func15 (by kernel_rfl) rfl #[.slice Ao120 y209.length co120] (by rfl) rfl rfl (by (try simp only [List.map_toArray,List.map_cons,List.map_nil]);first | done | rfl | (simp only [List.length_drop,List.length_take];rfl)) ?_
               with_reducible refine (vint_Put.calls kj4 _ _ y209 t212 _ ?side1 ?side2 A27.out).mono ?_
               (case side1 => repeat (first|exact (Kd.R_reads' HO211.out).2.2|(with_reducible first|refine Kd.C_alloc ?_ _|refine Kd.C_drewN ?_ _|refine Kd.C_drew ?_)))
               (case side2 => exact (Kd.R_reads' HO211.out).2.1)
               rintro e w121 ⟨v213,rfl,ho0,hb⟩
               refine ⟨_,rfl,?_⟩
               have n0_:=aM (Kd.R_below (by (with_reducible repeat (first | apply Kd.R_alloc | apply Kd.R_drewN | apply Kd.R_drew));exact HO183.out) hb)
               have n1_:=aM (Kd.R_elder' (by (with_reducible repeat (first | apply Kd.R_alloc | apply Kd.R_drewN | apply Kd.R_drew));exact HO186.out) (Kd.R_base ho0) hb)
               have n2_:=aM (Kd.R_elder' (by (with_reducible repeat (first | apply Kd.R_alloc | apply Kd.R_drewN | apply Kd.R_drew));exact HO195.out) (Kd.R_base ho0) hb)
               have n3_:=aM (Kd.R_below (by (with_reducible repeat (first | apply Kd.R_alloc | apply Kd.R_drewN | apply Kd.R_drew));exact HO211.out) hb)
               have n4_:=aM (Kd.R_lower (Kd.R_new' (Kd.R_new' ho0 (Kd.R_lt (by (with_reducible repeat (first | apply Kd.R_alloc | apply Kd.R_drewN | apply Kd.R_drew));exact HO186.out))) (Kd.R_lt (by (with_reducible repeat (first | apply Kd.R_alloc | apply Kd.R_drewN | apply Kd.R_drew));exact HO195.out))) (below_size (by repeat (first | (with_reducible first | exact HB.out | apply below_alloc | apply pw_below_drewN | apply below_drew1) | exact HB.out))))
               have n5_:=aM (Kd.C_below (by repeat (first | (with_reducible exact HR202.out) | (with_reducible refine Kd.C_alloc ?_ _) | (with_reducible refine Kd.C_drewN ?_ _) | (with_reducible refine Kd.C_drew ?_) | exact HR202.out)) hb)
               have n6_:=aM (below_step (by repeat (first | (with_reducible first | exact HB.out | apply below_alloc | apply pw_below_drewN | apply below_drew1) | exact HB.out)) hb)
               clear HO183
               clear HO186
               clear HO195
               clear HO211
               clear HR202
               clear HB
               have HO183:=n0_
               have HO186:=n1_
               have HO195:=n2_
               have HO211:=n3_
               have HO214:=n4_
               have HR202:=n5_
               have HB:=n6_
               clear n0_ n1_ n2_ n3_ n4_ n5_ n6_
               (try clear hb)
               (try clear hb2)
               (try clear hk)
               (try clear hi)
               (try clear ho0)
               obtain ⟨Ao122,co122,eo122⟩:=Kd.R_slice HO214.out
               (first | subst eo122 | (injection eo122 with f1_ f2_ f3_;have f4_:=f1_.symm;have f5_:=f3_.symm;clear f1_ f2_ f3_;subst f4_;subst f5_))
               refine hK.out _ _ trivial (fun hHeld => ?_)
               clear hK K
               refine norm_ (a':=?_) ?_ ?_
               rotate_left
               ·show Act.put _ (some 75) _ = _
                simp only [Act.put,sA,sB,sC,i64_w,i32_w]
                rfl
               refine one_ (i:=9) (N:=some 79) #[true,true,true,true,true,true,true,true,true,true,false,false] rfl rfl (one_of HT_.out (by kernel_rfl)) (by decide) (fun K hK => ?_)
               refine goes_ Try.func14 (by kernel_rfl) rfl #[.slice Ao122 t212.length co122,.slice A2 (l2.take (t207 : Int).toNat).length c2] (by rfl) rfl rfl (by (try simp only [List.map_toArray,List.map_cons,List.map_nil]);first | done | (rw [show (l2.take (t207 : Int).toNat).length = t207.toNat from (by rw [List.length_take];have h_ : (t207 : Int) ≤ (l2.length : Int):=of_decide_eq_true (by first | (with_reducible assumption) | assumption);omega)]<;>rfl) | rfl | (simp only [List.length_drop,List.length_take];rfl)) ?_
               with_reducible refine (lapidaryref00_Same.calls _ _ t212 _ _ (l2.take (t207 : Int).toNat) true _ ?side1 ?side2 ?side3 ?side4 A30.out).mono ?_
               (case side1 => repeat (first|exact (Kd.R_reads' HO214.out).2.2|(with_reducible first|refine Kd.C_alloc ?_ _|refine Kd.C_drewN ?_ _|refine Kd.C_drew ?_)))
               (case side2 => exact (Kd.R_reads' HO214.out).2.1)
               (case side3 => repeat (first|exact (Kd.C_below HR215.out HB.out)|(with_reducible first|refine Kd.C_alloc ?_ _|refine Kd.C_drewN ?_ _|refine Kd.C_drew ?_)))
               (case side4 => exact HC215.out)
               rintro e w' ⟨rfl,⟨nd,rfl⟩⟩
               refine ⟨_,rfl,?_⟩
               refine hK.out _ _ trivial (fun hHeld => ?_)
               clear hK K
               refine norm_ (a':=?_) ?_ ?_
               rotate_left
               ·show Act.put _ (some 79) _ = _
                simp only [Act.put,sA,sB,sC,i64_w,i32_w]
                rfl
               refine pure_ (i:=10) (N:=some 80) (v:=?_) (a':=?_) #[true,true,true,true,true,true,true,true,true,true,true,false] rfl rfl (any_of HT_.out (by kernel_rfl)) (fun _ _ _ h => h) (Or.inl ⟨by rfl,?_⟩) ?_ ?_
               rotate_left
               ·intro w'
                go_simp
                with_reducible rfl
               rotate_left
               ·simp only [Act.put,sA,sB,sC,i64_w,i32_w]
                rfl
               refine pure_ (i:=11) (N:=some 81) (v:=?_) (a':=?_) #[true,true,true,true,true,true,true,true,true,true,true,true] rfl rfl (any_of HT_.out (by kernel_rfl)) (fun _ _ _ h => h) (Or.inl ⟨by rfl,?_⟩) ?_ ?_
               rotate_left
               ·intro w'
                go_simp
                with_reducible rfl
               rotate_left
               ·simp only [Act.put,sA,sB,sC,i64_w,i32_w]
                rfl
               refine done_ (done_of HT_.out (by kernel_rfl)) ?_
               try go_wp2
               go_ret
               exact ⟨by first | rfl | (simp [errW_none,errW_some]<;>rfl) | (simp only [← hji21];first | rfl | (simp [errW_none,errW_some]<;>rfl)) | (simp [*,errW_none,errW_some]<;>rfl),by repeat (first | (with_reducible first | exact HB.out | apply below_alloc | apply pw_below_drewN | apply below_drew1) | exact HB.out)⟩
             ·replace c31:=Bool.eq_false_iff.mpr c31
              subst c31
              have H1 : (some false) = some r:=by rw [if_neg (show ¬ (false = true) by decide)] at H;exact H
              clear H
              have H:=H1
              clear H1
              obtain rfl:=Option.some.inj H
              try go_wp2_with (first|((with_reducible refine gate_dst (N:=30) rfl ?_);(try (refine gate_guard (by rfl) ?_;dsimp only));refine Kd.R_lit (Kd.int .u64) _ 26 ?hg (N:=30) ?hd (xs:=([a0] : List Int)) (inner:=[.int .u64 a0]) (ok:=fun _ => True) (okp:=fun _ => True) ?hr ?hp (fun _ hk => hk) trivial (Below.refl _ _) (Nat.le_refl _) (by simp) ?_;(case hd => rfl);(case hg => rfl);(case hr => first|(go_simp;done)|(go_simp;rfl));(case hp => exact (Reps.one (show Kd.M (Kd.int .u64) _ _ _ a0 [.int .u64 a0] from rfl) (Reps.none _ _)));intro v182 w123 ho124 hb hg_ hnew_;clear hg_ hnew_;(first|rw [← Ny181.out] at ho124|(simp only [Int.reduceToNat] at ho124;rw [← Ny181.out] at ho124));have n0_:=aM (Kd.R_lower ho124 (below_size (by repeat (with_reducible first|exact HB.out|apply below_alloc|apply pw_below_drewN|apply below_drew1))));have n1_:=aM (below_step (by repeat (with_reducible first|exact HB.out|apply below_alloc|apply pw_below_drewN|apply below_drew1)) hb);clear HB;have HO183:=n0_;have HB:=n1_;clear n0_ n1_;clear hb ho124;obtain ⟨Ao125,co125,eo125⟩:=Kd.R_slice HO183.out;subst eo125)|((with_reducible refine gate_callee (f:=15) rfl ?_);refine goesL_ (some 31) rfl rfl Try.func15 (by kernel_rfl) rfl #[.slice Ao125 y181.length co125] rfl (by (try simp only [List.map_toArray,List.map_cons,List.map_nil]);first|done|rfl|(simp only [List.length_drop,List.length_take];rfl)) ?_;(with_reducible refine (vint_Put.calls kj4 _ _ y181 t184 _ ?side1 ?side2 A10.out).mono ?_);(case side1 => repeat (first|exact (Kd.R_reads' HO183.out).2.2|(with_reducible first|refine Kd.C_alloc ?_ _|refine Kd.C_drewN ?_ _|refine Kd.C_drew ?_)));(case side2 => exact (Kd.R_reads' HO183.out).2.1);rintro e w126 ⟨v185,rfl,ho0,hb⟩;refine ⟨_,rfl,?_⟩;have n0_:=aM (Kd.R_below (by (with_reducible repeat (first|apply Kd.R_alloc|apply Kd.R_drewN|apply Kd.R_drew));exact HO183.out) hb);have n1_:=aM (Kd.R_lower ho0 (below_size (by repeat (with_reducible first|exact HB.out|apply below_alloc|apply pw_below_drewN|apply below_drew1))));have n2_:=aM (below_step (by repeat (with_reducible first|exact HB.out|apply below_alloc|apply pw_below_drewN|apply below_drew1)) hb);clear HO183;clear HB;have HO183:=n0_;have HO186:=n1_;have HB:=n2_;clear n0_ n1_ n2_;(try clear hb);(try clear hb2);(try clear hk);(try clear hi);(try clear ho0);obtain ⟨Ao127,co127,eo127⟩:=Kd.R_slice HO186.out;subst eo127)|((with_reducible refine gate_builtin (b:=.append) (xs:=#[.tmp 35,.tmp 36]) rfl ?_);(try (refine gate_guard (by rfl) ?_;dsimp only));at_builtin;refine Kd.R_append_rows (Kd.int .u8) (w0:=w) w.heap.size rfl (.tmp 35) (.tmp 36) 24 5 (.int .u8 0) 1 rfl Try.underlying24 info5 rfl (by decide) (by omega) (.slice none 0 0) ([] : List Int) l1 _ _ _ (fun k_ => some k_ ≠ (.slice Ao127 t184.length co127 : Value).ownBlock) (fun _ => False) rfl rfl ?aO ?aR (fun _ _ h => h) (fun _ h => h.elim) ?aF ?aB ?aS ?aL ?_;(case aR => repeat (first|exact (Kd.C_below HR1.out HB.out)|(with_reducible first|refine Kd.C_alloc ?_ _|refine Kd.C_drewN ?_ _|refine Kd.C_drew ?_)));(case aB => exact (by repeat (with_reducible first|exact HB.out|apply below_alloc|apply pw_below_drewN|apply below_drew1)));(case aF => exact (fun k_ hk => Kd.fresh' (Kd.R_lt (by (with_reducible repeat (first|apply Kd.R_alloc|apply Kd.R_drewN|apply Kd.R_drew));exact HO186.out)) k_ hk));(case aO => exact ((Kd.R_nil _ _ _ _ (fun k_ => some k_ ≠ (.slice Ao127 t184.length co127 : Value).ownBlock))));(case aS => exact (below_size (by repeat (with_reducible first|exact HB.out|apply below_alloc|apply pw_below_drewN|apply below_drew1))));(case aL => have:=LMc17.out;omega);intro v188 w128 ho hb hg hat;rw [← Ny187.out] at ho;have n0_:=aM (Kd.R_grown (by (with_reducible repeat (first|apply Kd.R_alloc|apply Kd.R_drewN|apply Kd.R_drew));exact HO183.out) hg (fun _ _ => by simp [Value.ownBlock]));have n1_:=aM (Kd.R_after (Kd.R_apart_nil (by (with_reducible repeat (first|apply Kd.R_alloc|apply Kd.R_drewN|apply Kd.R_drew));exact HO186.out)) hg hat);have n2_:=aM (hb);have n3_:=aM (ho);clear HO183;clear HO186;clear HB;have HO183:=n0_;have HO186:=n1_;have HB:=n2_;have HO189:=n3_;clear n0_ n1_ n2_ n3_;clear ho hb hg hat)|((with_reducible refine gate_builtin (b:=.append) (xs:=#[.tmp 38,.tmp 39]) rfl ?_);(try (refine gate_guard (by rfl) ?_;dsimp only));at_builtin;refine Kd.R_append_rows (Kd.int .u8) (w0:=w) w.heap.size rfl (.tmp 38) (.tmp 39) 24 5 (.int .u8 0) 1 rfl Try.underlying24 info5 rfl (by decide) (by omega) v188 y187 t184 _ _ _ (fun k_ => some k_ ≠ (.slice Ao127 t184.length co127 : Value).ownBlock) (fun _ => False) rfl rfl ?aO ?aR (fun _ _ h => h) (fun _ h => h.elim) ?aF ?aB ?aS ?aL ?_;(case aR => repeat (first|exact (Kd.R_reads' HO186.out).2.2|(with_reducible first|refine Kd.C_alloc ?_ _|refine Kd.C_drewN ?_ _|refine Kd.C_drew ?_)));(case aB => exact (by repeat (with_reducible first|exact HB.out|apply below_alloc|apply pw_below_drewN|apply below_drew1)));(case aF => exact (fun k_ hk => Kd.fresh' (Kd.R_lt (by (with_reducible repeat (first|apply Kd.R_alloc|apply Kd.R_drewN|apply Kd.R_drew));exact HO186.out)) k_ hk));(case aO => exact (by (with_reducible repeat (first|apply Kd.R_alloc|apply Kd.R_drewN|apply Kd.R_drew));exact HO189.out));(case aS => exact (below_size (by repeat (with_reducible first|exact HB.out|apply below_alloc|apply pw_below_drewN|apply below_drew1))));(case aL => have:=LMc18.out;omega);intro v191 w129 ho hb hg hat;rw [← Ny190.out] at ho;have n0_:=aM (Kd.R_over' (by (with_reducible repeat (first|apply Kd.R_alloc|apply Kd.R_drewN|apply Kd.R_drew));exact HO183.out) (Kd.R_typed (by (with_reducible repeat (first|apply Kd.R_alloc|apply Kd.R_drewN|apply Kd.R_drew));exact HO189.out)) (by decide) hg);have n1_:=aM (Kd.R_after (ok:=(fun _ => True)) (by (with_reducible repeat (first|apply Kd.R_alloc|apply Kd.R_drewN|apply Kd.R_drew));exact HO186.out) hg hat);have n2_:=aM (hb);have n3_:=aM (ho);clear HO183;clear HO186;clear HB;clear HO189;have HO183:=n0_;have HO186:=n1_;have HB:=n2_;have HO192:=n3_;clear n0_ n1_ n2_ n3_;clear ho hb hg hat)|((with_reducible refine gate_builtin (b:=.append) (xs:=#[.tmp 41,.tmp 42]) rfl ?_);(try (refine gate_guard (by rfl) ?_;dsimp only));at_builtin;refine Kd.R_append_rows (Kd.int .u8) (w0:=w) w.heap.size rfl (.tmp 41) (.tmp 42) 24 5 (.int .u8 0) 1 rfl Try.underlying24 info5 rfl (by decide) (by omega) v191 y190 l2 _ _ _ (fun k_ => some k_ ≠ (.slice Ao127 t184.length co127 : Value).ownBlock) (fun _ => False) rfl rfl ?aO ?aR (fun _ _ h => h) (fun _ h => h.elim) ?aF ?aB ?aS ?aL ?_;(case aR => repeat (first|exact (Kd.C_below HR2.out HB.out)|(with_reducible first|refine Kd.C_alloc ?_ _|refine Kd.C_drewN ?_ _|refine Kd.C_drew ?_)));(case aB => exact (by repeat (with_reducible first|exact HB.out|apply below_alloc|apply pw_below_drewN|apply below_drew1)));(case aF => exact (fun k_ hk => Kd.fresh' (Kd.R_lt (by (with_reducible repeat (first|apply Kd.R_alloc|apply Kd.R_drewN|apply Kd.R_drew));exact HO186.out)) k_ hk));(case aO => exact (by (with_reducible repeat (first|apply Kd.R_alloc|apply Kd.R_drewN|apply Kd.R_drew));exact HO192.out));(case aS => exact (below_size (by repeat (with_reducible first|exact HB.out|apply below_alloc|apply pw_below_drewN|apply below_drew1))));(case aL => have:=LMc19.out;omega);intro v194 w130 ho hb hg hat;rw [← Ny193.out] at ho;have n0_:=aM (Kd.R_over' (by (with_reducible repeat (first|apply Kd.R_alloc|apply Kd.R_drewN|apply Kd.R_drew));exact HO183.out) (Kd.R_typed (by (with_reducible repeat (first|apply Kd.R_alloc|apply Kd.R_drewN|apply Kd.R_drew));exact HO192.out)) (by decide) hg);have n1_:=aM (Kd.R_after (ok:=(fun _ => True)) (by (with_reducible repeat (first|apply Kd.R_alloc|apply Kd.R_drewN|apply Kd.R_drew));exact HO186.out) hg hat);have n2_:=aM (hb);have n3_:=aM (ho);clear HO183;clear HO186;clear HB;clear HO192;have HO183:=n0_;have HO186:=n1_;have HB:=n2_;have HO195:=n3_;clear n0_ n1_ n2_ n3_;clear ho hb hg hat;obtain ⟨Ao131,co131,eo131⟩:=Kd.R_slice HO195.out;subst eo131)|((with_reducible refine gate_callee (f:=16) rfl ?_);refine goesL_ (some 48) rfl rfl Try.func16 (by kernel_rfl) rfl #[.slice Ao131 y193.length co131,.int .i64 (l1.length : Int)] rfl (by (try simp only [List.map_toArray,List.map_cons,List.map_nil]);first|done|rfl|(simp only [List.length_drop,List.length_take];rfl)) ?_;(with_reducible refine (vint_Get.calls kj4 _ _ y193 (l1.length : Int) t196 t197 t198 _ ?side1 ?side2 A20.out).mono ?_);(case side1 => repeat (first|exact (Kd.R_reads' HO195.out).2.2|(with_reducible first|refine Kd.C_alloc ?_ _|refine Kd.C_drewN ?_ _|refine Kd.C_drew ?_)));(case side2 => exact (Kd.R_reads' HO195.out).2.1);rintro e w' ⟨rfl,⟨nd,rfl⟩⟩;refine ⟨_,rfl,?_⟩;have q132 : ((ji21) : Int) ≤ ((t184.length : Int) : Int):=of_decide_eq_true (by first|(with_reducible assumption)|assumption);obtain ⟨i0132,hi0132,_,hsz132,_⟩:=info_parts info5;have hroom132 : t184.length ≤ co127:=(Kd.R_reads' HO186.out).2.1;have hC132 : Kd.C (Kd.int .u8) _ Ao127 t184.length t184:=(Kd.R_reads' HO186.out).2.2;have hcut132:=cut_to (P:=Try.prog) 24 5 .i64 Try.underlying24 hi0132 Ao127 t184.length co127 (ji21) (of_decide_eq_true (by first|(with_reducible assumption)|assumption)) q132 hroom132;have hr132:=Kd.C_take (m:=((ji21) : Int).toNat) hC132 (by omega);have hy132 : y199.length = ((ji21) : Int).toNat:=(by rw [Ny199.out,List.length_take];omega);rw [← Ny199.out] at hr132;rw [← hy132] at hcut132;have HR202:=aM hr132;have HC202:=aM (show y199.length ≤ co127 from by omega);clear hr132 hC132 hroom132 hi0132 hsz132;have KY132:=aM hy132;clear hy132;have KL132:=aM (show ((ji21) : Int).toNat ≤ t184.length from by omega);replace q132:=eq_true q132)|((with_reducible refine gate_callee (f:=16) rfl ?_);refine goesL_ (some 60) rfl rfl Try.func16 (by kernel_rfl) rfl #[.slice Ao127 y199.length co127,.int .i64 0] rfl (by (try simp only [List.map_toArray,List.map_cons,List.map_nil]);first|done|rfl|(simp only [List.length_drop,List.length_take];rfl)) ?_;(with_reducible refine (vint_Get.calls kj4 _ _ y199 0 t203 t204 t205 _ ?side1 ?side2 A24.out).mono ?_);(case side1 => repeat (first|exact (by repeat (first|(with_reducible exact HR202.out)|(with_reducible first|refine Kd.C_alloc ?_ _|refine Kd.C_drewN ?_ _|refine Kd.C_drew ?_)|exact HR202.out))|(with_reducible first|refine Kd.C_alloc ?_ _|refine Kd.C_drewN ?_ _|refine Kd.C_drew ?_)));(case side2 => exact HC202.out);rintro e w' ⟨rfl,⟨nd,rfl⟩⟩;refine ⟨_,rfl,?_⟩)|((with_reducible refine gate_callee (f:=16) rfl ?_);refine goesL_ (some 66) rfl rfl Try.func16 (by kernel_rfl) rfl #[.slice A2 l2.length c2,.int .i64 0] rfl (by (try simp only [List.map_toArray,List.map_cons,List.map_nil]);first|done|rfl|(simp only [List.length_drop,List.length_take];rfl)) ?_;(with_reducible refine (vint_Get.calls kj4 _ _ l2 0 t206 t207 t208 _ ?side1 ?side2 A25.out).mono ?_);(case side1 => repeat (first|exact (Kd.C_below HR2.out (by repeat (with_reducible first|exact HB.out|apply below_alloc|apply pw_below_drewN|apply below_drew1)))|(with_reducible first|refine Kd.C_alloc ?_ _|refine Kd.C_drewN ?_ _|refine Kd.C_drew ?_)));(case side2 => exact HC2.out);rintro e w' ⟨rfl,⟨nd,rfl⟩⟩;refine ⟨_,rfl,?_⟩))
              (try (rw [drewN_self w130];generalize hq_ : World.drewN w130 _ = w130;have n0_ : Aside0 (Kd.R (Kd.int .u64) 26 w130 w.heap.size (fun _ => True) (.slice Ao125 y181.length co125) y181):=⟨by rw [← hq_];exact (by (with_reducible repeat (first | apply Kd.R_alloc | apply Kd.R_drewN | apply Kd.R_drew));exact HO183.out)⟩;have n1_ : Aside0 (Kd.R (Kd.int .u8) 5 w130 w.heap.size (fun k_ => some k_ ≠ (.slice Ao131 y193.length co131 : Value).ownBlock) (.slice Ao127 t184.length co127) t184):=⟨by rw [← hq_];exact (by (with_reducible repeat (first | apply Kd.R_alloc | apply Kd.R_drewN | apply Kd.R_drew));exact Kd.R_mono HO186.out (fun _ hk => hk.2))⟩;have n2_ : Aside0 (Kd.R (Kd.int .u8) 5 w130 w.heap.size (fun k_ => some k_ ≠ (.slice Ao127 t184.length co127 : Value).ownBlock) (.slice Ao131 y193.length co131) y193):=⟨by rw [← hq_];exact (by (with_reducible repeat (first | apply Kd.R_alloc | apply Kd.R_drewN | apply Kd.R_drew));exact HO195.out)⟩;have n3_ : Aside0 (Below w.heap.size w w130):=⟨by rw [← hq_];exact (by repeat (first | (with_reducible first | exact HB.out | apply below_alloc | apply pw_below_drewN | apply below_drew1) | exact HB.out))⟩;have n4_ : Aside0 (Kd.C (Kd.int .u8) w130 Ao127 y199.length y199):=⟨by rw [← hq_];exact (by repeat (first | (with_reducible exact HR202.out) | (with_reducible refine Kd.C_alloc ?_ _) | (with_reducible refine Kd.C_drewN ?_ _) | (with_reducible refine Kd.C_drew ?_) | exact HR202.out))⟩;clear HO183 HO186 HO195 HB HR202 hq_;have HO183:=n0_;have HO186:=n1_;have HO195:=n2_;have HB:=n3_;have HR202:=n4_;clear n0_ n1_ n2_ n3_ n4_))
              have n0_:=aM (Kd.R_drew HO183.out)
              have n1_:=aM (Kd.R_drew HO186.out)
              have n2_:=aM (Kd.R_drew HO195.out)
              have n3_:=aM (Kd.C_drew HR202.out)
              have n4_:=aM (below_drew1 HB.out)
              clear HO183
              clear HO186
              clear HO195
              clear HR202
              clear HB
              have HO183:=n0_
              have HO186:=n1_
              have HO195:=n2_
              have HR202:=n3_
              have HB:=n4_
              clear n0_ n1_ n2_ n3_ n4_
              obtain ⟨i0134,hi0134,_,hsz134,_⟩:=info_parts info5
              obtain ⟨hcut134,hA134,hC134⟩:=print_take_of (P:=Try.prog) (Value.int .u8) 0 24 5 .i64 Try.underlying24 hi0134 hsz134 A2 c2 l2 t207 (of_decide_eq_true (by first | (with_reducible assumption) | assumption)) (of_decide_eq_true (by first | (with_reducible assumption) | assumption)) HC2.out
              have HR215:=aM (Kd.C_of_reads (h1:=fun _ => rfl) (hA134 _ (Kd.reads_of_C HR2.out)))
              have HC215:=aM hC134
              clear hA134 hC134 hi0134 hsz134
              refine start_ (n:=12) (S:=fun w' => True) (ds:=[]) #[false,false,false,false,false,false,false,false,false,false,false,false] (by kernel_rfl) rfl rfl trivial (fun hHeld => ?_);refine with_tabW lapidarylaw01_VintOnce.tab13 lapidarylaw01_VintOnce.bits13 (fun HT_ HW_ => ?_)
              generalize w130.drew = w133 at HO183 HO186 HO195 HR202 HB HR215 hHeld ⊢
              refine pure_ (i:=0) (N:=some 70) (v:=?_) (a':=?_) #[true,false,false,false,false,false,false,false,false,false,false,false] rfl rfl (any_of HT_.out (by kernel_rfl)) (fun _ _ _ h => h) (Or.inl ⟨by rfl,?_⟩) ?_ ?_
              rotate_left
              ·intro w'
               go_simp
               with_reducible rfl
              rotate_left
              ·simp only [Act.put,sA,sB,sC,i64_w,i32_w]
               rfl
              refine pure_ (i:=1) (N:=some 71) (v:=?_) (a':=?_) #[true,true,false,false,false,false,false,false,false,false,false,false] rfl rfl (any_of HT_.out (by kernel_rfl)) (fun _ _ _ h => h) (Or.inl ⟨by rfl,?_⟩) ?_ ?_
              rotate_left
              ·intro w'
               go_simp
               with_reducible rfl
              rotate_left
              ·simp only [Act.put,sA,sB,sC,i64_w,i32_w]
               rfl
              refine pure_ (i:=2) (N:=some 72) (v:=?_) (a':=?_) #[true,true,true,false,false,false,false,false,false,false,false,false] rfl rfl (any_of HT_.out (by kernel_rfl)) (fun _ _ _ h => h) (Or.inl ⟨by rfl,?_⟩) ?_ ?_
              rotate_left
              ·intro w'
               go_simp
               with_reducible rfl
              rotate_left
              ·simp only [Act.put,sA,sB,sC,i64_w,i32_w]
               rfl
              refine pure_ (i:=3) (N:=some 73) (v:=?_) (a':=?_) #[true,true,true,true,false,false,false,false,false,false,false,false] rfl rfl (any_of HT_.out (by kernel_rfl)) (fun _ _ _ h => h) (Or.inl ⟨by rfl,?_⟩) ?_ ?_
              rotate_left
              ·intro w'
               go_simp
               with_reducible rfl
              rotate_left
              ·simp only [Act.put,sA,sB,sC,i64_w,i32_w]
               rfl
              refine pure_ (i:=6) (N:=some 76) (v:=?_) (a':=?_) #[true,true,true,true,false,false,true,false,false,false,false,false] rfl rfl (any_of HT_.out (by kernel_rfl)) (fun _ _ _ h => h) (Or.inl ⟨by rfl,?_⟩) ?_ ?_
              rotate_left
              ·intro w'
               go_simp
               with_reducible rfl
              rotate_left
              ·simp only [Act.put,sA,sB,sC,i64_w,i32_w]
               rfl
              refine pure_ (i:=7) (N:=some 77) (v:=?_) (a':=?_) #[true,true,true,true,false,false,true,true,false,false,false,false] rfl rfl (any_of HT_.out (by kernel_rfl)) (fun _ _ _ h => h) (Or.inl ⟨by rfl,?_⟩) ?_ ?_
              rotate_left
              ·intro w'
               go_simp
               with_reducible rfl
              rotate_left
              ·simp only [Act.put,sA,sB,sC,i64_w,i32_w]
               rfl
              refine pure_ (i:=8) (N:=some 78) (v:=?_) (a':=?_) #[true,true,true,true,false,false,true,true,true,false,false,false] rfl rfl (any_of HT_.out (by kernel_rfl)) (fun _ _ _ h => h) (Or.inl ⟨by rfl,?_⟩) ?_ ?_
              rotate_left
              ·intro w'
               go_simp
               with_reducible rfl
              rotate_left
              ·simp only [Act.put,sA,sB,sC,i64_w,i32_w]
               rfl
              refine one_ (i:=4) (N:=some 74) #[true,true,true,true,true,false,true,true,true,false,false,false] rfl rfl (one_of HT_.out (by kernel_rfl)) (by decide) (fun K hK => ?_)
              refine Kd.R_lit_step (Kd.int .u64) _ 26 ?hg (N:=74) ?hd (xs:=([t206] : List Int)) (inner:=[.int .u64 t206]) (ok:=fun _ => True) (okp:=fun _ => True) ?hr ?hp (fun _ hk => hk) trivial (Below.refl _ _) (Nat.le_refl _) (by simp) ?_;(case hd => rfl);(case hg => rfl);(case hr => first | (go_simp;done) | (go_simp;rfl));(case hp => exact (Reps.one (show Kd.M (Kd.int .u64) _ _ _ t206 [.int .u64 t206] from rfl) (Reps.none _ _)))
              intro v210 w135 ho136 hb hg_ hnew_
              clear hg_ hnew_
              (first | rw [← Ny209.out] at ho136 | (simp only [Int.reduceToNat] at ho136;rw [← Ny209.out] at ho136))
              have n0_:=aM (Kd.R_elder' (by (with_reducible repeat (first | apply Kd.R_alloc | apply Kd.R_drewN | apply Kd.R_drew));exact HO183.out) (Kd.R_base ho136) hb)
              have n1_:=aM (Kd.R_below (by (with_reducible repeat (first | apply Kd.R_alloc | apply Kd.R_drewN | apply Kd.R_drew));exact HO186.out) hb)
              have n2_:=aM (Kd.R_below (by (with_reducible repeat (first | apply Kd.R_alloc | apply Kd.R_drewN | apply Kd.R_drew));exact HO195.out) hb)
              have n3_:=aM (Kd.R_lower (Kd.R_new' ho136 (Kd.R_lt (by (with_reducible repeat (first | apply Kd.R_alloc | apply Kd.R_drewN | apply Kd.R_drew));exact HO183.out))) (below_size (by repeat (first | (with_reducible first | exact HB.out | apply below_alloc | apply pw_below_drewN | apply below_drew1) | exact HB.out))))
              have n4_:=aM (Kd.C_below (by repeat (first | (with_reducible exact HR202.out) | (with_reducible refine Kd.C_alloc ?_ _) | (with_reducible refine Kd.C_drewN ?_ _) | (with_reducible refine Kd.C_drew ?_) | exact HR202.out)) hb)
              have n5_:=aM (below_step (by repeat (first | (with_reducible first | exact HB.out | apply below_alloc | apply pw_below_drewN | apply below_drew1) | exact HB.out)) hb)
              clear HO183
              clear HO186
              clear HO195
              clear HR202
              clear HB
              have HO183:=n0_
              have HO186:=n1_
              have HO195:=n2_
              have HO211:=n3_
              have HR202:=n4_
              have HB:=n5_
              clear n0_ n1_ n2_ n3_ n4_ n5_
              clear hb ho136
              obtain ⟨Ao137,co137,eo137⟩:=Kd.R_slice HO211.out
              (first | subst eo137 | (injection eo137 with f1_ f2_ f3_;have f4_:=f1_.symm;have f5_:=f3_.symm;clear f1_ f2_ f3_;subst f4_;subst f5_))
              refine hK.out _ _ trivial (fun hHeld => ?_)
              clear hK K
              refine norm_ (a':=?_) ?_ ?_
              rotate_left
              ·show Act.put _ (some 74) _ = _
               simp only [Act.put,sA,sB,sC,i64_w,i32_w]
               rfl
              refine one_ (i:=5) (N:=some 75) #[true,true,true,true,true,true,true,true,true,false,false,false] rfl rfl (one_of HT_.out (by kernel_rfl)) (by decide) (fun K hK => ?_)
              refine goes_ Try.func15 (by kernel_rfl) rfl #[.slice Ao137 y209.length co137] (by rfl) rfl rfl (by (try simp only [List.map_toArray,List.map_cons,List.map_nil]);first | done | rfl | (simp only [List.length_drop,List.length_take];rfl)) ?_
              with_reducible refine (vint_Put.calls kj4 _ _ y209 t212 _ ?side1 ?side2 A27.out).mono ?_
              (case side1 => repeat (first|exact (Kd.R_reads' HO211.out).2.2|(with_reducible first|refine Kd.C_alloc ?_ _|refine Kd.C_drewN ?_ _|refine Kd.C_drew ?_)))
              (case side2 => exact (Kd.R_reads' HO211.out).2.1)
              rintro e w138 ⟨v213,rfl,ho0,hb⟩
              refine ⟨_,rfl,?_⟩
              have n0_:=aM (Kd.R_below (by (with_reducible repeat (first | apply Kd.R_alloc | apply Kd.R_drewN | apply Kd.R_drew));exact HO183.out) hb)
              have n1_:=aM (Kd.R_elder' (by (with_reducible repeat (first | apply Kd.R_alloc | apply Kd.R_drewN | apply Kd.R_drew));exact HO186.out) (Kd.R_base ho0) hb)
              have n2_:=aM (Kd.R_elder' (by (with_reducible repeat (first | apply Kd.R_alloc | apply Kd.R_drewN | apply Kd.R_drew));exact HO195.out) (Kd.R_base ho0) hb)
              have n3_:=aM (Kd.R_below (by (with_reducible repeat (first | apply Kd.R_alloc | apply Kd.R_drewN | apply Kd.R_drew));exact HO211.out) hb)
              have n4_:=aM (Kd.R_lower (Kd.R_new' (Kd.R_new' ho0 (Kd.R_lt (by (with_reducible repeat (first | apply Kd.R_alloc | apply Kd.R_drewN | apply Kd.R_drew));exact HO186.out))) (Kd.R_lt (by (with_reducible repeat (first | apply Kd.R_alloc | apply Kd.R_drewN | apply Kd.R_drew));exact HO195.out))) (below_size (by repeat (first | (with_reducible first | exact HB.out | apply below_alloc | apply pw_below_drewN | apply below_drew1) | exact HB.out))))
              have n5_:=aM (Kd.C_below (by repeat (first | (with_reducible exact HR202.out) | (with_reducible refine Kd.C_alloc ?_ _) | (with_reducible refine Kd.C_drewN ?_ _) | (with_reducible refine Kd.C_drew ?_) | exact HR202.out)) hb)
              have n6_:=aM (below_step (by repeat (first | (with_reducible first | exact HB.out | apply below_alloc | apply pw_below_drewN | apply below_drew1) | exact HB.out)) hb)
              clear HO183
              clear HO186
              clear HO195
              clear HO211
              clear HR202
              clear HB
              have HO183:=n0_
              have HO186:=n1_
              have HO195:=n2_
              have HO211:=n3_
              have HO214:=n4_
              have HR202:=n5_
              have HB:=n6_
              clear n0_ n1_ n2_ n3_ n4_ n5_ n6_
              (try clear hb)
              (try clear hb2)
              (try clear hk)
              (try clear hi)
              (try clear ho0)
              obtain ⟨Ao139,co139,eo139⟩:=Kd.R_slice HO214.out
              (first | subst eo139 | (injection eo139 with f1_ f2_ f3_;have f4_:=f1_.symm;have f5_:=f3_.symm;clear f1_ f2_ f3_;subst f4_;subst f5_))
              refine hK.out _ _ trivial (fun hHeld => ?_)
              clear hK K
              refine norm_ (a':=?_) ?_ ?_
              rotate_left
              ·show Act.put _ (some 75) _ = _
               simp only [Act.put,sA,sB,sC,i64_w,i32_w]
               rfl
              refine one_ (i:=9) (N:=some 79) #[true,true,true,true,true,true,true,true,true,true,false,false] rfl rfl (one_of HT_.out (by kernel_rfl)) (by decide) (fun K hK => ?_)
              refine goes_ Try.func14 (by kernel_rfl) rfl #[.slice Ao139 t212.length co139,.slice A2 (l2.take (t207 : Int).toNat).length c2] (by rfl) rfl rfl (by (try simp only [List.map_toArray,List.map_cons,List.map_nil]);first | done | (rw [show (l2.take (t207 : Int).toNat).length = t207.toNat from (by rw [List.length_take];have h_ : (t207 : Int) ≤ (l2.length : Int):=of_decide_eq_true (by first | (with_reducible assumption) | assumption);omega)]<;>rfl) | rfl | (simp only [List.length_drop,List.length_take];rfl)) ?_
              with_reducible refine (lapidaryref00_Same.calls _ _ t212 _ _ (l2.take (t207 : Int).toNat) false _ ?side1 ?side2 ?side3 ?side4 A30.out).mono ?_
              (case side1 => repeat (first|exact (Kd.R_reads' HO214.out).2.2|(with_reducible first|refine Kd.C_alloc ?_ _|refine Kd.C_drewN ?_ _|refine Kd.C_drew ?_)))
              (case side2 => exact (Kd.R_reads' HO214.out).2.1)
              (case side3 => repeat (first|exact (Kd.C_below HR215.out HB.out)|(with_reducible first|refine Kd.C_alloc ?_ _|refine Kd.C_drewN ?_ _|refine Kd.C_drew ?_)))
              (case side4 => exact HC215.out)
              rintro e w' ⟨rfl,⟨nd,rfl⟩⟩
              refine ⟨_,rfl,?_⟩
              refine hK.out _ _ trivial (fun hHeld => ?_)
              clear hK K
              refine norm_ (a':=?_) ?_ ?_
              rotate_left
              ·show Act.put _ (some 79) _ = _
               simp only [Act.put,sA,sB,sC,i64_w,i32_w]
               rfl
              refine pure_ (i:=10) (N:=some 80) (v:=?_) (a':=?_) #[true,true,true,true,true,true,true,true,true,true,true,false] rfl rfl (any_of HT_.out (by kernel_rfl)) (fun _ _ _ h => h) (Or.inl ⟨by rfl,?_⟩) ?_ ?_
              rotate_left
              ·intro w'
               go_simp
               with_reducible rfl
              rotate_left
              ·simp only [Act.put,sA,sB,sC,i64_w,i32_w]
               rfl
              refine pure_ (i:=11) (N:=some 81) (v:=?_) (a':=?_) #[true,true,true,true,true,true,true,true,true,true,true,true] rfl rfl (any_of HT_.out (by kernel_rfl)) (fun _ _ _ h => h) (Or.inl ⟨by rfl,?_⟩) ?_ ?_
              rotate_left
              ·intro w'
               go_simp
               with_reducible rfl
              rotate_left
              ·simp only [Act.put,sA,sB,sC,i64_w,i32_w]
               rfl
              refine done_ (done_of HT_.out (by kernel_rfl)) ?_
              try go_wp2
              go_ret
              exact ⟨by first | rfl | (simp [errW_none,errW_some]<;>rfl) | (simp only [← hji21];first | rfl | (simp [errW_none,errW_some]<;>rfl)) | (simp [*,errW_none,errW_some]<;>rfl),by repeat (first | (with_reducible first | exact HB.out | apply below_alloc | apply pw_below_drewN | apply below_drew1) | exact HB.out)⟩
            ·rw [if_neg c29] at H
             exact absurd H (by simp)
           ·rw [if_neg c28] at H
            exact absurd H (by simp)
          ·rw [if_neg c26] at H
           have c26b0 : (t208 == 0) = false:=beq_eq_false_iff_ne.mpr c26
           have c26b1 : (t208 != 0) = true:=bne_iff_ne.mpr c26
           by_cases c140 : t196 = a0
           ·rw [if_pos c140] at H
            have c140b0 : (t196 == a0) = true:=beq_iff_eq.mpr c140
            have c140b1 : (t196 != a0) = false:=bne_eq_false_iff_eq.mpr c140
            clear c140
            by_cases c141 : t197 = (wrap64 ((l1.length : Int)+(t184.length : Int)))
            ·rw [if_pos c141] at H
             have c141b0 : (t197 == (wrap64 ((l1.length : Int)+(t184.length : Int)))) = true:=beq_iff_eq.mpr c141
             have c141b1 : (t197 != (wrap64 ((l1.length : Int)+(t184.length : Int)))) = false:=bne_eq_false_iff_eq.mpr c141
             clear c141
             by_cases c142 : t198 = 0
             ·rw [if_pos c142] at H
              have c142b0 : (t198 == 0) = true:=beq_iff_eq.mpr c142
              have c142b1 : (t198 != 0) = false:=bne_eq_false_iff_eq.mpr c142
              clear c142
              by_cases c143 : t205 = 10
              ·rw [if_pos c143] at H
               have c143b0 : (t205 == 10) = true:=beq_iff_eq.mpr c143
               have c143b1 : (t205 != 10) = false:=bne_eq_false_iff_eq.mpr c143
               clear c143
               replace H:=Option.bind_eq_some_iff.mp H
               obtain ⟨t218,A1440,H⟩:=H
               replace H : (some t218) = some r:=H
               have A144:=aM A1440
               clear A1440
               obtain rfl:=Option.some.inj H
               try go_wp2_with (first|((with_reducible refine gate_dst (N:=30) rfl ?_);(try (refine gate_guard (by rfl) ?_;dsimp only));refine Kd.R_lit (Kd.int .u64) _ 26 ?hg (N:=30) ?hd (xs:=([a0] : List Int)) (inner:=[.int .u64 a0]) (ok:=fun _ => True) (okp:=fun _ => True) ?hr ?hp (fun _ hk => hk) trivial (Below.refl _ _) (Nat.le_refl _) (by simp) ?_;(case hd => rfl);(case hg => rfl);(case hr => first|(go_simp;done)|(go_simp;rfl));(case hp => exact (Reps.one (show Kd.M (Kd.int .u64) _ _ _ a0 [.int .u64 a0] from rfl) (Reps.none _ _)));intro v182 w145 ho146 hb hg_ hnew_;clear hg_ hnew_;(first|rw [← Ny181.out] at ho146|(simp only [Int.reduceToNat] at ho146;rw [← Ny181.out] at ho146));have n0_:=aM (Kd.R_lower ho146 (below_size (by repeat (with_reducible first|exact HB.out|apply below_alloc|apply pw_below_drewN|apply below_drew1))));have n1_:=aM (below_step (by repeat (with_reducible first|exact HB.out|apply below_alloc|apply pw_below_drewN|apply below_drew1)) hb);clear HB;have HO183:=n0_;have HB:=n1_;clear n0_ n1_;clear hb ho146;obtain ⟨Ao147,co147,eo147⟩:=Kd.R_slice HO183.out;subst eo147)|((with_reducible refine gate_callee (f:=15) rfl ?_);refine goesL_ (some 31) rfl rfl Try.func15 (by kernel_rfl) rfl #[.slice Ao147 y181.length co147] rfl (by (try simp only [List.map_toArray,List.map_cons,List.map_nil]);first|done|rfl|(simp only [List.length_drop,List.length_take];rfl)) ?_;(with_reducible refine (vint_Put.calls kj4 _ _ y181 t184 _ ?side1 ?side2 A10.out).mono ?_);(case side1 => repeat (first|exact (Kd.R_reads' HO183.out).2.2|(with_reducible first|refine Kd.C_alloc ?_ _|refine Kd.C_drewN ?_ _|refine Kd.C_drew ?_)));(case side2 => exact (Kd.R_reads' HO183.out).2.1);rintro e w148 ⟨v185,rfl,ho0,hb⟩;refine ⟨_,rfl,?_⟩;have n0_:=aM (Kd.R_below (by (with_reducible repeat (first|apply Kd.R_alloc|apply Kd.R_drewN|apply Kd.R_drew));exact HO183.out) hb);have n1_:=aM (Kd.R_lower ho0 (below_size (by repeat (with_reducible first|exact HB.out|apply below_alloc|apply pw_below_drewN|apply below_drew1))));have n2_:=aM (below_step (by repeat (with_reducible first|exact HB.out|apply below_alloc|apply pw_below_drewN|apply below_drew1)) hb);clear HO183;clear HB;have HO183:=n0_;have HO186:=n1_;have HB:=n2_;clear n0_ n1_ n2_;(try clear hb);(try clear hb2);(try clear hk);(try clear hi);(try clear ho0);obtain ⟨Ao149,co149,eo149⟩:=Kd.R_slice HO186.out;subst eo149)|((with_reducible refine gate_builtin (b:=.append) (xs:=#[.tmp 35,.tmp 36]) rfl ?_);(try (refine gate_guard (by rfl) ?_;dsimp only));at_builtin;refine Kd.R_append_rows (Kd.int .u8) (w0:=w) w.heap.size rfl (.tmp 35) (.tmp 36) 24 5 (.int .u8 0) 1 rfl Try.underlying24 info5 rfl (by decide) (by omega) (.slice none 0 0) ([] : List Int) l1 _ _ _ (fun k_ => some k_ ≠ (.slice Ao149 t184.length co149 : Value).ownBlock) (fun _ => False) rfl rfl ?aO ?aR (fun _ _ h => h) (fun _ h => h.elim) ?aF ?aB ?aS ?aL ?_;(case aR => repeat (first|exact (Kd.C_below HR1.out HB.out)|(with_reducible first|refine Kd.C_alloc ?_ _|refine Kd.C_drewN ?_ _|refine Kd.C_drew ?_)));(case aB => exact (by repeat (with_reducible first|exact HB.out|apply below_alloc|apply pw_below_drewN|apply below_drew1)));(case aF => exact (fun k_ hk => Kd.fresh' (Kd.R_lt (by (with_reducible repeat (first|apply Kd.R_alloc|apply Kd.R_drewN|apply Kd.R_drew));exact HO186.out)) k_ hk));(case aO => exact ((Kd.R_nil _ _ _ _ (fun k_ => some k_ ≠ (.slice Ao149 t184.length co149 : Value).ownBlock))));(case aS => exact (below_size (by repeat (with_reducible first|exact HB.out|apply below_alloc|apply pw_below_drewN|apply below_drew1))));(case aL => have:=LMc17.out;omega);intro v188 w150 ho hb hg hat;rw [← Ny187.out] at ho;have n0_:=aM (Kd.R_grown (by (with_reducible repeat (first|apply Kd.R_alloc|apply Kd.R_drewN|apply Kd.R_drew));exact HO183.out) hg (fun _ _ => by simp [Value.ownBlock]));have n1_:=aM (Kd.R_after (Kd.R_apart_nil (by (with_reducible repeat (first|apply Kd.R_alloc|apply Kd.R_drewN|apply Kd.R_drew));exact HO186.out)) hg hat);have n2_:=aM (hb);have n3_:=aM (ho);clear HO183;clear HO186;clear HB;have HO183:=n0_;have HO186:=n1_;have HB:=n2_;have HO189:=n3_;clear n0_ n1_ n2_ n3_;clear ho hb hg hat)|((with_reducible refine gate_builtin (b:=.append) (xs:=#[.tmp 38,.tmp 39]) rfl ?_);(try (refine gate_guard (by rfl) ?_;dsimp only));at_builtin;refine Kd.R_append_rows (Kd.int .u8) (w0:=w) w.heap.size rfl (.tmp 38) (.tmp 39) 24 5 (.int .u8 0) 1 rfl Try.underlying24 info5 rfl (by decide) (by omega) v188 y187 t184 _ _ _ (fun k_ => some k_ ≠ (.slice Ao149 t184.length co149 : Value).ownBlock) (fun _ => False) rfl rfl ?aO ?aR (fun _ _ h => h) (fun _ h => h.elim) ?aF ?aB ?aS ?aL ?_;(case aR => repeat (first|exact (Kd.R_reads' HO186.out).2.2|(with_reducible first|refine Kd.C_alloc ?_ _|refine Kd.C_drewN ?_ _|refine Kd.C_drew ?_)));(case aB => exact (by repeat (with_reducible first|exact HB.out|apply below_alloc|apply pw_below_drewN|apply below_drew1)));(case aF => exact (fun k_ hk => Kd.fresh' (Kd.R_lt (by (with_reducible repeat (first|apply Kd.R_alloc|apply Kd.R_drewN|apply Kd.R_drew));exact HO186.out)) k_ hk));(case aO => exact (by (with_reducible repeat (first|apply Kd.R_alloc|apply Kd.R_drewN|apply Kd.R_drew));exact HO189.out));(case aS => exact (below_size (by repeat (with_reducible first|exact HB.out|apply below_alloc|apply pw_below_drewN|apply below_drew1))));(case aL => have:=LMc18.out;omega);intro v191 w151 ho hb hg hat;rw [← Ny190.out] at ho;have n0_:=aM (Kd.R_over' (by (with_reducible repeat (first|apply Kd.R_alloc|apply Kd.R_drewN|apply Kd.R_drew));exact HO183.out) (Kd.R_typed (by (with_reducible repeat (first|apply Kd.R_alloc|apply Kd.R_drewN|apply Kd.R_drew));exact HO189.out)) (by decide) hg);have n1_:=aM (Kd.R_after (ok:=(fun _ => True)) (by (with_reducible repeat (first|apply Kd.R_alloc|apply Kd.R_drewN|apply Kd.R_drew));exact HO186.out) hg hat);have n2_:=aM (hb);have n3_:=aM (ho);clear HO183;clear HO186;clear HB;clear HO189;have HO183:=n0_;have HO186:=n1_;have HB:=n2_;have HO192:=n3_;clear n0_ n1_ n2_ n3_;clear ho hb hg hat)|((with_reducible refine gate_builtin (b:=.append) (xs:=#[.tmp 41,.tmp 42]) rfl ?_);(try (refine gate_guard (by rfl) ?_;dsimp only));at_builtin;refine Kd.R_append_rows (Kd.int .u8) (w0:=w) w.heap.size rfl (.tmp 41) (.tmp 42) 24 5 (.int .u8 0) 1 rfl Try.underlying24 info5 rfl (by decide) (by omega) v191 y190 l2 _ _ _ (fun k_ => some k_ ≠ (.slice Ao149 t184.length co149 : Value).ownBlock) (fun _ => False) rfl rfl ?aO ?aR (fun _ _ h => h) (fun _ h => h.elim) ?aF ?aB ?aS ?aL ?_;(case aR => repeat (first|exact (Kd.C_below HR2.out HB.out)|(with_reducible first|refine Kd.C_alloc ?_ _|refine Kd.C_drewN ?_ _|refine Kd.C_drew ?_)));(case aB => exact (by repeat (with_reducible first|exact HB.out|apply below_alloc|apply pw_below_drewN|apply below_drew1)));(case aF => exact (fun k_ hk => Kd.fresh' (Kd.R_lt (by (with_reducible repeat (first|apply Kd.R_alloc|apply Kd.R_drewN|apply Kd.R_drew));exact HO186.out)) k_ hk));(case aO => exact (by (with_reducible repeat (first|apply Kd.R_alloc|apply Kd.R_drewN|apply Kd.R_drew));exact HO192.out));(case aS => exact (below_size (by repeat (with_reducible first|exact HB.out|apply below_alloc|apply pw_below_drewN|apply below_drew1))));(case aL => have:=LMc19.out;omega);intro v194 w152 ho hb hg hat;rw [← Ny193.out] at ho;have n0_:=aM (Kd.R_over' (by (with_reducible repeat (first|apply Kd.R_alloc|apply Kd.R_drewN|apply Kd.R_drew));exact HO183.out) (Kd.R_typed (by (with_reducible repeat (first|apply Kd.R_alloc|apply Kd.R_drewN|apply Kd.R_drew));exact HO192.out)) (by decide) hg);have n1_:=aM (Kd.R_after (ok:=(fun _ => True)) (by (with_reducible repeat (first|apply Kd.R_alloc|apply Kd.R_drewN|apply Kd.R_drew));exact HO186.out) hg hat);have n2_:=aM (hb);have n3_:=aM (ho);clear HO183;clear HO186;clear HB;clear HO192;have HO183:=n0_;have HO186:=n1_;have HB:=n2_;have HO195:=n3_;clear n0_ n1_ n2_ n3_;clear ho hb hg hat;obtain ⟨Ao153,co153,eo153⟩:=Kd.R_slice HO195.out;subst eo153)|((with_reducible refine gate_callee (f:=16) rfl ?_);refine goesL_ (some 48) rfl rfl Try.func16 (by kernel_rfl) rfl #[.slice Ao153 y193.length co153,.int .i64 (l1.length : Int)] rfl (by (try simp only [List.map_toArray,List.map_cons,List.map_nil]);first|done|rfl|(simp only [List.length_drop,List.length_take];rfl)) ?_;(with_reducible refine (vint_Get.calls kj4 _ _ y193 (l1.length : Int) t196 t197 t198 _ ?side1 ?side2 A20.out).mono ?_);(case side1 => repeat (first|exact (Kd.R_reads' HO195.out).2.2|(with_reducible first|refine Kd.C_alloc ?_ _|refine Kd.C_drewN ?_ _|refine Kd.C_drew ?_)));(case side2 => exact (Kd.R_reads' HO195.out).2.1);rintro e w' ⟨rfl,⟨nd,rfl⟩⟩;refine ⟨_,rfl,?_⟩;have q154 : ((ji21) : Int) ≤ ((t184.length : Int) : Int):=of_decide_eq_true (by first|(with_reducible assumption)|assumption);obtain ⟨i0154,hi0154,_,hsz154,_⟩:=info_parts info5;have hroom154 : t184.length ≤ co149:=(Kd.R_reads' HO186.out).2.1;have hC154 : Kd.C (Kd.int .u8) _ Ao149 t184.length t184:=(Kd.R_reads' HO186.out).2.2;have hcut154:=cut_to (P:=Try.prog) 24 5 .i64 Try.underlying24 hi0154 Ao149 t184.length co149 (ji21) (of_decide_eq_true (by first|(with_reducible assumption)|assumption)) q154 hroom154;have hr154:=Kd.C_take (m:=((ji21) : Int).toNat) hC154 (by omega);have hy154 : y199.length = ((ji21) : Int).toNat:=(by rw [Ny199.out,List.length_take];omega);rw [← Ny199.out] at hr154;rw [← hy154] at hcut154;have HR202:=aM hr154;have HC202:=aM (show y199.length ≤ co149 from by omega);clear hr154 hC154 hroom154 hi0154 hsz154;have KY154:=aM hy154;clear hy154;have KL154:=aM (show ((ji21) : Int).toNat ≤ t184.length from by omega);replace q154:=eq_true q154)|((with_reducible refine gate_callee (f:=16) rfl ?_);refine goesL_ (some 60) rfl rfl Try.func16 (by kernel_rfl) rfl #[.slice Ao149 y199.length co149,.int .i64 0] rfl (by (try simp only [List.map_toArray,List.map_cons,List.map_nil]);first|done|rfl|(simp only [List.length_drop,List.length_take];rfl)) ?_;(with_reducible refine (vint_Get.calls kj4 _ _ y199 0 t203 t204 t205 _ ?side1 ?side2 A24.out).mono ?_);(case side1 => repeat (first|exact (by repeat (first|(with_reducible exact HR202.out)|(with_reducible first|refine Kd.C_alloc ?_ _|refine Kd.C_drewN ?_ _|refine Kd.C_drew ?_)|exact HR202.out))|(with_reducible first|refine Kd.C_alloc ?_ _|refine Kd.C_drewN ?_ _|refine Kd.C_drew ?_)));(case side2 => exact HC202.out);rintro e w' ⟨rfl,⟨nd,rfl⟩⟩;refine ⟨_,rfl,?_⟩)|((with_reducible refine gate_callee (f:=16) rfl ?_);refine goesL_ (some 66) rfl rfl Try.func16 (by kernel_rfl) rfl #[.slice A2 l2.length c2,.int .i64 0] rfl (by (try simp only [List.map_toArray,List.map_cons,List.map_nil]);first|done|rfl|(simp only [List.length_drop,List.length_take];rfl)) ?_;(with_reducible refine (vint_Get.calls kj4 _ _ l2 0 t206 t207 t208 _ ?side1 ?side2 A25.out).mono ?_);(case side1 => repeat (first|exact (Kd.C_below HR2.out (by repeat (with_reducible first|exact HB.out|apply below_alloc|apply pw_below_drewN|apply below_drew1)))|(with_reducible first|refine Kd.C_alloc ?_ _|refine Kd.C_drewN ?_ _|refine Kd.C_drew ?_)));(case side2 => exact HC2.out);rintro e w' ⟨rfl,⟨nd,rfl⟩⟩;refine ⟨_,rfl,?_⟩))
               (try (rw [drewN_self w152];generalize hq_ : World.drewN w152 _ = w152;have n0_ : Aside0 (Kd.R (Kd.int .u64) 26 w152 w.heap.size (fun _ => True) (.slice Ao147 y181.length co147) y181):=⟨by rw [← hq_];exact (by (with_reducible repeat (first | apply Kd.R_alloc | apply Kd.R_drewN | apply Kd.R_drew));exact HO183.out)⟩;have n1_ : Aside0 (Kd.R (Kd.int .u8) 5 w152 w.heap.size (fun k_ => some k_ ≠ (.slice Ao153 y193.length co153 : Value).ownBlock) (.slice Ao149 t184.length co149) t184):=⟨by rw [← hq_];exact (by (with_reducible repeat (first | apply Kd.R_alloc | apply Kd.R_drewN | apply Kd.R_drew));exact Kd.R_mono HO186.out (fun _ hk => hk.2))⟩;have n2_ : Aside0 (Kd.R (Kd.int .u8) 5 w152 w.heap.size (fun k_ => some k_ ≠ (.slice Ao149 t184.length co149 : Value).ownBlock) (.slice Ao153 y193.length co153) y193):=⟨by rw [← hq_];exact (by (with_reducible repeat (first | apply Kd.R_alloc | apply Kd.R_drewN | apply Kd.R_drew));exact HO195.out)⟩;have n3_ : Aside0 (Below w.heap.size w w152):=⟨by rw [← hq_];exact (by repeat (first | (with_reducible first | exact HB.out | apply below_alloc | apply pw_below_drewN | apply below_drew1) | exact HB.out))⟩;have n4_ : Aside0 (Kd.C (Kd.int .u8) w152 Ao149 y199.length y199):=⟨by rw [← hq_];exact (by repeat (first | (with_reducible exact HR202.out) | (with_reducible refine Kd.C_alloc ?_ _) | (with_reducible refine Kd.C_drewN ?_ _) | (with_reducible refine Kd.C_drew ?_) | exact HR202.out))⟩;clear HO183 HO186 HO195 HB HR202 hq_;have HO183:=n0_;have HO186:=n1_;have HO195:=n2_;have HB:=n3_;have HR202:=n4_;clear n0_ n1_ n2_ n3_ n4_))
               have n0_:=aM (Kd.R_drew HO183.out)
               have n1_:=aM (Kd.R_drew HO186.out)
               have n2_:=aM (Kd.R_drew HO195.out)
               have n3_:=aM (Kd.C_drew HR202.out)
               have n4_:=aM (below_drew1 HB.out)
               clear HO183
               clear HO186
               clear HO195
               clear HR202
               clear HB
               have HO183:=n0_
               have HO186:=n1_
               have HO195:=n2_
               have HR202:=n3_
               have HB:=n4_
               clear n0_ n1_ n2_ n3_ n4_
               refine start_ (n:=12) (S:=fun w' => True) (ds:=[]) #[false,false,false,false,false,false,false,false,false,false,false,false] (by kernel_rfl) rfl rfl trivial (fun hHeld => ?_);refine with_tabW lapidarylaw01_VintOnce.tab13 lapidarylaw01_VintOnce.bits13 (fun HT_ HW_ => ?_)
               generalize w152.drew = w155 at HO183 HO186 HO195 HR202 HB hHeld ⊢
               refine pure_ (i:=0) (N:=some 70) (v:=?_) (a':=?_) #[true,false,false,false,false,false,false,false,false,false,false,false] rfl rfl (any_of HT_.out (by kernel_rfl)) (fun _ _ _ h => h) (Or.inl ⟨by rfl,?_⟩) ?_ ?_
               rotate_left
               ·intro w'
                go_simp
                with_reducible rfl
               rotate_left
               ·simp only [Act.put,sA,sB,sC,i64_w,i32_w]
                rfl
               refine pure_ (i:=1) (N:=some 71) (v:=?_) (a':=?_) #[true,true,false,false,false,false,false,false,false,false,false,false] rfl rfl (any_of HT_.out (by kernel_rfl)) (fun _ _ _ h => h) (Or.inl ⟨by rfl,?_⟩) ?_ ?_
               rotate_left
               ·intro w'
                go_simp
                with_reducible rfl
               rotate_left
               ·simp only [Act.put,sA,sB,sC,i64_w,i32_w]
                rfl
               refine pure_ (i:=2) (N:=some 72) (v:=?_) (a':=?_) #[true,true,true,false,false,false,false,false,false,false,false,false] rfl rfl (any_of HT_.out (by kernel_rfl)) (fun _ _ _ h => h) (Or.inl ⟨by rfl,?_⟩) ?_ ?_
               rotate_left
               ·intro w'
                go_simp
                with_reducible rfl
               rotate_left
               ·simp only [Act.put,sA,sB,sC,i64_w,i32_w]
                rfl
               refine pure_ (i:=3) (N:=some 73) (v:=undef) (a':=?_) #[true,true,true,true,false,false,false,false,false,false,false,false] rfl rfl (any_of HT_.out (by kernel_rfl)) (fun _ _ _ h => h) (Or.inr ⟨by rfl,rfl⟩) ?_ ?_
               rotate_left
               ·simp only [Act.put,sA,sB,sC,i64_w,i32_w]
                rfl
               refine pure_ (i:=4) (N:=some 74) (v:=undef) (a':=?_) #[true,true,true,true,true,false,false,false,false,false,false,false] rfl rfl (any_of HT_.out (by kernel_rfl)) (fun _ _ _ h => h) (Or.inr ⟨by rfl,rfl⟩) ?_ ?_
               rotate_left
               ·simp only [Act.put,sA,sB,sC,i64_w,i32_w]
                rfl
               refine pure_ (i:=5) (N:=some 75) (v:=undef) (a':=?_) #[true,true,true,true,true,true,false,false,false,false,false,false] rfl rfl (any_of HT_.out (by kernel_rfl)) (fun _ _ _ h => h) (Or.inr ⟨by rfl,rfl⟩) ?_ ?_
               rotate_left
               ·simp only [Act.put,sA,sB,sC,i64_w,i32_w]
                rfl
               refine pure_ (i:=6) (N:=some 76) (v:=undef) (a':=?_) #[true,true,true,true,true,true,true,false,false,false,false,false] rfl rfl (any_of HT_.out (by kernel_rfl)) (fun _ _ _ h => h) (Or.inr ⟨by rfl,rfl⟩) ?_ ?_
               rotate_left
               ·simp only [Act.put,sA,sB,sC,i64_w,i32_w]
                rfl
               refine pure_ (i:=7) (N:=some 77) (v:=undef) (a':=?_) #[true,true,true,true,true,true,true,true,false,false,false,false] rfl rfl (any_of HT_.out (by kernel_rfl)) (fun _ _ _ h => h) (Or.inr ⟨by rfl,rfl⟩) ?_ ?_
               rotate_left
               ·simp only [Act.put,sA,sB,sC,i64_w,i32_w]
                rfl
               refine pure_ (i:=8) (N:=some 78) (v:=undef) (a':=?_) #[true,true,true,true,true,true,true,true,true,false,false,false] rfl rfl (any_of HT_.out (by kernel_rfl)) (fun _ _ _ h => h) (Or.inr ⟨by rfl,rfl⟩) ?_ ?_
               rotate_left
               ·simp only [Act.put,sA,sB,sC,i64_w,i32_w]
                rfl
               refine pure_ (i:=9) (N:=some 79) (v:=undef) (a':=?_) #[true,true,true,true,true,true,true,true,true,true,false,false] rfl rfl (any_of HT_.out (by kernel_rfl)) (fun _ _ _ h => h) (Or.inr ⟨by rfl,rfl⟩) ?_ ?_
               rotate_left
               ·simp only [Act.put,sA,sB,sC,i64_w,i32_w]
                rfl
               refine pure_ (i:=10) (N:=some 80) (v:=undef) (a':=?_) #[true,true,true,true,true,true,true,true,true,true,true,false] rfl rfl (any_of HT_.out (by kernel_rfl)) (fun _ _ _ h => h) (Or.inr ⟨by rfl,rfl⟩) ?_ ?_
               rotate_left
               ·simp only [Act.put,sA,sB,sC,i64_w,i32_w]
                rfl
               refine pure_ (i:=11) (N:=some 81) (v:=?_) (a':=?_) #[true,true,true,true,true,true,true,true,true,true,true,true] rfl rfl (any_of HT_.out (by kernel_rfl)) (fun _ _ _ h => h) (Or.inl ⟨by rfl,?_⟩) ?_ ?_
               rotate_left
               ·intro w'
                go_simp
                with_reducible rfl
               rotate_left
               ·simp only [Act.put,sA,sB,sC,i64_w,i32_w]
                rfl
               refine done_ (done_of HT_.out (by kernel_rfl)) ?_
               try go_wp2_with (first|(go_at_call 12;(with_reducible refine (lapidarylaw01_known.calls kj4  t218 _ A144.out).mono ?_);rintro e w156 ⟨rfl,hb⟩;have n0_:=aM (Kd.R_below (by (with_reducible repeat (first|apply Kd.R_alloc|apply Kd.R_drewN|apply Kd.R_drew));exact HO183.out) hb);have n1_:=aM (Kd.R_below (by (with_reducible repeat (first|apply Kd.R_alloc|apply Kd.R_drewN|apply Kd.R_drew));exact HO186.out) hb);have n2_:=aM (Kd.R_below (by (with_reducible repeat (first|apply Kd.R_alloc|apply Kd.R_drewN|apply Kd.R_drew));exact HO195.out) hb);have n3_:=aM (Kd.C_below (by repeat (first|(with_reducible exact HR202.out)|(with_reducible first|refine Kd.C_alloc ?_ _|refine Kd.C_drewN ?_ _|refine Kd.C_drew ?_)|exact HR202.out)) hb);have n4_:=aM (below_step (by repeat (with_reducible first|exact HB.out|apply below_alloc|apply pw_below_drewN|apply below_drew1)) hb);clear HO183;clear HO186;clear HO195;clear HR202;clear HB;have HO183:=n0_;have HO186:=n1_;have HO195:=n2_;have HR202:=n3_;have HB:=n4_;clear n0_ n1_ n2_ n3_ n4_;(try clear hb);(try clear hb2);(try clear hk);(try clear hi)))
               go_ret
               exact ⟨by first | rfl | (simp [errW_none,errW_some]<;>rfl) | (simp only [← hji21];first | rfl | (simp [errW_none,errW_some]<;>rfl)) | (simp [*,errW_none,errW_some]<;>rfl),by repeat (first | (with_reducible first | exact HB.out | apply below_alloc | apply pw_below_drewN | apply below_drew1) | exact HB.out)⟩
              ·rw [if_neg c143] at H
               have c143b0 : (t205 == 10) = false:=beq_eq_false_iff_ne.mpr c143
               have c143b1 : (t205 != 10) = true:=bne_iff_ne.mpr c143
               obtain rfl:=Option.some.inj H
               try go_wp2_with (first|((with_reducible refine gate_dst (N:=30) rfl ?_);(try (refine gate_guard (by rfl) ?_;dsimp only));refine Kd.R_lit (Kd.int .u64) _ 26 ?hg (N:=30) ?hd (xs:=([a0] : List Int)) (inner:=[.int .u64 a0]) (ok:=fun _ => True) (okp:=fun _ => True) ?hr ?hp (fun _ hk => hk) trivial (Below.refl _ _) (Nat.le_refl _) (by simp) ?_;(case hd => rfl);(case hg => rfl);(case hr => first|(go_simp;done)|(go_simp;rfl));(case hp => exact (Reps.one (show Kd.M (Kd.int .u64) _ _ _ a0 [.int .u64 a0] from rfl) (Reps.none _ _)));intro v182 w157 ho158 hb hg_ hnew_;clear hg_ hnew_;(first|rw [← Ny181.out] at ho158|(simp only [Int.reduceToNat] at ho158;rw [← Ny181.out] at ho158));have n0_:=aM (Kd.R_lower ho158 (below_size (by repeat (with_reducible first|exact HB.out|apply below_alloc|apply pw_below_drewN|apply below_drew1))));have n1_:=aM (below_step (by repeat (with_reducible first|exact HB.out|apply below_alloc|apply pw_below_drewN|apply below_drew1)) hb);clear HB;have HO183:=n0_;have HB:=n1_;clear n0_ n1_;clear hb ho158;obtain ⟨Ao159,co159,eo159⟩:=Kd.R_slice HO183.out;subst eo159)|((with_reducible refine gate_callee (f:=15) rfl ?_);refine goesL_ (some 31) rfl rfl Try.func15 (by kernel_rfl) rfl #[.slice Ao159 y181.length co159] rfl (by (try simp only [List.map_toArray,List.map_cons,List.map_nil]);first|done|rfl|(simp only [List.length_drop,List.length_take];rfl)) ?_;(with_reducible refine (vint_Put.calls kj4 _ _ y181 t184 _ ?side1 ?side2 A10.out).mono ?_);(case side1 => repeat (first|exact (Kd.R_reads' HO183.out).2.2|(with_reducible first|refine Kd.C_alloc ?_ _|refine Kd.C_drewN ?_ _|refine Kd.C_drew ?_)));(case side2 => exact (Kd.R_reads' HO183.out).2.1);rintro e w160 ⟨v185,rfl,ho0,hb⟩;refine ⟨_,rfl,?_⟩;have n0_:=aM (Kd.R_below (by (with_reducible repeat (first|apply Kd.R_alloc|apply Kd.R_drewN|apply Kd.R_drew));exact HO183.out) hb);have n1_:=aM (Kd.R_lower ho0 (below_size (by repeat (with_reducible first|exact HB.out|apply below_alloc|apply pw_below_drewN|apply below_drew1))));have n2_:=aM (below_step (by repeat (with_reducible first|exact HB.out|apply below_alloc|apply pw_below_drewN|apply below_drew1)) hb);clear HO183;clear HB;have HO183:=n0_;have HO186:=n1_;have HB:=n2_;clear n0_ n1_ n2_;(try clear hb);(try clear hb2);(try clear hk);(try clear hi);(try clear ho0);obtain ⟨Ao161,co161,eo161⟩:=Kd.R_slice HO186.out;subst eo161)|((with_reducible refine gate_builtin (b:=.append) (xs:=#[.tmp 35,.tmp 36]) rfl ?_);(try (refine gate_guard (by rfl) ?_;dsimp only));at_builtin;refine Kd.R_append_rows (Kd.int .u8) (w0:=w) w.heap.size rfl (.tmp 35) (.tmp 36) 24 5 (.int .u8 0) 1 rfl Try.underlying24 info5 rfl (by decide) (by omega) (.slice none 0 0) ([] : List Int) l1 _ _ _ (fun k_ => some k_ ≠ (.slice Ao161 t184.length co161 : Value).ownBlock) (fun _ => False) rfl rfl ?aO ?aR (fun _ _ h => h) (fun _ h => h.elim) ?aF ?aB ?aS ?aL ?_;(case aR => repeat (first|exact (Kd.C_below HR1.out HB.out)|(with_reducible first|refine Kd.C_alloc ?_ _|refine Kd.C_drewN ?_ _|refine Kd.C_drew ?_)));(case aB => exact (by repeat (with_reducible first|exact HB.out|apply below_alloc|apply pw_below_drewN|apply below_drew1)));(case aF => exact (fun k_ hk => Kd.fresh' (Kd.R_lt (by (with_reducible repeat (first|apply Kd.R_alloc|apply Kd.R_drewN|apply Kd.R_drew));exact HO186.out)) k_ hk));(case aO => exact ((Kd.R_nil _ _ _ _ (fun k_ => some k_ ≠ (.slice Ao161 t184.length co161 : Value).ownBlock))));(case aS => exact (below_size (by repeat (with_reducible first|exact HB.out|apply below_alloc|apply pw_below_drewN|apply below_drew1))));(case aL => have:=LMc17.out;omega);intro v188 w162 ho hb hg hat;rw [← Ny187.out] at ho;have n0_:=aM (Kd.R_grown (by (with_reducible repeat (first|apply Kd.R_alloc|apply Kd.R_drewN|apply Kd.R_drew));exact HO183.out) hg (fun _ _ => by simp [Value.ownBlock]));have n1_:=aM (Kd.R_after (Kd.R_apart_nil (by (with_reducible repeat (first|apply Kd.R_alloc|apply Kd.R_drewN|apply Kd.R_drew));exact HO186.out)) hg hat);have n2_:=aM (hb);have n3_:=aM (ho);clear HO183;clear HO186;clear HB;have HO183:=n0_;have HO186:=n1_;have HB:=n2_;have HO189:=n3_;clear n0_ n1_ n2_ n3_;clear ho hb hg hat)|((with_reducible refine gate_builtin (b:=.append) (xs:=#[.tmp 38,.tmp 39]) rfl ?_);(try (refine gate_guard (by rfl) ?_;dsimp only));at_builtin;refine Kd.R_append_rows (Kd.int .u8) (w0:=w) w.heap.size rfl (.tmp 38) (.tmp 39) 24 5 (.int .u8 0) 1 rfl Try.underlying24 info5 rfl (by decide) (by omega) v188 y187 t184 _ _ _ (fun k_ => some k_ ≠ (.slice Ao161 t184.length co161 : Value).ownBlock) (fun _ => False) rfl rfl ?aO ?aR (fun _ _ h => h) (fun _ h => h.elim) ?aF ?aB ?aS ?aL ?_;(case aR => repeat (first|exact (Kd.R_reads' HO186.out).2.2|(with_reducible first|refine Kd.C_alloc ?_ _|refine Kd.C_drewN ?_ _|refine Kd.C_drew ?_)));(case aB => exact (by repeat (with_reducible first|exact HB.out|apply below_alloc|apply pw_below_drewN|apply below_drew1)));(case aF => exact (fun k_ hk => Kd.fresh' (Kd.R_lt (by (with_reducible repeat (first|apply Kd.R_alloc|apply Kd.R_drewN|apply Kd.R_drew));exact HO186.out)) k_ hk));(case aO => exact (by (with_reducible repeat (first|apply Kd.R_alloc|apply Kd.R_drewN|apply Kd.R_drew));exact HO189.out));(case aS => exact (below_size (by repeat (with_reducible first|exact HB.out|apply below_alloc|apply pw_below_drewN|apply below_drew1))));(case aL => have:=LMc18.out;omega);intro v191 w163 ho hb hg hat;rw [← Ny190.out] at ho;have n0_:=aM (Kd.R_over' (by (with_reducible repeat (first|apply Kd.R_alloc|apply Kd.R_drewN|apply Kd.R_drew));exact HO183.out) (Kd.R_typed (by (with_reducible repeat (first|apply Kd.R_alloc|apply Kd.R_drewN|apply Kd.R_drew));exact HO189.out)) (by decide) hg);have n1_:=aM (Kd.R_after (ok:=(fun _ => True)) (by (with_reducible repeat (first|apply Kd.R_alloc|apply Kd.R_drewN|apply Kd.R_drew));exact HO186.out) hg hat);have n2_:=aM (hb);have n3_:=aM (ho);clear HO183;clear HO186;clear HB;clear HO189;have HO183:=n0_;have HO186:=n1_;have HB:=n2_;have HO192:=n3_;clear n0_ n1_ n2_ n3_;clear ho hb hg hat)|((with_reducible refine gate_builtin (b:=.append) (xs:=#[.tmp 41,.tmp 42]) rfl ?_);(try (refine gate_guard (by rfl) ?_;dsimp only));at_builtin;refine Kd.R_append_rows (Kd.int .u8) (w0:=w) w.heap.size rfl (.tmp 41) (.tmp 42) 24 5 (.int .u8 0) 1 rfl Try.underlying24 info5 rfl (by decide) (by omega) v191 y190 l2 _ _ _ (fun k_ => some k_ ≠ (.slice Ao161 t184.length co161 : Value).ownBlock) (fun _ => False) rfl rfl ?aO ?aR (fun _ _ h => h) (fun _ h => h.elim) ?aF ?aB ?aS ?aL ?_;(case aR => repeat (first|exact (Kd.C_below HR2.out HB.out)|(with_reducible first|refine Kd.C_alloc ?_ _|refine Kd.C_drewN ?_ _|refine Kd.C_drew ?_)));(case aB => exact (by repeat (with_reducible first|exact HB.out|apply below_alloc|apply pw_below_drewN|apply below_drew1)));(case aF => exact (fun k_ hk => Kd.fresh' (Kd.R_lt (by (with_reducible repeat (first|apply Kd.R_alloc|apply Kd.R_drewN|apply Kd.R_drew));exact HO186.out)) k_ hk));(case aO => exact (by (with_reducible repeat (first|apply Kd.R_alloc|apply Kd.R_drewN|apply Kd.R_drew));exact HO192.out));(case aS => exact (below_size (by repeat (with_reducible first|exact HB.out|apply below_alloc|apply pw_below_drewN|apply below_drew1))));(case aL => have:=LMc19.out;omega);intro v194 w164 ho hb hg hat;rw [← Ny193.out] at ho;have n0_:=aM (Kd.R_over' (by (with_reducible repeat (first|apply Kd.R_alloc|apply Kd.R_drewN|apply Kd.R_drew));exact HO183.out) (Kd.R_typed (by (with_reducible repeat (first|apply Kd.R_alloc|apply Kd.R_drewN|apply Kd.R_drew));exact HO192.out)) (by decide) hg);have n1_:=aM (Kd.R_after (ok:=(fun _ => True)) (by (with_reducible repeat (first|apply Kd.R_alloc|apply Kd.R_drewN|apply Kd.R_drew));exact HO186.out) hg hat);have n2_:=aM (hb);have n3_:=aM (ho);clear HO183;clear HO186;clear HB;clear HO192;have HO183:=n0_;have HO186:=n1_;have HB:=n2_;have HO195:=n3_;clear n0_ n1_ n2_ n3_;clear ho hb hg hat;obtain ⟨Ao165,co165,eo165⟩:=Kd.R_slice HO195.out;subst eo165)|((with_reducible refine gate_callee (f:=16) rfl ?_);refine goesL_ (some 48) rfl rfl Try.func16 (by kernel_rfl) rfl #[.slice Ao165 y193.length co165,.int .i64 (l1.length : Int)] rfl (by (try simp only [List.map_toArray,List.map_cons,List.map_nil]);first|done|rfl|(simp only [List.length_drop,List.length_take];rfl)) ?_;(with_reducible refine (vint_Get.calls kj4 _ _ y193 (l1.length : Int) t196 t197 t198 _ ?side1 ?side2 A20.out).mono ?_);(case side1 => repeat (first|exact (Kd.R_reads' HO195.out).2.2|(with_reducible first|refine Kd.C_alloc ?_ _|refine Kd.C_drewN ?_ _|refine Kd.C_drew ?_)));(case side2 => exact (Kd.R_reads' HO195.out).2.1);rintro e w' ⟨rfl,⟨nd,rfl⟩⟩;refine ⟨_,rfl,?_⟩;have q166 : ((ji21) : Int) ≤ ((t184.length : Int) : Int):=of_decide_eq_true (by first|(with_reducible assumption)|assumption);obtain ⟨i0166,hi0166,_,hsz166,_⟩:=info_parts info5;have hroom166 : t184.length ≤ co161:=(Kd.R_reads' HO186.out).2.1;have hC166 : Kd.C (Kd.int .u8) _ Ao161 t184.length t184:=(Kd.R_reads' HO186.out).2.2;have hcut166:=cut_to (P:=Try.prog) 24 5 .i64 Try.underlying24 hi0166 Ao161 t184.length co161 (ji21) (of_decide_eq_true (by first|(with_reducible assumption)|assumption)) q166 hroom166;have hr166:=Kd.C_take (m:=((ji21) : Int).toNat) hC166 (by omega);have hy166 : y199.length = ((ji21) : Int).toNat:=(by rw [Ny199.out,List.length_take];omega);rw [← Ny199.out] at hr166;rw [← hy166] at hcut166;have HR202:=aM hr166;have HC202:=aM (show y199.length ≤ co161 from by omega);clear hr166 hC166 hroom166 hi0166 hsz166;have KY166:=aM hy166;clear hy166;have KL166:=aM (show ((ji21) : Int).toNat ≤ t184.length from by omega);replace q166:=eq_true q166)|((with_reducible refine gate_callee (f:=16) rfl ?_);refine goesL_ (some 60) rfl rfl Try.func16 (by kernel_rfl) rfl #[.slice Ao161 y199.length co161,.int .i64 0] rfl (by (try simp only [List.map_toArray,List.map_cons,List.map_nil]);first|done|rfl|(simp only [List.length_drop,List.length_take];rfl)) ?_;(with_reducible refine (vint_Get.calls kj4 _ _ y199 0 t203 t204 t205 _ ?side1 ?side2 A24.out).mono ?_);(case side1 => repeat (first|exact (by repeat (first|(with_reducible exact HR202.out)|(with_reducible first|refine Kd.C_alloc ?_ _|refine Kd.C_drewN ?_ _|refine Kd.C_drew ?_)|exact HR202.out))|(with_reducible first|refine Kd.C_alloc ?_ _|refine Kd.C_drewN ?_ _|refine Kd.C_drew ?_)));(case side2 => exact HC202.out);rintro e w' ⟨rfl,⟨nd,rfl⟩⟩;refine ⟨_,rfl,?_⟩)|((with_reducible refine gate_callee (f:=16) rfl ?_);refine goesL_ (some 66) rfl rfl Try.func16 (by kernel_rfl) rfl #[.slice A2 l2.length c2,.int .i64 0] rfl (by (try simp only [List.map_toArray,List.map_cons,List.map_nil]);first|done|rfl|(simp only [List.length_drop,List.length_take];rfl)) ?_;(with_reducible refine (vint_Get.calls kj4 _ _ l2 0 t206 t207 t208 _ ?side1 ?side2 A25.out).mono ?_);(case side1 => repeat (first|exact (Kd.C_below HR2.out (by repeat (with_reducible first|exact HB.out|apply below_alloc|apply pw_below_drewN|apply below_drew1)))|(with_reducible first|refine Kd.C_alloc ?_ _|refine Kd.C_drewN ?_ _|refine Kd.C_drew ?_)));(case side2 => exact HC2.out);rintro e w' ⟨rfl,⟨nd,rfl⟩⟩;refine ⟨_,rfl,?_⟩))
               (try (rw [drewN_self w164];generalize hq_ : World.drewN w164 _ = w164;have n0_ : Aside0 (Kd.R (Kd.int .u64) 26 w164 w.heap.size (fun _ => True) (.slice Ao159 y181.length co159) y181):=⟨by rw [← hq_];exact (by (with_reducible repeat (first | apply Kd.R_alloc | apply Kd.R_drewN | apply Kd.R_drew));exact HO183.out)⟩;have n1_ : Aside0 (Kd.R (Kd.int .u8) 5 w164 w.heap.size (fun k_ => some k_ ≠ (.slice Ao165 y193.length co165 : Value).ownBlock) (.slice Ao161 t184.length co161) t184):=⟨by rw [← hq_];exact (by (with_reducible repeat (first | apply Kd.R_alloc | apply Kd.R_drewN | apply Kd.R_drew));exact Kd.R_mono HO186.out (fun _ hk => hk.2))⟩;have n2_ : Aside0 (Kd.R (Kd.int .u8) 5 w164 w.heap.size (fun k_ => some k_ ≠ (.slice Ao161 t184.length co161 : Value).ownBlock) (.slice Ao165 y193.length co165) y193):=⟨by rw [← hq_];exact (by (with_reducible repeat (first | apply Kd.R_alloc | apply Kd.R_drewN | apply Kd.R_drew));exact HO195.out)⟩;have n3_ : Aside0 (Below w.heap.size w w164):=⟨by rw [← hq_];exact (by repeat (first | (with_reducible first | exact HB.out | apply below_alloc | apply pw_below_drewN | apply below_drew1) | exact HB.out))⟩;have n4_ : Aside0 (Kd.C (Kd.int .u8) w164 Ao161 y199.length y199):=⟨by rw [← hq_];exact (by repeat (first | (with_reducible exact HR202.out) | (with_reducible refine Kd.C_alloc ?_ _) | (with_reducible refine Kd.C_drewN ?_ _) | (with_reducible refine Kd.C_drew ?_) | exact HR202.out))⟩;clear HO183 HO186 HO195 HB HR202 hq_;have HO183:=n0_;have HO186:=n1_;have HO195:=n2_;have HB:=n3_;have HR202:=n4_;clear n0_ n1_ n2_ n3_ n4_))
               have n0_:=aM (Kd.R_drew HO183.out)
               have n1_:=aM (Kd.R_drew HO186.out)
               have n2_:=aM (Kd.R_drew HO195.out)
               have n3_:=aM (Kd.C_drew HR202.out)
               have n4_:=aM (below_drew1 HB.out)
               clear HO183
               clear HO186
               clear HO195
               clear HR202
               clear HB
               have HO183:=n0_
               have HO186:=n1_
               have HO195:=n2_
               have HR202:=n3_
               have HB:=n4_
               clear n0_ n1_ n2_ n3_ n4_
               refine start_ (n:=12) (S:=fun w' => True) (ds:=[]) #[false,false,false,false,false,false,false,false,false,false,false,false] (by kernel_rfl) rfl rfl trivial (fun hHeld => ?_);refine with_tabW lapidarylaw01_VintOnce.tab13 lapidarylaw01_VintOnce.bits13 (fun HT_ HW_ => ?_)
               generalize w164.drew = w167 at HO183 HO186 HO195 HR202 HB hHeld ⊢
               refine pure_ (i:=0) (N:=some 70) (v:=?_) (a':=?_) #[true,false,false,false,false,false,false,false,false,false,false,false] rfl rfl (any_of HT_.out (by kernel_rfl)) (fun _ _ _ h => h) (Or.inl ⟨by rfl,?_⟩) ?_ ?_
               rotate_left
               ·intro w'
                go_simp
                with_reducible rfl
               rotate_left
               ·simp only [Act.put,sA,sB,sC,i64_w,i32_w]
                rfl
               refine pure_ (i:=1) (N:=some 71) (v:=?_) (a':=?_) #[true,true,false,false,false,false,false,false,false,false,false,false] rfl rfl (any_of HT_.out (by kernel_rfl)) (fun _ _ _ h => h) (Or.inl ⟨by rfl,?_⟩) ?_ ?_
               rotate_left
               ·intro w'
                go_simp
                with_reducible rfl
               rotate_left
               ·simp only [Act.put,sA,sB,sC,i64_w,i32_w]
                rfl
               refine pure_ (i:=2) (N:=some 72) (v:=?_) (a':=?_) #[true,true,true,false,false,false,false,false,false,false,false,false] rfl rfl (any_of HT_.out (by kernel_rfl)) (fun _ _ _ h => h) (Or.inl ⟨by rfl,?_⟩) ?_ ?_
               rotate_left
               ·intro w'
                go_simp
                with_reducible rfl
               rotate_left
               ·simp only [Act.put,sA,sB,sC,i64_w,i32_w]
                rfl
               refine pure_ (i:=3) (N:=some 73) (v:=undef) (a':=?_) #[true,true,true,true,false,false,false,false,false,false,false,false] rfl rfl (any_of HT_.out (by kernel_rfl)) (fun _ _ _ h => h) (Or.inr ⟨by rfl,rfl⟩) ?_ ?_
               rotate_left
               ·simp only [Act.put,sA,sB,sC,i64_w,i32_w]
                rfl
               refine pure_ (i:=4) (N:=some 74) (v:=undef) (a':=?_) #[true,true,true,true,true,false,false,false,false,false,false,false] rfl rfl (any_of HT_.out (by kernel_rfl)) (fun _ _ _ h => h) (Or.inr ⟨by rfl,rfl⟩) ?_ ?_
               rotate_left
               ·simp only [Act.put,sA,sB,sC,i64_w,i32_w]
                rfl
               refine pure_ (i:=5) (N:=some 75) (v:=undef) (a':=?_) #[true,true,true,true,true,true,false,false,false,false,false,false] rfl rfl (any_of HT_.out (by kernel_rfl)) (fun _ _ _ h => h) (Or.inr ⟨by rfl,rfl⟩) ?_ ?_
               rotate_left
               ·simp only [Act.put,sA,sB,sC,i64_w,i32_w]
                rfl
               refine pure_ (i:=6) (N:=some 76) (v:=undef) (a':=?_) #[true,true,true,true,true,true,true,false,false,false,false,false] rfl rfl (any_of HT_.out (by kernel_rfl)) (fun _ _ _ h => h) (Or.inr ⟨by rfl,rfl⟩) ?_ ?_
               rotate_left
               ·simp only [Act.put,sA,sB,sC,i64_w,i32_w]
                rfl
               refine pure_ (i:=7) (N:=some 77) (v:=undef) (a':=?_) #[true,true,true,true,true,true,true,true,false,false,false,false] rfl rfl (any_of HT_.out (by kernel_rfl)) (fun _ _ _ h => h) (Or.inr ⟨by rfl,rfl⟩) ?_ ?_
               rotate_left
               ·simp only [Act.put,sA,sB,sC,i64_w,i32_w]
                rfl
               refine pure_ (i:=8) (N:=some 78) (v:=undef) (a':=?_) #[true,true,true,true,true,true,true,true,true,false,false,false] rfl rfl (any_of HT_.out (by kernel_rfl)) (fun _ _ _ h => h) (Or.inr ⟨by rfl,rfl⟩) ?_ ?_
               rotate_left
               ·simp only [Act.put,sA,sB,sC,i64_w,i32_w]
                rfl
               refine pure_ (i:=9) (N:=some 79) (v:=undef) (a':=?_) #[true,true,true,true,true,true,true,true,true,true,false,false] rfl rfl (any_of HT_.out (by kernel_rfl)) (fun _ _ _ h => h) (Or.inr ⟨by rfl,rfl⟩) ?_ ?_
               rotate_left
               ·simp only [Act.put,sA,sB,sC,i64_w,i32_w]
                rfl
               refine pure_ (i:=10) (N:=some 80) (v:=undef) (a':=?_) #[true,true,true,true,true,true,true,true,true,true,true,false] rfl rfl (any_of HT_.out (by kernel_rfl)) (fun _ _ _ h => h) (Or.inr ⟨by rfl,rfl⟩) ?_ ?_
               rotate_left
               ·simp only [Act.put,sA,sB,sC,i64_w,i32_w]
                rfl
               refine pure_ (i:=11) (N:=some 81) (v:=?_) (a':=?_) #[true,true,true,true,true,true,true,true,true,true,true,true] rfl rfl (any_of HT_.out (by kernel_rfl)) (fun _ _ _ h => h) (Or.inl ⟨by rfl,?_⟩) ?_ ?_
               rotate_left
               ·intro w'
                go_simp
                with_reducible rfl
               rotate_left
               ·simp only [Act.put,sA,sB,sC,i64_w,i32_w]
                rfl
               refine done_ (done_of HT_.out (by kernel_rfl)) ?_
               try go_wp2
               go_ret
               exact ⟨by first | rfl | (simp [errW_none,errW_some]<;>rfl) | (simp only [← hji21];first | rfl | (simp [errW_none,errW_some]<;>rfl)) | (simp [*,errW_none,errW_some]<;>rfl),by repeat (first | (with_reducible first | exact HB.out | apply below_alloc | apply pw_below_drewN | apply below_drew1) | exact HB.out)⟩
             ·rw [if_neg c142] at H
              have c142b0 : (t198 == 0) = false:=beq_eq_false_iff_ne.mpr c142
              have c142b1 : (t198 != 0) = true:=bne_iff_ne.mpr c142
              obtain rfl:=Option.some.inj H
              try go_wp2_with (first|((with_reducible refine gate_dst (N:=30) rfl ?_);(try (refine gate_guard (by rfl) ?_;dsimp only));refine Kd.R_lit (Kd.int .u64) _ 26 ?hg (N:=30) ?hd (xs:=([a0] : List Int)) (inner:=[.int .u64 a0]) (ok:=fun _ => True) (okp:=fun _ => True) ?hr ?hp (fun _ hk => hk) trivial (Below.refl _ _) (Nat.le_refl _) (by simp) ?_;(case hd => rfl);(case hg => rfl);(case hr => first|(go_simp;done)|(go_simp;rfl));(case hp => exact (Reps.one (show Kd.M (Kd.int .u64) _ _ _ a0 [.int .u64 a0] from rfl) (Reps.none _ _)));intro v182 w168 ho169 hb hg_ hnew_;clear hg_ hnew_;(first|rw [← Ny181.out] at ho169|(simp only [Int.reduceToNat] at ho169;rw [← Ny181.out] at ho169));have n0_:=aM (Kd.R_lower ho169 (below_size (by repeat (with_reducible first|exact HB.out|apply below_alloc|apply pw_below_drewN|apply below_drew1))));have n1_:=aM (below_step (by repeat (with_reducible first|exact HB.out|apply below_alloc|apply pw_below_drewN|apply below_drew1)) hb);clear HB;have HO183:=n0_;have HB:=n1_;clear n0_ n1_;clear hb ho169;obtain ⟨Ao170,co170,eo170⟩:=Kd.R_slice HO183.out;subst eo170)|((with_reducible refine gate_callee (f:=15) rfl ?_);refine goesL_ (some 31) rfl rfl Try.func15 (by kernel_rfl) rfl #[.slice Ao170 y181.length co170] rfl (by (try simp only [List.map_toArray,List.map_cons,List.map_nil]);first|done|rfl|(simp only [List.length_drop,List.length_take];rfl)) ?_;(with_reducible refine (vint_Put.calls kj4 _ _ y181 t184 _ ?side1 ?side2 A10.out).mono ?_);(case side1 => repeat (first|exact (Kd.R_reads' HO183.out).2.2|(with_reducible first|refine Kd.C_alloc ?_ _|refine Kd.C_drewN ?_ _|refine Kd.C_drew ?_)));(case side2 => exact (Kd.R_reads' HO183.out).2.1);rintro e w171 ⟨v185,rfl,ho0,hb⟩;refine ⟨_,rfl,?_⟩;have n0_:=aM (Kd.R_below (by (with_reducible repeat (first|apply Kd.R_alloc|apply Kd.R_drewN|apply Kd.R_drew));exact HO183.out) hb);have n1_:=aM (Kd.R_lower ho0 (below_size (by repeat (with_reducible first|exact HB.out|apply below_alloc|apply pw_below_drewN|apply below_drew1))));have n2_:=aM (below_step (by repeat (with_reducible first|exact HB.out|apply below_alloc|apply pw_below_drewN|apply below_drew1)) hb);clear HO183;clear HB;have HO183:=n0_;have HO186:=n1_;have HB:=n2_;clear n0_ n1_ n2_;(try clear hb);(try clear hb2);(try clear hk);(try clear hi);(try clear ho0);obtain ⟨Ao172,co172,eo172⟩:=Kd.R_slice HO186.out;subst eo172)|((with_reducible refine gate_builtin (b:=.append) (xs:=#[.tmp 35,.tmp 36]) rfl ?_);(try (refine gate_guard (by rfl) ?_;dsimp only));at_builtin;refine Kd.R_append_rows (Kd.int .u8) (w0:=w) w.heap.size rfl (.tmp 35) (.tmp 36) 24 5 (.int .u8 0) 1 rfl Try.underlying24 info5 rfl (by decide) (by omega) (.slice none 0 0) ([] : List Int) l1 _ _ _ (fun k_ => some k_ ≠ (.slice Ao172 t184.length co172 : Value).ownBlock) (fun _ => False) rfl rfl ?aO ?aR (fun _ _ h => h) (fun _ h => h.elim) ?aF ?aB ?aS ?aL ?_;(case aR => repeat (first|exact (Kd.C_below HR1.out HB.out)|(with_reducible first|refine Kd.C_alloc ?_ _|refine Kd.C_drewN ?_ _|refine Kd.C_drew ?_)));(case aB => exact (by repeat (with_reducible first|exact HB.out|apply below_alloc|apply pw_below_drewN|apply below_drew1)));(case aF => exact (fun k_ hk => Kd.fresh' (Kd.R_lt (by (with_reducible repeat (first|apply Kd.R_alloc|apply Kd.R_drewN|apply Kd.R_drew));exact HO186.out)) k_ hk));(case aO => exact ((Kd.R_nil _ _ _ _ (fun k_ => some k_ ≠ (.slice Ao172 t184.length co172 : Value).ownBlock))));(case aS => exact (below_size (by repeat (with_reducible first|exact HB.out|apply below_alloc|apply pw_below_drewN|apply below_drew1))));(case aL => have:=LMc17.out;omega);intro v188 w173 ho hb hg hat;rw [← Ny187.out] at ho;have n0_:=aM (Kd.R_grown (by (with_reducible repeat (first|apply Kd.R_alloc|apply Kd.R_drewN|apply Kd.R_drew));exact HO183.out) hg (fun _ _ => by simp [Value.ownBlock]));have n1_:=aM (Kd.R_after (Kd.R_apart_nil (by (with_reducible repeat (first|apply Kd.R_alloc|apply Kd.R_drewN|apply Kd.R_drew));exact HO186.out)) hg hat);have n2_:=aM (hb);have n3_:=aM (ho);clear HO183;clear HO186;clear HB;have HO183:=n0_;have HO186:=n1_;have HB:=n2_;have HO189:=n3_;clear n0_ n1_ n2_ n3_;clear ho hb hg hat)|((with_reducible refine gate_builtin (b:=.append) (xs:=#[.tmp 38,.tmp 39]) rfl ?_);(try (refine gate_guard (by rfl) ?_;dsimp only));at_builtin;refine Kd.R_append_rows (Kd.int .u8) (w0:=w) w.heap.size rfl (.tmp 38) (.tmp 39) 24 5 (.int .u8 0) 1 rfl Try.underlying24 info5 rfl (by decide) (by omega) v188 y187 t184 _ _ _ (fun k_ => some k_ ≠ (.slice Ao172 t184.length co172 : Value).ownBlock) (fun _ => False) rfl rfl ?aO ?aR (fun _ _ h => h) (fun _ h => h.elim) ?aF ?aB ?aS ?aL ?_;(case aR => repeat (first|exact (Kd.R_reads' HO186.out).2.2|(with_reducible first|refine Kd.C_alloc ?_ _|refine Kd.C_drewN ?_ _|refine Kd.C_drew ?_)));(case aB => exact (by repeat (with_reducible first|exact HB.out|apply below_alloc|apply pw_below_drewN|apply below_drew1)));(case aF => exact (fun k_ hk => Kd.fresh' (Kd.R_lt (by (with_reducible repeat (first|apply Kd.R_alloc|apply Kd.R_drewN|apply Kd.R_drew));exact HO186.out)) k_ hk));(case aO => exact (by (with_reducible repeat (first|apply Kd.R_alloc|apply Kd.R_drewN|apply Kd.R_drew));exact HO189.out));(case aS => exact (below_size (by repeat (with_reducible first|exact HB.out|apply below_alloc|apply pw_below_drewN|apply below_drew1))));(case aL => have:=LMc18.out;omega);intro v191 w174 ho hb hg hat;rw [← Ny190.out] at ho;have n0_:=aM (Kd.R_over' (by (with_reducible repeat (first|apply Kd.R_alloc|apply Kd.R_drewN|apply Kd.R_drew));exact HO183.out) (Kd.R_typed (by (with_reducible repeat (first|apply Kd.R_alloc|apply Kd.R_drewN|apply Kd.R_drew));exact HO189.out)) (by decide) hg);have n1_:=aM (Kd.R_after (ok:=(fun _ => True)) (by (with_reducible repeat (first|apply Kd.R_alloc|apply Kd.R_drewN|apply Kd.R_drew));exact HO186.out) hg hat);have n2_:=aM (hb);have n3_:=aM (ho);clear HO183;clear HO186;clear HB;clear HO189;have HO183:=n0_;have HO186:=n1_;have HB:=n2_;have HO192:=n3_;clear n0_ n1_ n2_ n3_;clear ho hb hg hat)|((with_reducible refine gate_builtin (b:=.append) (xs:=#[.tmp 41,.tmp 42]) rfl ?_);(try (refine gate_guard (by rfl) ?_;dsimp only));at_builtin;refine Kd.R_append_rows (Kd.int .u8) (w0:=w) w.heap.size rfl (.tmp 41) (.tmp 42) 24 5 (.int .u8 0) 1 rfl Try.underlying24 info5 rfl (by decide) (by omega) v191 y190 l2 _ _ _ (fun k_ => some k_ ≠ (.slice Ao172 t184.length co172 : Value).ownBlock) (fun _ => False) rfl rfl ?aO ?aR (fun _ _ h => h) (fun _ h => h.elim) ?aF ?aB ?aS ?aL ?_;(case aR => repeat (first|exact (Kd.C_below HR2.out HB.out)|(with_reducible first|refine Kd.C_alloc ?_ _|refine Kd.C_drewN ?_ _|refine Kd.C_drew ?_)));(case aB => exact (by repeat (with_reducible first|exact HB.out|apply below_alloc|apply pw_below_drewN|apply below_drew1)));(case aF => exact (fun k_ hk => Kd.fresh' (Kd.R_lt (by (with_reducible repeat (first|apply Kd.R_alloc|apply Kd.R_drewN|apply Kd.R_drew));exact HO186.out)) k_ hk));(case aO => exact (by (with_reducible repeat (first|apply Kd.R_alloc|apply Kd.R_drewN|apply Kd.R_drew));exact HO192.out));(case aS => exact (below_size (by repeat (with_reducible first|exact HB.out|apply below_alloc|apply pw_below_drewN|apply below_drew1))));(case aL => have:=LMc19.out;omega);intro v194 w175 ho hb hg hat;rw [← Ny193.out] at ho;have n0_:=aM (Kd.R_over' (by (with_reducible repeat (first|apply Kd.R_alloc|apply Kd.R_drewN|apply Kd.R_drew));exact HO183.out) (Kd.R_typed (by (with_reducible repeat (first|apply Kd.R_alloc|apply Kd.R_drewN|apply Kd.R_drew));exact HO192.out)) (by decide) hg);have n1_:=aM (Kd.R_after (ok:=(fun _ => True)) (by (with_reducible repeat (first|apply Kd.R_alloc|apply Kd.R_drewN|apply Kd.R_drew));exact HO186.out) hg hat);have n2_:=aM (hb);have n3_:=aM (ho);clear HO183;clear HO186;clear HB;clear HO192;have HO183:=n0_;have HO186:=n1_;have HB:=n2_;have HO195:=n3_;clear n0_ n1_ n2_ n3_;clear ho hb hg hat;obtain ⟨Ao176,co176,eo176⟩:=Kd.R_slice HO195.out;subst eo176)|((with_reducible refine gate_callee (f:=16) rfl ?_);refine goesL_ (some 48) rfl rfl Try.func16 (by kernel_rfl) rfl #[.slice Ao176 y193.length co176,.int .i64 (l1.length : Int)] rfl (by (try simp only [List.map_toArray,List.map_cons,List.map_nil]);first|done|rfl|(simp only [List.length_drop,List.length_take];rfl)) ?_;(with_reducible refine (vint_Get.calls kj4 _ _ y193 (l1.length : Int) t196 t197 t198 _ ?side1 ?side2 A20.out).mono ?_);(case side1 => repeat (first|exact (Kd.R_reads' HO195.out).2.2|(with_reducible first|refine Kd.C_alloc ?_ _|refine Kd.C_drewN ?_ _|refine Kd.C_drew ?_)));(case side2 => exact (Kd.R_reads' HO195.out).2.1);rintro e w' ⟨rfl,⟨nd,rfl⟩⟩;refine ⟨_,rfl,?_⟩;have q177 : ((ji21) : Int) ≤ ((t184.length : Int) : Int):=of_decide_eq_true (by first|(with_reducible assumption)|assumption);obtain ⟨i0177,hi0177,_,hsz177,_⟩:=info_parts info5;have hroom177 : t184.length ≤ co172:=(Kd.R_reads' HO186.out).2.1;have hC177 : Kd.C (Kd.int .u8) _ Ao172 t184.length t184:=(Kd.R_reads' HO186.out).2.2;have hcut177:=cut_to (P:=Try.prog) 24 5 .i64 Try.underlying24 hi0177 Ao172 t184.length co172 (ji21) (of_decide_eq_true (by first|(with_reducible assumption)|assumption)) q177 hroom177;have hr177:=Kd.C_take (m:=((ji21) : Int).toNat) hC177 (by omega);have hy177 : y199.length = ((ji21) : Int).toNat:=(by rw [Ny199.out,List.length_take];omega);rw [← Ny199.out] at hr177;rw [← hy177] at hcut177;have HR202:=aM hr177;have HC202:=aM (show y199.length ≤ co172 from by omega);clear hr177 hC177 hroom177 hi0177 hsz177;have KY177:=aM hy177;clear hy177;have KL177:=aM (show ((ji21) : Int).toNat ≤ t184.length from by omega);replace q177:=eq_true q177)|((with_reducible refine gate_callee (f:=16) rfl ?_);refine goesL_ (some 60) rfl rfl Try.func16 (by kernel_rfl) rfl #[.slice Ao172 y199.length co172,.int .i64 0] rfl (by (try simp only [List.map_toArray,List.map_cons,List.map_nil]);first|done|rfl|(simp only [List.length_drop,List.length_take];rfl)) ?_;(with_reducible refine (vint_Get.calls kj4 _ _ y199 0 t203 t204 t205 _ ?side1 ?side2 A24.out).mono ?_);(case side1 => repeat (first|exact (by repeat (first|(with_reducible exact HR202.out)|(with_reducible first|refine Kd.C_alloc ?_ _|refine Kd.C_drewN ?_ _|refine Kd.C_drew ?_)|exact HR202.out))|(with_reducible first|refine Kd.C_alloc ?_ _|refine Kd.C_drewN ?_ _|refine Kd.C_drew ?_)));(case side2 => exact HC202.out);rintro e w' ⟨rfl,⟨nd,rfl⟩⟩;refine ⟨_,rfl,?_⟩)|((with_reducible refine gate_callee (f:=16) rfl ?_);refine goesL_ (some 66) rfl rfl Try.func16 (by kernel_rfl) rfl #[.slice A2 l2.length c2,.int .i64 0] rfl (by (try simp only [List.map_toArray,List.map_cons,List.map_nil]);first|done|rfl|(simp only [List.length_drop,List.length_take];rfl)) ?_;(with_reducible refine (vint_Get.calls kj4 _ _ l2 0 t206 t207 t208 _ ?side1 ?side2 A25.out).mono ?_);(case side1 => repeat (first|exact (Kd.C_below HR2.out (by repeat (with_reducible first|exact HB.out|apply below_alloc|apply pw_below_drewN|apply below_drew1)))|(with_reducible first|refine Kd.C_alloc ?_ _|refine Kd.C_drewN ?_ _|refine Kd.C_drew ?_)));(case side2 => exact HC2.out);rintro e w' ⟨rfl,⟨nd,rfl⟩⟩;refine ⟨_,rfl,?_⟩))
              (try (rw [drewN_self w175];generalize hq_ : World.drewN w175 _ = w175;have n0_ : Aside0 (Kd.R (Kd.int .u64) 26 w175 w.heap.size (fun _ => True) (.slice Ao170 y181.length co170) y181):=⟨by rw [← hq_];exact (by (with_reducible repeat (first | apply Kd.R_alloc | apply Kd.R_drewN | apply Kd.R_drew));exact HO183.out)⟩;have n1_ : Aside0 (Kd.R (Kd.int .u8) 5 w175 w.heap.size (fun k_ => some k_ ≠ (.slice Ao176 y193.length co176 : Value).ownBlock) (.slice Ao172 t184.length co172) t184):=⟨by rw [← hq_];exact (by (with_reducible repeat (first | apply Kd.R_alloc | apply Kd.R_drewN | apply Kd.R_drew));exact Kd.R_mono HO186.out (fun _ hk => hk.2))⟩;have n2_ : Aside0 (Kd.R (Kd.int .u8) 5 w175 w.heap.size (fun k_ => some k_ ≠ (.slice Ao172 t184.length co172 : Value).ownBlock) (.slice Ao176 y193.length co176) y193):=⟨by rw [← hq_];exact (by (with_reducible repeat (first | apply Kd.R_alloc | apply Kd.R_drewN | apply Kd.R_drew));exact HO195.out)⟩;have n3_ : Aside0 (Below w.heap.size w w175):=⟨by rw [← hq_];exact (by repeat (first | (with_reducible first | exact HB.out | apply below_alloc | apply pw_below_drewN | apply below_drew1) | exact HB.out))⟩;have n4_ : Aside0 (Kd.C (Kd.int .u8) w175 Ao172 y199.length y199):=⟨by rw [← hq_];exact (by repeat (first | (with_reducible exact HR202.out) | (with_reducible refine Kd.C_alloc ?_ _) | (with_reducible refine Kd.C_drewN ?_ _) | (with_reducible refine Kd.C_drew ?_) | exact HR202.out))⟩;clear HO183 HO186 HO195 HB HR202 hq_;have HO183:=n0_;have HO186:=n1_;have HO195:=n2_;have HB:=n3_;have HR202:=n4_;clear n0_ n1_ n2_ n3_ n4_))
              have n0_:=aM (Kd.R_drew HO183.out)
              have n1_:=aM (Kd.R_drew HO186.out)
              have n2_:=aM (Kd.R_drew HO195.out)
              have n3_:=aM (Kd.C_drew HR202.out)
              have n4_:=aM (below_drew1 HB.out)
              clear HO183
              clear HO186
              clear HO195
              clear HR202
              clear HB
              have HO183:=n0_
              have HO186:=n1_
              have HO195:=n2_
              have HR202:=n3_
              have HB:=n4_
              clear n0_ n1_ n2_ n3_ n4_
              refine start_ (n:=12) (S:=fun w' => True) (ds:=[]) #[false,false,false,false,false,false,false,false,false,false,false,false] (by kernel_rfl) rfl rfl trivial (fun hHeld => ?_);refine with_tabW lapidarylaw01_VintOnce.tab13 lapidarylaw01_VintOnce.bits13 (fun HT_ HW_ => ?_)
              generalize w175.drew = w178 at HO183 HO186 HO195 HR202 HB hHeld ⊢
              refine pure_ (i:=0) (N:=some 70) (v:=?_) (a':=?_) #[true,false,false,false,false,false,false,false,false,false,false,false] rfl rfl (any_of HT_.out (by kernel_rfl)) (fun _ _ _ h => h) (Or.inl ⟨by rfl,?_⟩) ?_ ?_
              rotate_left
              ·intro w'
               go_simp
               with_reducible rfl
              rotate_left
              ·simp only [Act.put,sA,sB,sC,i64_w,i32_w]
               rfl
              refine pure_ (i:=1) (N:=some 71) (v:=?_) (a':=?_) #[true,true,false,false,false,false,false,false,false,false,false,false] rfl rfl (any_of HT_.out (by kernel_rfl)) (fun _ _ _ h => h) (Or.inl ⟨by rfl,?_⟩) ?_ ?_
              rotate_left
              ·intro w'
               go_simp
               with_reducible rfl
              rotate_left
              ·simp only [Act.put,sA,sB,sC,i64_w,i32_w]
               rfl
              refine pure_ (i:=2) (N:=some 72) (v:=?_) (a':=?_) #[true,true,true,false,false,false,false,false,false,false,false,false] rfl rfl (any_of HT_.out (by kernel_rfl)) (fun _ _ _ h => h) (Or.inl ⟨by rfl,?_⟩) ?_ ?_
              rotate_left
              ·intro w'
               go_simp
               with_reducible rfl
              rotate_left
              ·simp only [Act.put,sA,sB,sC,i64_w,i32_w]
               rfl
              refine pure_ (i:=3) (N:=some 73) (v:=undef) (a':=?_) #[true,true,true,true,false,false,false,false,false,false,false,false] rfl rfl (any_of HT_.out (by kernel_rfl)) (fun _ _ _ h => h) (Or.inr ⟨by rfl,rfl⟩) ?_ ?_
              rotate_left
              ·simp only [Act.put,sA,sB,sC,i64_w,i32_w]
               rfl
              refine pure_ (i:=4) (N:=some 74) (v:=undef) (a':=?_) #[true,true,true,true,true,false,false,false,false,false,false,false] rfl rfl (any_of HT_.out (by kernel_rfl)) (fun _ _ _ h => h) (Or.inr ⟨by rfl,rfl⟩) ?_ ?_
              rotate_left
              ·simp only [Act.put,sA,sB,sC,i64_w,i32_w]
               rfl
              refine pure_ (i:=5) (N:=some 75) (v:=undef) (a':=?_) #[true,true,true,true,true,true,false,false,false,false,false,false] rfl rfl (any_of HT_.out (by kernel_rfl)) (fun _ _ _ h => h) (Or.inr ⟨by rfl,rfl⟩) ?_ ?_
              rotate_left
              ·simp only [Act.put,sA,sB,sC,i64_w,i32_w]
               rfl
              refine pure_ (i:=6) (N:=some 76) (v:=undef) (a':=?_) #[true,true,true,true,true,true,true,false,false,false,false,false] rfl rfl (any_of HT_.out (by kernel_rfl)) (fun _ _ _ h => h) (Or.inr ⟨by rfl,rfl⟩) ?_ ?_
              rotate_left
              ·simp only [Act.put,sA,sB,sC,i64_w,i32_w]
               rfl
              refine pure_ (i:=7) (N:=some 77) (v:=undef) (a':=?_) #[true,true,true,true,true,true,true,true,false,false,false,false] rfl rfl (any_of HT_.out (by kernel_rfl)) (fun _ _ _ h => h) (Or.inr ⟨by rfl,rfl⟩) ?_ ?_
              rotate_left
              ·simp only [Act.put,sA,sB,sC,i64_w,i32_w]
               rfl
              refine pure_ (i:=8) (N:=some 78) (v:=undef) (a':=?_) #[true,true,true,true,true,true,true,true,true,false,false,false] rfl rfl (any_of HT_.out (by kernel_rfl)) (fun _ _ _ h => h) (Or.inr ⟨by rfl,rfl⟩) ?_ ?_
              rotate_left
              ·simp only [Act.put,sA,sB,sC,i64_w,i32_w]
               rfl
              refine pure_ (i:=9) (N:=some 79) (v:=undef) (a':=?_) #[true,true,true,true,true,true,true,true,true,true,false,false] rfl rfl (any_of HT_.out (by kernel_rfl)) (fun _ _ _ h => h) (Or.inr ⟨by rfl,rfl⟩) ?_ ?_
              rotate_left
              ·simp only [Act.put,sA,sB,sC,i64_w,i32_w]
               rfl
              refine pure_ (i:=10) (N:=some 80) (v:=undef) (a':=?_) #[true,true,true,true,true,true,true,true,true,true,true,false] rfl rfl (any_of HT_.out (by kernel_rfl)) (fun _ _ _ h => h) (Or.inr ⟨by rfl,rfl⟩) ?_ ?_
              rotate_left
              ·simp only [Act.put,sA,sB,sC,i64_w,i32_w]
               rfl
              refine pure_ (i:=11) (N:=some 81) (v:=?_) (a':=?_) #[true,true,true,true,true,true,true,true,true,true,true,true] rfl rfl (any_of HT_.out (by kernel_rfl)) (fun _ _ _ h => h) (Or.inl ⟨by rfl,?_⟩) ?_ ?_
              rotate_left
              ·intro w'
               go_simp
               with_reducible rfl
              rotate_left
              ·simp only [Act.put,sA,sB,sC,i64_w,i32_w]
               rfl
              refine done_ (done_of HT_.out (by kernel_rfl)) ?_
              try go_wp2
              go_ret
              exact ⟨by first | rfl | (simp [errW_none,errW_some]<;>rfl) | (simp only [← hji21];first | rfl | (simp [errW_none,errW_some]<;>rfl)) | (simp [*,errW_none,errW_some]<;>rfl),by repeat (first | (with_reducible first | exact HB.out | apply below_alloc | apply pw_below_drewN | apply below_drew1) | exact HB.out)⟩
            ·rw [if_neg c141] at H
             have c141b0 : (t197 == (wrap64 ((l1.length : Int)+(t184.length : Int)))) = false:=beq_eq_false_iff_ne.mpr c141
             have c141b1 : (t197 != (wrap64 ((l1.length : Int)+(t184.length : Int)))) = true:=bne_iff_ne.mpr c141
             obtain rfl:=Option.some.inj H
             try go_wp2_with (first|((with_reducible refine gate_dst (N:=30) rfl ?_);(try (refine gate_guard (by rfl) ?_;dsimp only));refine Kd.R_lit (Kd.int .u64) _ 26 ?hg (N:=30) ?hd (xs:=([a0] : List Int)) (inner:=[.int .u64 a0]) (ok:=fun _ => True) (okp:=fun _ => True) ?hr ?hp (fun _ hk => hk) trivial (Below.refl _ _) (Nat.le_refl _) (by simp) ?_;(case hd => rfl);(case hg => rfl);(case hr => first|(go_simp;done)|(go_simp;rfl));(case hp => exact (Reps.one (show Kd.M (Kd.int .u64) _ _ _ a0 [.int .u64 a0] from rfl) (Reps.none _ _)));intro v182 w179 ho180 hb hg_ hnew_;clear hg_ hnew_;(first|rw [← Ny181.out] at ho180|(simp only [Int.reduceToNat] at ho180;rw [← Ny181.out] at ho180));have n0_:=aM (Kd.R_lower ho180 (below_size (by repeat (with_reducible first|exact HB.out|apply below_alloc|apply pw_below_drewN|apply below_drew1))));have n1_:=aM (below_step (by repeat (with_reducible first|exact HB.out|apply below_alloc|apply pw_below_drewN|apply below_drew1)) hb);clear HB;have HO183:=n0_;have HB:=n1_;clear n0_ n1_;clear hb ho180;obtain ⟨Ao181,co181,eo181⟩:=Kd.R_slice HO183.out;subst eo181)|((with_reducible refine gate_callee (f:=15) rfl ?_);refine goesL_ (some 31) rfl rfl Try.func15 (by kernel_rfl) rfl #[.slice Ao181 y181.length co181] rfl (by (try simp only [List.map_toArray,List.map_cons,List.map_nil]);first|done|rfl|(simp only [List.length_drop,List.length_take];rfl)) ?_;(with_reducible refine (vint_Put.calls kj4 _ _ y181 t184 _ ?side1 ?side2 A10.out).mono ?_);(case side1 => repeat (first|exact (Kd.R_reads' HO183.out).2.2|(with_reducible first|refine Kd.C_alloc ?_ _|refine Kd.C_drewN ?_ _|refine Kd.C_drew ?_)));(case side2 => exact (Kd.R_reads' HO183.out).2.1);rintro e w182 ⟨v185,rfl,ho0,hb⟩;refine ⟨_,rfl,?_⟩;have n0_:=aM (Kd.R_below (by (with_reducible repeat (first|apply Kd.R_alloc|apply Kd.R_drewN|apply Kd.R_drew));exact HO183.out) hb);have n1_:=aM (Kd.R_lower ho0 (below_size (by repeat (with_reducible first|exact HB.out|apply below_alloc|apply pw_below_drewN|apply below_drew1))));have n2_:=aM (below_step (by repeat (with_reducible first|exact HB.out|apply below_alloc|apply pw_below_drewN|apply below_drew1)) hb);clear HO183;clear HB;have HO183:=n0_;have HO186:=n1_;have HB:=n2_;clear n0_ n1_ n2_;(try clear hb);(try clear hb2);(try clear hk);(try clear hi);(try clear ho0);obtain ⟨Ao183,co183,eo183⟩:=Kd.R_slice HO186.out;subst eo183)|((with_reducible refine gate_builtin (b:=.append) (xs:=#[.tmp 35,.tmp 36]) rfl ?_);(try (refine gate_guard (by rfl) ?_;dsimp only));at_builtin;refine Kd.R_append_rows (Kd.int .u8) (w0:=w) w.heap.size rfl (.tmp 35) (.tmp 36) 24 5 (.int .u8 0) 1 rfl Try.underlying24 info5 rfl (by decide) (by omega) (.slice none 0 0) ([] : List Int) l1 _ _ _ (fun k_ => some k_ ≠ (.slice Ao183 t184.length co183 : Value).ownBlock) (fun _ => False) rfl rfl ?aO ?aR (fun _ _ h => h) (fun _ h => h.elim) ?aF ?aB ?aS ?aL ?_;(case aR => repeat (first|exact (Kd.C_below HR1.out HB.out)|(with_reducible first|refine Kd.C_alloc ?_ _|refine Kd.C_drewN ?_ _|refine Kd.C_drew ?_)));(case aB => exact (by repeat (with_reducible first|exact HB.out|apply below_alloc|apply pw_below_drewN|apply below_drew1)));(case aF => exact (fun k_ hk => Kd.fresh' (Kd.R_lt (by (with_reducible repeat (first|apply Kd.R_alloc|apply Kd.R_drewN|apply Kd.R_drew));exact HO186.out)) k_ hk));(case aO => exact ((Kd.R_nil _ _ _ _ (fun k_ => some k_ ≠ (.slice Ao183 t184.length co183 : Value).ownBlock))));(case aS => exact (below_size (by repeat (with_reducible first|exact HB.out|apply below_alloc|apply pw_below_drewN|apply below_drew1))));(case aL => have:=LMc17.out;omega);intro v188 w184 ho hb hg hat;rw [← Ny187.out] at ho;have n0_:=aM (Kd.R_grown (by (with_reducible repeat (first|apply Kd.R_alloc|apply Kd.R_drewN|apply Kd.R_drew));exact HO183.out) hg (fun _ _ => by simp [Value.ownBlock]));have n1_:=aM (Kd.R_after (Kd.R_apart_nil (by (with_reducible repeat (first|apply Kd.R_alloc|apply Kd.R_drewN|apply Kd.R_drew));exact HO186.out)) hg hat);have n2_:=aM (hb);have n3_:=aM (ho);clear HO183;clear HO186;clear HB;have HO183:=n0_;have HO186:=n1_;have HB:=n2_;have HO189:=n3_;clear n0_ n1_ n2_ n3_;clear ho hb hg hat)|((with_reducible refine gate_builtin (b:=.append) (xs:=#[.tmp 38,.tmp 39]) rfl ?_);(try (refine gate_guard (by rfl) ?_;dsimp only));at_builtin;refine Kd.R_append_rows (Kd.int .u8) (w0:=w) w.heap.size rfl (.tmp 38) (.tmp 39) 24 5 (.int .u8 0) 1 rfl Try.underlying24 info5 rfl (by decide) (by omega) v188 y187 t184 _ _ _ (fun k_ => some k_ ≠ (.slice Ao183 t184.length co183 : Value).ownBlock) (fun _ => False) rfl rfl ?aO ?aR (fun _ _ h => h) (fun _ h => h.elim) ?aF ?aB ?aS ?aL ?_;(case aR => repeat (first|exact (Kd.R_reads' HO186.out).2.2|(with_reducible first|refine Kd.C_alloc ?_ _|refine Kd.C_drewN ?_ _|refine Kd.C_drew ?_)));(case aB => exact (by repeat (with_reducible first|exact HB.out|apply below_alloc|apply pw_below_drewN|apply below_drew1)));(case aF => exact (fun k_ hk => Kd.fresh' (Kd.R_lt (by (with_reducible repeat (first|apply Kd.R_alloc|apply Kd.R_drewN|apply Kd.R_drew));exact HO186.out)) k_ hk));(case aO => exact (by (with_reducible repeat (first|apply Kd.R_alloc|apply Kd.R_drewN|apply Kd.R_drew));exact HO189.out));(case aS => exact (below_size (by repeat (with_reducible first|exact HB.out|apply below_alloc|apply pw_below_drewN|apply below_drew1))));(case aL => have:=LMc18.out;omega);intro v191 w185 ho hb hg hat;rw [← Ny190.out] at ho;have n0_:=aM (Kd.R_over' (by (with_reducible repeat (first|apply Kd.R_alloc|apply Kd.R_drewN|apply Kd.R_drew));exact HO183.out) (Kd.R_typed (by (with_reducible repeat (first|apply Kd.R_alloc|apply Kd.R_drewN|apply Kd.R_drew));exact HO189.out)) (by decide) hg);have n1_:=aM (Kd.R_after (ok:=(fun _ => True)) (by (with_reducible repeat (first|apply Kd.R_alloc|apply Kd.R_drewN|apply Kd.R_drew));exact HO186.out) hg hat);have n2_:=aM (hb);have n3_:=aM (ho);clear HO183;clear HO186;clear HB;clear HO189;have HO183:=n0_;have HO186:=n1_;have HB:=n2_;have HO192:=n3_;clear n0_ n1_ n2_ n3_;clear ho hb hg hat)|((with_reducible refine gate_builtin (b:=.append) (xs:=#[.tmp 41,.tmp 42]) rfl ?_);(try (refine gate_guard (by rfl) ?_;dsimp only));at_builtin;refine Kd.R_append_rows (Kd.int .u8) (w0:=w) w.heap.size rfl (.tmp 41) (.tmp 42) 24 5 (.int .u8 0) 1 rfl Try.underlying24 info5 rfl (by decide) (by omega) v191 y190 l2 _ _ _ (fun k_ => some k_ ≠ (.slice Ao183 t184.length co183 : Value).ownBlock) (fun _ => False) rfl rfl ?aO ?aR (fun _ _ h => h) (fun _ h => h.elim) ?aF ?aB ?aS ?aL ?_;(case aR => repeat (first|exact (Kd.C_below HR2.out HB.out)|(with_reducible first|refine Kd.C_alloc ?_ _|refine Kd.C_drewN ?_ _|refine Kd.C_drew ?_)));(case aB => exact (by repeat (with_reducible first|exact HB.out|apply below_alloc|apply pw_below_drewN|apply below_drew1)));(case aF => exact (fun k_ hk => Kd.fresh' (Kd.R_lt (by (with_reducible repeat (first|apply Kd.R_alloc|apply Kd.R_drewN|apply Kd.R_drew));exact HO186.out)) k_ hk));(case aO => exact (by (with_reducible repeat (first|apply Kd.R_alloc|apply Kd.R_drewN|apply Kd.R_drew));exact HO192.out));(case aS => exact (below_size (by repeat (with_reducible first|exact HB.out|apply below_alloc|apply pw_below_drewN|apply below_drew1))));(case aL => have:=LMc19.out;omega);intro v194 w186 ho hb hg hat;rw [← Ny193.out] at ho;have n0_:=aM (Kd.R_over' (by (with_reducible repeat (first|apply Kd.R_alloc|apply Kd.R_drewN|apply Kd.R_drew));exact HO183.out) (Kd.R_typed (by (with_reducible repeat (first|apply Kd.R_alloc|apply Kd.R_drewN|apply Kd.R_drew));exact HO192.out)) (by decide) hg);have n1_:=aM (Kd.R_after (ok:=(fun _ => True)) (by (with_reducible repeat (first|apply Kd.R_alloc|apply Kd.R_drewN|apply Kd.R_drew));exact HO186.out) hg hat);have n2_:=aM (hb);have n3_:=aM (ho);clear HO183;clear HO186;clear HB;clear HO192;have HO183:=n0_;have HO186:=n1_;have HB:=n2_;have HO195:=n3_;clear n0_ n1_ n2_ n3_;clear ho hb hg hat;obtain ⟨Ao187,co187,eo187⟩:=Kd.R_slice HO195.out;subst eo187)|((with_reducible refine gate_callee (f:=16) rfl ?_);refine goesL_ (some 48) rfl rfl Try.func16 (by kernel_rfl) rfl #[.slice Ao187 y193.length co187,.int .i64 (l1.length : Int)] rfl (by (try simp only [List.map_toArray,List.map_cons,List.map_nil]);first|done|rfl|(simp only [List.length_drop,List.length_take];rfl)) ?_;(with_reducible refine (vint_Get.calls kj4 _ _ y193 (l1.length : Int) t196 t197 t198 _ ?side1 ?side2 A20.out).mono ?_);(case side1 => repeat (first|exact (Kd.R_reads' HO195.out).2.2|(with_reducible first|refine Kd.C_alloc ?_ _|refine Kd.C_drewN ?_ _|refine Kd.C_drew ?_)));(case side2 => exact (Kd.R_reads' HO195.out).2.1);rintro e w' ⟨rfl,⟨nd,rfl⟩⟩;refine ⟨_,rfl,?_⟩;have q188 : ((ji21) : Int) ≤ ((t184.length : Int) : Int):=of_decide_eq_true (by first|(with_reducible assumption)|assumption);obtain ⟨i0188,hi0188,_,hsz188,_⟩:=info_parts info5;have hroom188 : t184.length ≤ co183:=(Kd.R_reads' HO186.out).2.1;have hC188 : Kd.C (Kd.int .u8) _ Ao183 t184.length t184:=(Kd.R_reads' HO186.out).2.2;have hcut188:=cut_to (P:=Try.prog) 24 5 .i64 Try.underlying24 hi0188 Ao183 t184.length co183 (ji21) (of_decide_eq_true (by first|(with_reducible assumption)|assumption)) q188 hroom188;have hr188:=Kd.C_take (m:=((ji21) : Int).toNat) hC188 (by omega);have hy188 : y199.length = ((ji21) : Int).toNat:=(by rw [Ny199.out,List.length_take];omega);rw [← Ny199.out] at hr188;rw [← hy188] at hcut188;have HR202:=aM hr188;have HC202:=aM (show y199.length ≤ co183 from by omega);clear hr188 hC188 hroom188 hi0188 hsz188;have KY188:=aM hy188;clear hy188;have KL188:=aM (show ((ji21) : Int).toNat ≤ t184.length from by omega);replace q188:=eq_true q188)|((with_reducible refine gate_callee (f:=16) rfl ?_);refine goesL_ (some 60) rfl rfl Try.func16 (by kernel_rfl) rfl #[.slice Ao183 y199.length co183,.int .i64 0] rfl (by (try simp only [List.map_toArray,List.map_cons,List.map_nil]);first|done|rfl|(simp only [List.length_drop,List.length_take];rfl)) ?_;(with_reducible refine (vint_Get.calls kj4 _ _ y199 0 t203 t204 t205 _ ?side1 ?side2 A24.out).mono ?_);(case side1 => repeat (first|exact (by repeat (first|(with_reducible exact HR202.out)|(with_reducible first|refine Kd.C_alloc ?_ _|refine Kd.C_drewN ?_ _|refine Kd.C_drew ?_)|exact HR202.out))|(with_reducible first|refine Kd.C_alloc ?_ _|refine Kd.C_drewN ?_ _|refine Kd.C_drew ?_)));(case side2 => exact HC202.out);rintro e w' ⟨rfl,⟨nd,rfl⟩⟩;refine ⟨_,rfl,?_⟩)|((with_reducible refine gate_callee (f:=16) rfl ?_);refine goesL_ (some 66) rfl rfl Try.func16 (by kernel_rfl) rfl #[.slice A2 l2.length c2,.int .i64 0] rfl (by (try simp only [List.map_toArray,List.map_cons,List.map_nil]);first|done|rfl|(simp only [List.length_drop,List.length_take];rfl)) ?_;(with_reducible refine (vint_Get.calls kj4 _ _ l2 0 t206 t207 t208 _ ?side1 ?side2 A25.out).mono ?_);(case side1 => repeat (first|exact (Kd.C_below HR2.out (by repeat (with_reducible first|exact HB.out|apply below_alloc|apply pw_below_drewN|apply below_drew1)))|(with_reducible first|refine Kd.C_alloc ?_ _|refine Kd.C_drewN ?_ _|refine Kd.C_drew ?_)));(case side2 => exact HC2.out);rintro e w' ⟨rfl,⟨nd,rfl⟩⟩;refine ⟨_,rfl,?_⟩))
             (try (rw [drewN_self w186];generalize hq_ : World.drewN w186 _ = w186;have n0_ : Aside0 (Kd.R (Kd.int .u64) 26 w186 w.heap.size (fun _ => True) (.slice Ao181 y181.length co181) y181):=⟨by rw [← hq_];exact (by (with_reducible repeat (first | apply Kd.R_alloc | apply Kd.R_drewN | apply Kd.R_drew));exact HO183.out)⟩;have n1_ : Aside0 (Kd.R (Kd.int .u8) 5 w186 w.heap.size (fun k_ => some k_ ≠ (.slice Ao187 y193.length co187 : Value).ownBlock) (.slice Ao183 t184.length co183) t184):=⟨by rw [← hq_];exact (by (with_reducible repeat (first | apply Kd.R_alloc | apply Kd.R_drewN | apply Kd.R_drew));exact Kd.R_mono HO186.out (fun _ hk => hk.2))⟩;have n2_ : Aside0 (Kd.R (Kd.int .u8) 5 w186 w.heap.size (fun k_ => some k_ ≠ (.slice Ao183 t184.length co183 : Value).ownBlock) (.slice Ao187 y193.length co187) y193):=⟨by rw [← hq_];exact (by (with_reducible repeat (first | apply Kd.R_alloc | apply Kd.R_drewN | apply Kd.R_drew));exact HO195.out)⟩;have n3_ : Aside0 (Below w.heap.size w w186):=⟨by rw [← hq_];exact (by repeat (first | (with_reducible first | exact HB.out | apply below_alloc | apply pw_below_drewN | apply below_drew1) | exact HB.out))⟩;have n4_ : Aside0 (Kd.C (Kd.int .u8) w186 Ao183 y199.length y199):=⟨by rw [← hq_];exact (by repeat (first | (with_reducible exact HR202.out) | (with_reducible refine Kd.C_alloc ?_ _) | (with_reducible refine Kd.C_drewN ?_ _) | (with_reducible refine Kd.C_drew ?_) | exact HR202.out))⟩;clear HO183 HO186 HO195 HB HR202 hq_;have HO183:=n0_;have HO186:=n1_;have HO195:=n2_;have HB:=n3_;have HR202:=n4_;clear n0_ n1_ n2_ n3_ n4_))
             have n0_:=aM (Kd.R_drew HO183.out)
             have n1_:=aM (Kd.R_drew HO186.out)
             have n2_:=aM (Kd.R_drew HO195.out)
             have n3_:=aM (Kd.C_drew HR202.out)
             have n4_:=aM (below_drew1 HB.out)
             clear HO183
             clear HO186
             clear HO195
             clear HR202
             clear HB
             have HO183:=n0_
             have HO186:=n1_
             have HO195:=n2_
             have HR202:=n3_
             have HB:=n4_
             clear n0_ n1_ n2_ n3_ n4_
             refine start_ (n:=12) (S:=fun w' => True) (ds:=[]) #[false,false,false,false,false,false,false,false,false,false,false,false] (by kernel_rfl) rfl rfl trivial (fun hHeld => ?_);refine with_tabW lapidarylaw01_VintOnce.tab13 lapidarylaw01_VintOnce.bits13 (fun HT_ HW_ => ?_)
             generalize w186.drew = w189 at HO183 HO186 HO195 HR202 HB hHeld ⊢
             refine pure_ (i:=0) (N:=some 70) (v:=?_) (a':=?_) #[true,false,false,false,false,false,false,false,false,false,false,false] rfl rfl (any_of HT_.out (by kernel_rfl)) (fun _ _ _ h => h) (Or.inl ⟨by rfl,?_⟩) ?_ ?_
             rotate_left
             ·intro w'
              go_simp
              with_reducible rfl
             rotate_left
             ·simp only [Act.put,sA,sB,sC,i64_w,i32_w]
              rfl
             refine pure_ (i:=1) (N:=some 71) (v:=?_) (a':=?_) #[true,true,false,false,false,false,false,false,false,false,false,false] rfl rfl (any_of HT_.out (by kernel_rfl)) (fun _ _ _ h => h) (Or.inl ⟨by rfl,?_⟩) ?_ ?_
             rotate_left
             ·intro w'
              go_simp
              with_reducible rfl
             rotate_left
             ·simp only [Act.put,sA,sB,sC,i64_w,i32_w]
              rfl
             refine pure_ (i:=2) (N:=some 72) (v:=?_) (a':=?_) #[true,true,true,false,false,false,false,false,false,false,false,false] rfl rfl (any_of HT_.out (by kernel_rfl)) (fun _ _ _ h => h) (Or.inl ⟨by rfl,?_⟩) ?_ ?_
             rotate_left
             ·intro w'
              go_simp
              with_reducible rfl
             rotate_left
             ·simp only [Act.put,sA,sB,sC,i64_w,i32_w]
              rfl
             refine pure_ (i:=3) (N:=some 73) (v:=undef) (a':=?_) #[true,true,true,true,false,false,false,false,false,false,false,false] rfl rfl (any_of HT_.out (by kernel_rfl)) (fun _ _ _ h => h) (Or.inr ⟨by rfl,rfl⟩) ?_ ?_
             rotate_left
             ·simp only [Act.put,sA,sB,sC,i64_w,i32_w]
              rfl
             refine pure_ (i:=4) (N:=some 74) (v:=undef) (a':=?_) #[true,true,true,true,true,false,false,false,false,false,false,false] rfl rfl (any_of HT_.out (by kernel_rfl)) (fun _ _ _ h => h) (Or.inr ⟨by rfl,rfl⟩) ?_ ?_
             rotate_left
             ·simp only [Act.put,sA,sB,sC,i64_w,i32_w]
              rfl
             refine pure_ (i:=5) (N:=some 75) (v:=undef) (a':=?_) #[true,true,true,true,true,true,false,false,false,false,false,false] rfl rfl (any_of HT_.out (by kernel_rfl)) (fun _ _ _ h => h) (Or.inr ⟨by rfl,rfl⟩) ?_ ?_
             rotate_left
             ·simp only [Act.put,sA,sB,sC,i64_w,i32_w]
              rfl
             refine pure_ (i:=6) (N:=some 76) (v:=undef) (a':=?_) #[true,true,true,true,true,true,true,false,false,false,false,false] rfl rfl (any_of HT_.out (by kernel_rfl)) (fun _ _ _ h => h) (Or.inr ⟨by rfl,rfl⟩) ?_ ?_
             rotate_left
             ·simp only [Act.put,sA,sB,sC,i64_w,i32_w]
              rfl
             refine pure_ (i:=7) (N:=some 77) (v:=undef) (a':=?_) #[true,true,true,true,true,true,true,true,false,false,false,false] rfl rfl (any_of HT_.out (by kernel_rfl)) (fun _ _ _ h => h) (Or.inr ⟨by rfl,rfl⟩) ?_ ?_
             rotate_left
             ·simp only [Act.put,sA,sB,sC,i64_w,i32_w]
              rfl
             refine pure_ (i:=8) (N:=some 78) (v:=undef) (a':=?_) #[true,true,true,true,true,true,true,true,true,false,false,false] rfl rfl (any_of HT_.out (by kernel_rfl)) (fun _ _ _ h => h) (Or.inr ⟨by rfl,rfl⟩) ?_ ?_
             rotate_left
             ·simp only [Act.put,sA,sB,sC,i64_w,i32_w]
              rfl
             refine pure_ (i:=9) (N:=some 79) (v:=undef) (a':=?_) #[true,true,true,true,true,true,true,true,true,true,false,false] rfl rfl (any_of HT_.out (by kernel_rfl)) (fun _ _ _ h => h) (Or.inr ⟨by rfl,rfl⟩) ?_ ?_
             rotate_left
             ·simp only [Act.put,sA,sB,sC,i64_w,i32_w]
              rfl
             refine pure_ (i:=10) (N:=some 80) (v:=undef) (a':=?_) #[true,true,true,true,true,true,true,true,true,true,true,false] rfl rfl (any_of HT_.out (by kernel_rfl)) (fun _ _ _ h => h) (Or.inr ⟨by rfl,rfl⟩) ?_ ?_
             rotate_left
             ·simp only [Act.put,sA,sB,sC,i64_w,i32_w]
              rfl
             refine pure_ (i:=11) (N:=some 81) (v:=?_) (a':=?_) #[true,true,true,true,true,true,true,true,true,true,true,true] rfl rfl (any_of HT_.out (by kernel_rfl)) (fun _ _ _ h => h) (Or.inl ⟨by rfl,?_⟩) ?_ ?_
             rotate_left
             ·intro w'
              go_simp
              with_reducible rfl
             rotate_left
             ·simp only [Act.put,sA,sB,sC,i64_w,i32_w]
              rfl
             refine done_ (done_of HT_.out (by kernel_rfl)) ?_
             try go_wp2
             go_ret
             exact ⟨by first | rfl | (simp [errW_none,errW_some]<;>rfl) | (simp only [← hji21];first | rfl | (simp [errW_none,errW_some]<;>rfl)) | (simp [*,errW_none,errW_some]<;>rfl),by repeat (first | (with_reducible first | exact HB.out | apply below_alloc | apply pw_below_drewN | apply below_drew1) | exact HB.out)⟩
           ·rw [if_neg c140] at H
            have c140b0 : (t196 == a0) = false:=beq_eq_false_iff_ne.mpr c140
            have c140b1 : (t196 != a0) = true:=bne_iff_ne.mpr c140
            obtain rfl:=Option.some.inj H
            try go_wp2_with (first|((with_reducible refine gate_dst (N:=30) rfl ?_);(try (refine gate_guard (by rfl) ?_;dsimp only));refine Kd.R_lit (Kd.int .u64) _ 26 ?hg (N:=30) ?hd (xs:=([a0] : List Int)) (inner:=[.int .u64 a0]) (ok:=fun _ => True) (okp:=fun _ => True) ?hr ?hp (fun _ hk => hk) trivial (Below.refl _ _) (Nat.le_refl _) (by simp) ?_;(case hd => rfl);(case hg => rfl);(case hr => first|(go_simp;done)|(go_simp;rfl));(case hp => exact (Reps.one (show Kd.M (Kd.int .u64) _ _ _ a0 [.int .u64 a0] from rfl) (Reps.none _ _)));intro v182 w190 ho191 hb hg_ hnew_;clear hg_ hnew_;(first|rw [← Ny181.out] at ho191|(simp only [Int.reduceToNat] at ho191;rw [← Ny181.out] at ho191));have n0_:=aM (Kd.R_lower ho191 (below_size (by repeat (with_reducible first|exact HB.out|apply below_alloc|apply pw_below_drewN|apply below_drew1))));have n1_:=aM (below_step (by repeat (with_reducible first|exact HB.out|apply below_alloc|apply pw_below_drewN|apply below_drew1)) hb);clear HB;have HO183:=n0_;have HB:=n1_;clear n0_ n1_;clear hb ho191;obtain ⟨Ao192,co192,eo192⟩:=Kd.R_slice HO183.out;subst eo192)|((with_reducible refine gate_callee (f:=15) rfl ?_);refine goesL_ (some 31) rfl rfl Try.func15 (by kernel_rfl) rfl #[.slice Ao192 y181.length co192] rfl (by (try simp only [List.map_toArray,List.map_cons,List.map_nil]);first|done|rfl|(simp only [List.length_drop,List.length_take];rfl)) ?_;(with_reducible refine (vint_Put.calls kj4 _ _ y181 t184 _ ?side1 ?side2 A10.out).mono ?_);(case side1 => repeat (first|exact (Kd.R_reads' HO183.out).2.2|(with_reducible first|refine Kd.C_alloc ?_ _|refine Kd.C_drewN ?_ _|refine Kd.C_drew ?_)));(case side2 => exact (Kd.R_reads' HO183.out).2.1);rintro e w193 ⟨v185,rfl,ho0,hb⟩;refine ⟨_,rfl,?_⟩;have n0_:=aM (Kd.R_below (by (with_reducible repeat (first|apply Kd.R_alloc|apply Kd.R_drewN|apply Kd.R_drew));exact HO183.out) hb);have n1_:=aM (Kd.R_lower ho0 (below_size (by repeat (with_reducible first|exact HB.out|apply below_alloc|apply pw_below_drewN|apply below_drew1))));have n2_:=aM (below_step (by repeat (with_reducible first|exact HB.out|apply below_alloc|apply pw_below_drewN|apply below_drew1)) hb);clear HO183;clear HB;have HO183:=n0_;have HO186:=n1_;have HB:=n2_;clear n0_ n1_ n2_;(try clear hb);(try clear hb2);(try clear hk);(try clear hi);(try clear ho0);obtain ⟨Ao194,co194,eo194⟩:=Kd.R_slice HO186.out;subst eo194)|((with_reducible refine gate_builtin (b:=.append) (xs:=#[.tmp 35,.tmp 36]) rfl ?_);(try (refine gate_guard (by rfl) ?_;dsimp only));at_builtin;refine Kd.R_append_rows (Kd.int .u8) (w0:=w) w.heap.size rfl (.tmp 35) (.tmp 36) 24 5 (.int .u8 0) 1 rfl Try.underlying24 info5 rfl (by decide) (by omega) (.slice none 0 0) ([] : List Int) l1 _ _ _ (fun k_ => some k_ ≠ (.slice Ao194 t184.length co194 : Value).ownBlock) (fun _ => False) rfl rfl ?aO ?aR (fun _ _ h => h) (fun _ h => h.elim) ?aF ?aB ?aS ?aL ?_;(case aR => repeat (first|exact (Kd.C_below HR1.out HB.out)|(with_reducible first|refine Kd.C_alloc ?_ _|refine Kd.C_drewN ?_ _|refine Kd.C_drew ?_)));(case aB => exact (by repeat (with_reducible first|exact HB.out|apply below_alloc|apply pw_below_drewN|apply below_drew1)));(case aF => exact (fun k_ hk => Kd.fresh' (Kd.R_lt (by (with_reducible repeat (first|apply Kd.R_alloc|apply Kd.R_drewN|apply Kd.R_drew));exact HO186.out)) k_ hk));(case aO => exact ((Kd.R_nil _ _ _ _ (fun k_ => some k_ ≠ (.slice Ao194 t184.length co194 : Value).ownBlock))));(case aS => exact (below_size (by repeat (with_reducible first|exact HB.out|apply below_alloc|apply pw_below_drewN|apply below_drew1))));(case aL => have:=LMc17.out;omega);intro v188 w195 ho hb hg hat;rw [← Ny187.out] at ho;have n0_:=aM (Kd.R_grown (by (with_reducible repeat (first|apply Kd.R_alloc|apply Kd.R_drewN|apply Kd.R_drew));exact HO183.out) hg (fun _ _ => by simp [Value.ownBlock]));have n1_:=aM (Kd.R_after (Kd.R_apart_nil (by (with_reducible repeat (first|apply Kd.R_alloc|apply Kd.R_drewN|apply Kd.R_drew));exact HO186.out)) hg hat);have n2_:=aM (hb);have n3_:=aM (ho);clear HO183;clear HO186;clear HB;have HO183:=n0_;have HO186:=n1_;have HB:=n2_;have HO189:=n3_;clear n0_ n1_ n2_ n3_;clear ho hb hg hat)|((with_reducible refine gate_builtin (b:=.append) (xs:=#[.tmp 38,.tmp 39]) rfl ?_);(try (refine gate_guard (by rfl) ?_;dsimp only));at_builtin;refine Kd.R_append_rows (Kd.int .u8) (w0:=w) w.heap.size rfl (.tmp 38) (.tmp 39) 24 5 (.int .u8 0) 1 rfl Try.underlying24 info5 rfl (by decide) (by omega) v188 y187 t184 _ _ _ (fun k_ => some k_ ≠ (.slice Ao194 t184.length co194 : Value).ownBlock) (fun _ => False) rfl rfl ?aO ?aR (fun _ _ h => h) (fun _ h => h.elim) ?aF ?aB ?aS ?aL ?_;(case aR => repeat (first|exact (Kd.R_reads' HO186.out).2.2|(with_reducible first|refine Kd.C_alloc ?_ _|refine Kd.C_drewN ?_ _|refine Kd.C_drew ?_)));(case aB => exact (by repeat (with_reducible first|exact HB.out|apply below_alloc|apply pw_below_drewN|apply below_drew1)));(case aF => exact (fun k_ hk => Kd.fresh' (Kd.R_lt (by (with_reducible repeat (first|apply Kd.R_alloc|apply Kd.R_drewN|apply Kd.R_drew));exact HO186.out)) k_ hk));(case aO => exact (by (with_reducible repeat (first|apply Kd.R_alloc|apply Kd.R_drewN|apply Kd.R_drew));exact HO189.out));(case aS => exact (below_size (by repeat (with_reducible first|exact HB.out|apply below_alloc|apply pw_below_drewN|apply below_drew1))));(case aL => have:=LMc18.out;omega);intro v191 w196 ho hb hg hat;rw [← Ny190.out] at ho;have n0_:=aM (Kd.R_over' (by (with_reducible repeat (first|apply Kd.R_alloc|apply Kd.R_drewN|apply Kd.R_drew));exact HO183.out) (Kd.R_typed (by (with_reducible repeat (first|apply Kd.R_alloc|apply Kd.R_drewN|apply Kd.R_drew));exact HO189.out)) (by decide) hg);have n1_:=aM (Kd.R_after (ok:=(fun _ => True)) (by (with_reducible repeat (first|apply Kd.R_alloc|apply Kd.R_drewN|apply Kd.R_drew));exact HO186.out) hg hat);have n2_:=aM (hb);have n3_:=aM (ho);clear HO183;clear HO186;clear HB;clear HO189;have HO183:=n0_;have HO186:=n1_;have HB:=n2_;have HO192:=n3_;clear n0_ n1_ n2_ n3_;clear ho hb hg hat)|((with_reducible refine gate_builtin (b:=.append) (xs:=#[.tmp 41,.tmp 42]) rfl ?_);(try (refine gate_guard (by rfl) ?_;dsimp only));at_builtin;refine Kd.R_append_rows (Kd.int .u8) (w0:=w) w.heap.size rfl (.tmp 41) (.tmp 42) 24 5 (.int .u8 0) 1 rfl Try.underlying24 info5 rfl (by decide) (by omega) v191 y190 l2 _ _ _ (fun k_ => some k_ ≠ (.slice Ao194 t184.length co194 : Value).ownBlock) (fun _ => False) rfl rfl ?aO ?aR (fun _ _ h => h) (fun _ h => h.elim) ?aF ?aB ?aS ?aL ?_;(case aR => repeat (first|exact (Kd.C_below HR2.out HB.out)|(with_reducible first|refine Kd.C_alloc ?_ _|refine Kd.C_drewN ?_ _|refine Kd.C_drew ?_)));(case aB => exact (by repeat (with_reducible first|exact HB.out|apply below_alloc|apply pw_below_drewN|apply below_drew1)));(case aF => exact (fun k_ hk => Kd.fresh' (Kd.R_lt (by (with_reducible repeat (first|apply Kd.R_alloc|apply Kd.R_drewN|apply Kd.R_drew));exact HO186.out)) k_ hk));(case aO => exact (by (with_reducible repeat (first|apply Kd.R_alloc|apply Kd.R_drewN|apply Kd.R_drew));exact HO192.out));(case aS => exact (below_size (by repeat (with_reducible first|exact HB.out|apply below_alloc|apply pw_below_drewN|apply below_drew1))));(case aL => have:=LMc19.out;omega);intro v194 w197 ho hb hg hat;rw [← Ny193.out] at ho;have n0_:=aM (Kd.R_over' (by (with_reducible repeat (first|apply Kd.R_alloc|apply Kd.R_drewN|apply Kd.R_drew));exact HO183.out) (Kd.R_typed (by (with_reducible repeat (first|apply Kd.R_alloc|apply Kd.R_drewN|apply Kd.R_drew));exact HO192.out)) (by decide) hg);have n1_:=aM (Kd.R_after (ok:=(fun _ => True)) (by (with_reducible repeat (first|apply Kd.R_alloc|apply Kd.R_drewN|apply Kd.R_drew));exact HO186.out) hg hat);have n2_:=aM (hb);have n3_:=aM (ho);clear HO183;clear HO186;clear HB;clear HO192;have HO183:=n0_;have HO186:=n1_;have HB:=n2_;have HO195:=n3_;clear n0_ n1_ n2_ n3_;clear ho hb hg hat;obtain ⟨Ao198,co198,eo198⟩:=Kd.R_slice HO195.out;subst eo198)|((with_reducible refine gate_callee (f:=16) rfl ?_);refine goesL_ (some 48) rfl rfl Try.func16 (by kernel_rfl) rfl #[.slice Ao198 y193.length co198,.int .i64 (l1.length : Int)] rfl (by (try simp only [List.map_toArray,List.map_cons,List.map_nil]);first|done|rfl|(simp only [List.length_drop,List.length_take];rfl)) ?_;(with_reducible refine (vint_Get.calls kj4 _ _ y193 (l1.length : Int) t196 t197 t198 _ ?side1 ?side2 A20.out).mono ?_);(case side1 => repeat (first|exact (Kd.R_reads' HO195.out).2.2|(with_reducible first|refine Kd.C_alloc ?_ _|refine Kd.C_drewN ?_ _|refine Kd.C_drew ?_)));(case side2 => exact (Kd.R_reads' HO195.out).2.1);rintro e w' ⟨rfl,⟨nd,rfl⟩⟩;refine ⟨_,rfl,?_⟩;have q199 : ((ji21) : Int) ≤ ((t184.length : Int) : Int):=of_decide_eq_true (by first|(with_reducible assumption)|assumption);obtain ⟨i0199,hi0199,_,hsz199,_⟩:=info_parts info5;have hroom199 : t184.length ≤ co194:=(Kd.R_reads' HO186.out).2.1;have hC199 : Kd.C (Kd.int .u8) _ Ao194 t184.length t184:=(Kd.R_reads' HO186.out).2.2;have hcut199:=cut_to (P:=Try.prog) 24 5 .i64 Try.underlying24 hi0199 Ao194 t184.length co194 (ji21) (of_decide_eq_true (by first|(with_reducible assumption)|assumption)) q199 hroom199;have hr199:=Kd.C_take (m:=((ji21) : Int).toNat) hC199 (by omega);have hy199 : y199.length = ((ji21) : Int).toNat:=(by rw [Ny199.out,List.length_take];omega);rw [← Ny199.out] at hr199;rw [← hy199] at hcut199;have HR202:=aM hr199;have HC202:=aM (show y199.length ≤ co194 from by omega);clear hr199 hC199 hroom199 hi0199 hsz199;have KY199:=aM hy199;clear hy199;have KL199:=aM (show ((ji21) : Int).toNat ≤ t184.length from by omega);replace q199:=eq_true q199)|((with_reducible refine gate_callee (f:=16) rfl ?_);refine goesL_ (some 60) rfl rfl Try.func16 (by kernel_rfl) rfl #[.slice Ao194 y199.length co194,.int .i64 0] rfl (by (try simp only [List.map_toArray,List.map_cons,List.map_nil]);first|done|rfl|(simp only [List.length_drop,List.length_take];rfl)) ?_;(with_reducible refine (vint_Get.calls kj4 _ _ y199 0 t203 t204 t205 _ ?side1 ?side2 A24.out).mono ?_);(case side1 => repeat (first|exact (by repeat (first|(with_reducible exact HR202.out)|(with_reducible first|refine Kd.C_alloc ?_ _|refine Kd.C_drewN ?_ _|refine Kd.C_drew ?_)|exact HR202.out))|(with_reducible first|refine Kd.C_alloc ?_ _|refine Kd.C_drewN ?_ _|refine Kd.C_drew ?_)));(case side2 => exact HC202.out);rintro e w' ⟨rfl,⟨nd,rfl⟩⟩;refine ⟨_,rfl,?_⟩)|((with_reducible refine gate_callee (f:=16) rfl ?_);refine goesL_ (some 66) rfl rfl Try.func16 (by kernel_rfl) rfl #[.slice A2 l2.length c2,.int .i64 0] rfl (by (try simp only [List.map_toArray,List.map_cons,List.map_nil]);first|done|rfl|(simp only [List.length_drop,List.length_take];rfl)) ?_;(with_reducible refine (vint_Get.calls kj4 _ _ l2 0 t206 t207 t208 _ ?side1 ?side2 A25.out).mono ?_);(case side1 => repeat (first|exact (Kd.C_below HR2.out (by repeat (with_reducible first|exact HB.out|apply below_alloc|apply pw_below_drewN|apply below_drew1)))|(with_reducible first|refine Kd.C_alloc ?_ _|refine Kd.C_drewN ?_ _|refine Kd.C_drew ?_)));(case side2 => exact HC2.out);rintro e w' ⟨rfl,⟨nd,rfl⟩⟩;refine ⟨_,rfl,?_⟩))
            (try (rw [drewN_self w197];generalize hq_ : World.drewN w197 _ = w197;have n0_ : Aside0 (Kd.R (Kd.int .u64) 26 w197 w.heap.size (fun _ => True) (.slice Ao192 y181.length co192) y181):=⟨by rw [← hq_];exact (by (with_reducible repeat (first | apply Kd.R_alloc | apply Kd.R_drewN | apply Kd.R_drew));exact HO183.out)⟩;have n1_ : Aside0 (Kd.R (Kd.int .u8) 5 w197 w.heap.size (fun k_ => some k_ ≠ (.slice Ao198 y193.length co198 : Value).ownBlock) (.slice Ao194 t184.length co194) t184):=⟨by rw [← hq_];exact (by (with_reducible repeat (first | apply Kd.R_alloc | apply Kd.R_drewN | apply Kd.R_drew));exact Kd.R_mono HO186.out (fun _ hk => hk.2))⟩;have n2_ : Aside0 (Kd.R (Kd.int .u8) 5 w197 w.heap.size (fun k_ => some k_ ≠ (.slice Ao194 t184.length co194 : Value).ownBlock) (.slice Ao198 y193.length co198) y193):=⟨by rw [← hq_];exact (by (with_reducible repeat (first | apply Kd.R_alloc | apply Kd.R_drewN | apply Kd.R_drew));exact HO195.out)⟩;have n3_ : Aside0 (Below w.heap.size w w197):=⟨by rw [← hq_];exact (by repeat (first | (with_reducible first | exact HB.out | apply below_alloc | apply pw_below_drewN | apply below_drew1) | exact HB.out))⟩;have n4_ : Aside0 (Kd.C (Kd.int .u8) w197 Ao194 y199.length y199):=⟨by rw [← hq_];exact (by repeat (first | (with_reducible exact HR202.out) | (with_reducible refine Kd.C_alloc ?_ _) | (with_reducible refine Kd.C_drewN ?_ _) | (with_reducible refine Kd.C_drew ?_) | exact HR202.out))⟩;clear HO183 HO186 HO195 HB HR202 hq_;have HO183:=n0_;have HO186:=n1_;have HO195:=n2_;have HB:=n3_;have HR202:=n4_;clear n0_ n1_ n2_ n3_ n4_))
            have n0_:=aM (Kd.R_drew HO183.out)
            have n1_:=aM (Kd.R_drew HO186.out)
            have n2_:=aM (Kd.R_drew HO195.out)
            have n3_:=aM (Kd.C_drew HR202.out)
            have n4_:=aM (below_drew1 HB.out)
            clear HO183
            clear HO186
            clear HO195
            clear HR202
            clear HB
            have HO183:=n0_
            have HO186:=n1_
            have HO195:=n2_
            have HR202:=n3_
            have HB:=n4_
            clear n0_ n1_ n2_ n3_ n4_
            refine start_ (n:=12) (S:=fun w' => True) (ds:=[]) #[false,false,false,false,false,false,false,false,false,false,false,false] (by kernel_rfl) rfl rfl trivial (fun hHeld => ?_);refine with_tabW lapidarylaw01_VintOnce.tab13 lapidarylaw01_VintOnce.bits13 (fun HT_ HW_ => ?_)
            generalize w197.drew = w200 at HO183 HO186 HO195 HR202 HB hHeld ⊢
            refine pure_ (i:=0) (N:=some 70) (v:=?_) (a':=?_) #[true,false,false,false,false,false,false,false,false,false,false,false] rfl rfl (any_of HT_.out (by kernel_rfl)) (fun _ _ _ h => h) (Or.inl ⟨by rfl,?_⟩) ?_ ?_
            rotate_left
            ·intro w'
             go_simp
             with_reducible rfl
            rotate_left
            ·simp only [Act.put,sA,sB,sC,i64_w,i32_w]
             rfl
            refine pure_ (i:=1) (N:=some 71) (v:=?_) (a':=?_) #[true,true,false,false,false,false,false,false,false,false,false,false] rfl rfl (any_of HT_.out (by kernel_rfl)) (fun _ _ _ h => h) (Or.inl ⟨by rfl,?_⟩) ?_ ?_
            rotate_left
            ·intro w'
             go_simp
             with_reducible rfl
            rotate_left
            ·simp only [Act.put,sA,sB,sC,i64_w,i32_w]
             rfl
            refine pure_ (i:=2) (N:=some 72) (v:=?_) (a':=?_) #[true,true,true,false,false,false,false,false,false,false,false,false] rfl rfl (any_of HT_.out (by kernel_rfl)) (fun _ _ _ h => h) (Or.inl ⟨by rfl,?_⟩) ?_ ?_
            rotate_left
            ·intro w'
             go_simp
             with_reducible rfl
            rotate_left
            ·simp only [Act.put,sA,sB,sC,i64_w,i32_w]
             rfl
            refine pure_ (i:=3) (N:=some 73) (v:=undef) (a':=?_) #[true,true,true,true,false,false,false,false,false,false,false,false] rfl rfl (any_of HT_.out (by kernel_rfl)) (fun _ _ _ h => h) (Or.inr ⟨by rfl,rfl⟩) ?_ ?_
            rotate_left
            ·simp only [Act.put,sA,sB,sC,i64_w,i32_w]
             rfl
            refine pure_ (i:=4) (N:=some 74) (v:=undef) (a':=?_) #[true,true,true,true,true,false,false,false,false,false,false,false] rfl rfl (any_of HT_.out (by kernel_rfl)) (fun _ _ _ h => h) (Or.inr ⟨by rfl,rfl⟩) ?_ ?_
            rotate_left
            ·simp only [Act.put,sA,sB,sC,i64_w,i32_w]
             rfl
            refine pure_ (i:=5) (N:=some 75) (v:=undef) (a':=?_) #[true,true,true,true,true,true,false,false,false,false,false,false] rfl rfl (any_of HT_.out (by kernel_rfl)) (fun _ _ _ h => h) (Or.inr ⟨by rfl,rfl⟩) ?_ ?_
            rotate_left
            ·simp only [Act.put,sA,sB,sC,i64_w,i32_w]
             rfl
            refine pure_ (i:=6) (N:=some 76) (v:=undef) (a':=?_) #[true,true,true,true,true,true,true,false,false,false,false,false] rfl rfl (any_of HT_.out (by kernel_rfl)) (fun _ _ _ h => h) (Or.inr ⟨by rfl,rfl⟩) ?_ ?_
            rotate_left
            ·simp only [Act.put,sA,sB,sC,i64_w,i32_w]
             rfl
            refine pure_ (i:=7) (N:=some 77) (v:=undef) (a':=?_) #[true,true,true,true,true,true,true,true,false,false,false,false] rfl rfl (any_of HT_.out (by kernel_rfl)) (fun _ _ _ h => h) (Or.inr ⟨by rfl,rfl⟩) ?_ ?_
            rotate_left
            ·simp only [Act.put,sA,sB,sC,i64_w,i32_w]
             rfl
            refine pure_ (i:=8) (N:=some 78) (v:=undef) (a':=?_) #[true,true,true,true,true,true,true,true,true,false,false,false] rfl rfl (any_of HT_.out (by kernel_rfl)) (fun _ _ _ h => h) (Or.inr ⟨by rfl,rfl⟩) ?_ ?_
            rotate_left
            ·simp only [Act.put,sA,sB,sC,i64_w,i32_w]
             rfl
            refine pure_ (i:=9) (N:=some 79) (v:=undef) (a':=?_) #[true,true,true,true,true,true,true,true,true,true,false,false] rfl rfl (any_of HT_.out (by kernel_rfl)) (fun _ _ _ h => h) (Or.inr ⟨by rfl,rfl⟩) ?_ ?_
            rotate_left
            ·simp only [Act.put,sA,sB,sC,i64_w,i32_w]
             rfl
            refine pure_ (i:=10) (N:=some 80) (v:=undef) (a':=?_) #[true,true,true,true,true,true,true,true,true,true,true,false] rfl rfl (any_of HT_.out (by kernel_rfl)) (fun _ _ _ h => h) (Or.inr ⟨by rfl,rfl⟩) ?_ ?_
            rotate_left
            ·simp only [Act.put,sA,sB,sC,i64_w,i32_w]
             rfl
            refine pure_ (i:=11) (N:=some 81) (v:=?_) (a':=?_) #[true,true,true,true,true,true,true,true,true,true,true,true] rfl rfl (any_of HT_.out (by kernel_rfl)) (fun _ _ _ h => h) (Or.inl ⟨by rfl,?_⟩) ?_ ?_
            rotate_left
            ·intro w'
             go_simp
             with_reducible rfl
            rotate_left
            ·simp only [Act.put,sA,sB,sC,i64_w,i32_w]
             rfl
            refine done_ (done_of HT_.out (by kernel_rfl)) ?_
            try go_wp2
            go_ret
            exact ⟨by first | rfl | (simp [errW_none,errW_some]<;>rfl) | (simp only [← hji21];first | rfl | (simp [errW_none,errW_some]<;>rfl)) | (simp [*,errW_none,errW_some]<;>rfl),by repeat (first | (with_reducible first | exact HB.out | apply below_alloc | apply pw_below_drewN | apply below_drew1) | exact HB.out)⟩
         ·rw [if_neg c23] at H
          exact absurd H (by simp)
        ·rw [if_neg c22] at H
         exact absurd H (by simp)
       ·rw [if_neg c19] at H
        exact absurd H (by simp)
      ·rw [if_neg c18] at H
       exact absurd H (by simp)
     ·rw [if_neg c17] at H
      exact absurd H (by simp)

/-- THE ONE PURE STATEMENT of lapidarylaw01_VintOnce: yours. -/
def lapidarylaw01_VintOnce.Pure : Prop := ∀ (a0 : Int) (l1 : List Int) (l2 : List Int) (a3 : Int), (Lit.int .u64 a0).wf = true → l1.length ≤ maxLen → l1.length * 1 ≤ 140737488351232 → (∀ x ∈ l1, (Lit.int .u8 x).wf = true) → l2.length ≤ maxLen → l2.length * 1 ≤ 140737488351232 → (∀ x ∈ l2, (Lit.int .u8 x).wf = true) → (Lit.int .u8 a3).wf = true → ∃ k, lapidarylaw01_VintOnce.f k a0 l1 l2 a3 = some true
theorem lapidarylaw01_VintOnce.walk (P : lapidarylaw01_VintOnce.Pure) (a0 : Int) (a1 : Option Addr) (len1 cap1 : Nat) (z1 : List Int) (a2 : Option Addr) (len2 cap2 : Nat) (z2 : List Int) (a3 : Int) (w : World) (w0 : (Lit.int .u64 a0).wf = true) (w1 : (a1 = none ∧ len1 = 0 ∧ cap1 = 0 ∧ z1 = []) ∨ ∃ x, a1 = some x ∧ len1 ≤ cap1 ∧ cap1 ≤ maxLen ∧ z1.length = cap1 ∧ (∀ i, i < z1.length → w.cell? (x.add i) = some (.int .u8 (z1.getD i 0))) ∧ ∀ n ∈ z1, (Lit.int .u8 n).wf = true) (y1 : len1 * 1 ≤ 140737488351232) (w2 : (a2 = none ∧ len2 = 0 ∧ cap2 = 0 ∧ z2 = []) ∨ ∃ x, a2 = some x ∧ len2 ≤ cap2 ∧ cap2 ≤ maxLen ∧ z2.length = cap2 ∧ (∀ i, i < z2.length → w.cell? (x.add i) = some (.int .u8 (z2.getD i 0))) ∧ ∀ n ∈ z2, (Lit.int .u8 n).wf = true) (y2 : len2 * 1 ≤ 140737488351232) (w3 : (Lit.int .u8 a3).wf = true) :
    Calls Try.prog 6 #[.int .u64 a0, .slice a1 len1 cap1, .slice a2 len2 cap2, .int .u8 a3] w fun e w' => e = .returned (.bool true) ∧ Below w.heap.size w w' := by
  obtain ⟨l1, rfl, hr1, hm1, hw1, hc1⟩ := ReadsInt.ofRowC w1
  obtain ⟨l2, rfl, hr2, hm2, hw2, hc2⟩ := ReadsInt.ofRowC w2
  obtain ⟨k, h⟩ := P a0 l1 l2 a3 w0 hm1 y1 hw1 hm2 y2 hw2 w3
  refine (lapidarylaw01_VintOnce.calls k a0 _ _ l1 _ _ l2 a3 true w (Kd.C_of_reads (d := (0 : Int)) (h1 := fun _ => rfl) hr1) hc1 (Kd.C_of_reads (d := (0 : Int)) (h1 := fun _ => rfl) hr2) hc2 h).mono ?_
  rintro e w' ⟨rfl, hd⟩
  exact ⟨rfl, hd⟩

end Go.Proofs.Ytgphhcakkoaipaa.PVint
