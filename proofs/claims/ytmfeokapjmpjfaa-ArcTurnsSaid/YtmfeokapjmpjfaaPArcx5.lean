-- Written for this claim by a program of this session.
import Derived.WalkMore
import Derived.Test.YtmfeokapjmpjfaaPArcx0
import Derived.Test.YtmfeokapjmpjfaaPArcx1
namespace Go.Proofs.Ytmfeokapjmpjfaa.PArc
open Go.RowKit Go.Proofs.YtmfeokapjmpjfaaW.PrintWords Go.Proofs.YtmfeokapjmpjfaaW.PrintLast Go.Proofs.YtmfeokapjmpjfaaW.PrintMore
attribute [local go_sem] max2_int min2_int max_two min_two max_three min_three max_four min_four   -- for this text's walks alone
set_option linter.unusedVariables false
set_option linter.unusedSimpArgs false

attribute [local go_sem high] eqA48
theorem noGoto_body {P : Program} {fn : Func} {R : Ending → World → Prop} : Exit.noGoto (bodyPost P fn R) = bodyPost P fn R := by
  funext e a w
  cases e <;> rfl
theorem scope_body {P : Program} {fn : Func} {R : Ending → World → Prop} {c : Code} {a : Act} {w : World} (h : c.wp P (bodyPost P fn R) a w) : (Code.scope c).wp P (bodyPost P fn R) a w :=
  wp_scope_straight (by rw [noGoto_body]; exact h)

/-! ### vint_Get: function 34 -/
mutual
def vint_Get.j0 : Nat → List Int → Int → Bool → Option (Int × Int × Int)
  | 0, _, _, _ => none
  | k + 1, x0, x1, x18 => if x18 = true then (some (0, 0, 2)) else (if 0 ≤ x1 then (if x1 ≤ (x0.length : Int) then (vint_Get.l0 k x1 0 (-1) (x0.drop (x1 : Int).toNat) ((x0.drop (x1 : Int).toNat).length : Int) 0) else (none)) else (none))
def vint_Get.l0 : Nat → Int → Int → Int → List Int → Int → Int → Option (Int × Int × Int)
  | 0, _, _, _, _, _, _ => none
  | k + 1, x1, x7, x8, x21, x22, x23 => if x23 < x22 then (if 0 ≤ x23 then (if x23 < (x21.length : Int) then (if x23 > 9 then (vint_Get.j2 k x1 x7 x8 x23 (rd x21 x23) x21 x22 x23 true) else (if x23 = 9 then (vint_Get.j2 k x1 x7 x8 x23 (rd x21 x23) x21 x22 x23 (decide ((rd x21 x23) > 1))) else (vint_Get.j2 k x1 x7 x8 x23 (rd x21 x23) x21 x22 x23 false))) else (none)) else (none)) else (if x8 < 0 then (some (0, 0, 10)) else (some (x7, x8, 0)))
def vint_Get.j2 : Nat → Int → Int → Int → Int → Int → List Int → Int → Int → Bool → Option (Int × Int × Int)
  | 0, _, _, _, _, _, _, _, _, _ => none
  | k + 1, x1, x7, x8, x9, x10, x21, x22, x23, x28 => if x28 = true then (some (0, 0, 11)) else (if x10 < 128 then (if 0 ≤ (wrap64 (7 * x9)) then (if x10 = 0 then (if x9 > 0 then (some (0, 0, 11)) else (if (wrap64 ((wrap64 (x1 + x9)) + 1)) < 0 then (some (0, 0, 10)) else (some (Go.bits .or .u64 x7 (shl .u64 (IntKind.u64.wrap (x10)) (wrap64 (7 * x9))), wrap64 ((wrap64 (x1 + x9)) + 1), 0)))) else (if (wrap64 ((wrap64 (x1 + x9)) + 1)) < 0 then (some (0, 0, 10)) else (some (Go.bits .or .u64 x7 (shl .u64 (IntKind.u64.wrap (x10)) (wrap64 (7 * x9))), wrap64 ((wrap64 (x1 + x9)) + 1), 0)))) else (none)) else (if 0 ≤ (wrap64 (7 * x9)) then (vint_Get.l0 k x1 (Go.bits .or .u64 x7 (shl .u64 (IntKind.u64.wrap (Go.bits .and .u8 x10 127)) (wrap64 (7 * x9)))) x8 x21 x22 (wrap64 (x23 + 1))) else (none)))
end
def vint_Get.f (k : Nat) (l0 : List Int) (a1 : Int) : Option (Int × Int × Int) := if a1 < 0 then (vint_Get.j0 k l0 a1 true) else (vint_Get.j0 k l0 a1 (decide (a1 > (l0.length : Int))))
theorem vint_Get.mono_l : ∀ k, (∀ y0 y1 y2, LeO (vint_Get.j0 k y0 y1 y2) (vint_Get.j0 (k + 1) y0 y1 y2)) ∧ (∀ y0 y1 y2 y3 y4 y5, LeO (vint_Get.l0 k y0 y1 y2 y3 y4 y5) (vint_Get.l0 (k + 1) y0 y1 y2 y3 y4 y5)) ∧ (∀ y0 y1 y2 y3 y4 y5 y6 y7 y8, LeO (vint_Get.j2 k y0 y1 y2 y3 y4 y5 y6 y7 y8) (vint_Get.j2 (k + 1) y0 y1 y2 y3 y4 y5 y6 y7 y8))
  | 0 => ⟨fun _ _ _ r h => by simp [vint_Get.j0] at h, fun _ _ _ _ _ _ r h => by simp [vint_Get.l0] at h, fun _ _ _ _ _ _ _ _ _ r h => by simp [vint_Get.j2] at h⟩
  | k + 1 => by
    obtain ⟨ih0, ih1, ih2⟩ := vint_Get.mono_l k
    refine ⟨?_, ?_, ?_⟩
    · intro y0 y1 y2
      unfold vint_Get.j0
      repeat' first
      | (with_reducible exact ih0 _ _ _)
      | (with_reducible exact ih1 _ _ _ _ _ _)
      | (with_reducible exact ih2 _ _ _ _ _ _ _ _ _)
      | (with_reducible exact LeO.refl _)
      | (with_reducible exact LeO.none _)
      | (with_reducible refine LeO.ite ?_ ?_)
      | (with_reducible refine LeO.bind ?_ (fun _ => ?_))
      | exact ih0 _ _ _
      | exact ih1 _ _ _ _ _ _
      | exact ih2 _ _ _ _ _ _ _ _ _
      | exact LeO.none _
      | refine LeO.ite ?_ ?_
      | refine LeO.bind ?_ (fun _ => ?_)
    · intro y0 y1 y2 y3 y4 y5
      unfold vint_Get.l0
      repeat' first
      | (with_reducible exact ih0 _ _ _)
      | (with_reducible exact ih1 _ _ _ _ _ _)
      | (with_reducible exact ih2 _ _ _ _ _ _ _ _ _)
      | (with_reducible exact LeO.refl _)
      | (with_reducible exact LeO.none _)
      | (with_reducible refine LeO.ite ?_ ?_)
      | (with_reducible refine LeO.bind ?_ (fun _ => ?_))
      | exact ih0 _ _ _
      | exact ih1 _ _ _ _ _ _
      | exact ih2 _ _ _ _ _ _ _ _ _
      | exact LeO.none _
      | refine LeO.ite ?_ ?_
      | refine LeO.bind ?_ (fun _ => ?_)
    · intro y0 y1 y2 y3 y4 y5 y6 y7 y8
      unfold vint_Get.j2
      repeat' first
      | (with_reducible exact ih0 _ _ _)
      | (with_reducible exact ih1 _ _ _ _ _ _)
      | (with_reducible exact ih2 _ _ _ _ _ _ _ _ _)
      | (with_reducible exact LeO.refl _)
      | (with_reducible exact LeO.none _)
      | (with_reducible refine LeO.ite ?_ ?_)
      | (with_reducible refine LeO.bind ?_ (fun _ => ?_))
      | exact ih0 _ _ _
      | exact ih1 _ _ _ _ _ _
      | exact ih2 _ _ _ _ _ _ _ _ _
      | exact LeO.none _
      | refine LeO.ite ?_ ?_
      | refine LeO.bind ?_ (fun _ => ?_)
theorem vint_Get.mono : ∀ a0 a1 k, LeO (vint_Get.f k a0 a1) (vint_Get.f (k + 1) a0 a1) := by
  intro a0 a1 k
  obtain ⟨ih0, ih1, ih2⟩ := vint_Get.mono_l k
  unfold vint_Get.f
  repeat' first
      | (with_reducible exact ih0 _ _ _)
      | (with_reducible exact ih1 _ _ _ _ _ _)
      | (with_reducible exact ih2 _ _ _ _ _ _ _ _ _)
      | (with_reducible exact LeO.refl _)
      | (with_reducible exact LeO.none _)
      | (with_reducible refine LeO.ite ?_ ?_)
      | (with_reducible refine LeO.bind ?_ (fun _ => ?_))
      | exact ih0 _ _ _
      | exact ih1 _ _ _ _ _ _
      | exact ih2 _ _ _ _ _ _ _ _ _
      | exact LeO.none _
      | refine LeO.ite ?_ ?_
      | refine LeO.bind ?_ (fun _ => ?_)
set_option maxHeartbeats 8000000 in
set_option maxRecDepth 100000 in
theorem vint_Get.calls (k : Nat) (A0 : Option Addr) (c0 : Nat) (l0 : List Int) (a1 : Int) (r1 : Int) (r2 : Int) (r3 : Int) (w : World) (hr0 : Kd.C (Kd.int .u8) w A0 l0.length l0) (hc0 : l0.length ≤ c0) (h : vint_Get.f k l0 a1 = some (r1, r2, r3)) :
    Calls Try.prog 34 #[.slice A0 l0.length c0, .int .i64 a1] w fun e w' => e = .returned (.tuple #[.int .u64 r1, .int .i64 r2, .int .i64 r3]) ∧ Drawn0 w w' := by
  have HR0 := Aside0.mk hr0
  have HC0 := Aside0.mk hc0
  clear hr0 hc0
  have H : (if a1 < 0 then (vint_Get.j0 k l0 a1 true) else (vint_Get.j0 k l0 a1 (decide (a1 > (l0.length : Int))))) = some (r1, r2, r3) := h
  clear h
  have HC3 := Aside0.mk H
  clear H
  go_enter Try.func34, Try.ntmps34
  go_wp2
  apply scope_body
  (go_upto_region 1 with (fail)); all_goals (try (go_step3; (go_upto_region 1 with (fail))))
  go_cut [18] (fun v18 wc => ∃ (kq : Nat) (x18_2 : Bool), v18 = .bool x18_2 ∧ Aside0 (vint_Get.j0 kq l0 a1 x18_2 = some (r1, r2, r3)) ∧ Aside0 (kq ≤ k) ∧ Drawn0 w wc)
  case first =>
    have H := HC3.out
    clear HC3
    by_cases c4 : a1 < 0
    · rw [if_pos c4] at H
      have c4b0 : decide (a1 < 0) = true := decide_eq_true c4
      clear c4
      (first | rw [c4b0] | (simp only [i64_w, i32_w]; rw [c4b0]) | skip)
      have H' := Aside0.mk H
      clear H
      (go_wp2; all_goals (repeat (go_step3; go_wp2)))
      go_meet
      case rel => exact ⟨_, (true), (by first | rfl | (simp; done) | (simp [*]; done)), H', ⟨by first | omega | exact Nat.le_refl _⟩, by repeat (first | exact Drawn0.refl _ | apply Drawn0.step)⟩
    · rw [if_neg c4] at H
      have c4b0 : decide (a1 < 0) = false := decide_eq_false c4
      clear c4
      (first | rw [c4b0] | (simp only [i64_w, i32_w]; rw [c4b0]) | skip)
      have H' := Aside0.mk H
      clear H
      (go_wp2; all_goals (repeat (go_step3; go_wp2)))
      go_meet
      case rel => exact ⟨_, (decide (a1 > (l0.length : Int))), (by first | rfl | (simp; done) | (simp [*]; done)), H', ⟨by first | omega | exact Nat.le_refl _⟩, by repeat (first | exact Drawn0.refl _ | apply Drawn0.step)⟩
  case rest =>
    clear HC3
    try clear p2
    try clear c3
    try clear c4
    try clear c4b0
    obtain ⟨kq, x18_2, rfl, HA, HJ2, ⟨mc2, rfl⟩⟩ := hcut
    cases kq with
    | zero => exact absurd HA.out (by simp [vint_Get.j0])
    | succ kj2 =>
      have H := HA.out
      clear HA
      simp only [vint_Get.j0] at H
      by_cases c5 : x18_2 = true
      · subst c5
        have H1 : (some (0, 0, 2)) = some (r1, r2, r3) := by rw [if_pos rfl] at H; exact H
        clear H
        have H := H1
        clear H1
        simp only [Option.some.injEq, Prod.mk.injEq] at H
        obtain ⟨rfl, rfl, rfl⟩ := H
        (go_wp2; all_goals (repeat (go_step3; go_wp2)))
        go_ret3
        exact ⟨by first | rfl | (simp; done) | (simp [*]; done), by repeat (first | exact Drawn0.refl _ | apply Drawn0.step)⟩
      · replace c5 := Bool.eq_false_iff.mpr c5
        subst c5
        have H1 : (if 0 ≤ a1 then (if a1 ≤ (l0.length : Int) then (vint_Get.l0 kj2 a1 0 (-1) (l0.drop (a1 : Int).toNat) ((l0.drop (a1 : Int).toNat).length : Int) 0) else (none)) else (none)) = some (r1, r2, r3) := by rw [if_neg (show ¬ (false = true) by decide)] at H; exact H
        clear H
        have H := H1
        clear H1
        by_cases c6 : 0 ≤ a1
        · rw [if_pos c6] at H
          have c6b0 := eq_true c6
          have c6b1 : decide (0 ≤ a1) = true := decide_eq_true c6
          clear c6
          by_cases c7 : a1 ≤ (l0.length : Int)
          · rw [if_pos c7] at H
            have c7b0 := eq_true c7
            have c7b1 : decide (a1 ≤ (l0.length : Int)) = true := decide_eq_true c7
            clear c7
            have H' := Aside0.mk H
            clear H
            obtain ⟨i08, hi08, _, hsz8, _⟩ := info_parts info5
            obtain ⟨A8, hcut8, hA8, hC8⟩ := print_drop_of (P := Try.prog) (Value.int .u8) 0 23 5 .i64 Try.underlying23 hi08 hsz8 A0 c0 l0 a1 (of_decide_eq_true (by first | (with_reducible assumption) | assumption)) (of_decide_eq_true (by first | (with_reducible assumption) | assumption)) HC0.out
            have HR155 := Aside0.mk (Kd.C_of_reads (h1 := fun _ => rfl) (hA8 _ (Kd.reads_of_C HR0.out)))
            have HC155 := Aside0.mk hC8
            clear hA8 hC8 hi08 hsz8
            (go_wp2; all_goals (repeat (go_step3; go_wp2)))
            go_loopg [7, 8, 23] kj2 (fun kq v7 v8 v23 w' => ∃ (x7_2 : Int) (x8_2 : Int) (x23_2 : Int), v7 = .int .u64 x7_2 ∧ v8 = .int .i64 x8_2 ∧ v23 = .int .i64 x23_2 ∧ Aside0 (vint_Get.l0 kq a1 x7_2 x8_2 (l0.drop (a1 : Int).toNat) ((l0.drop (a1 : Int).toNat).length : Int) x23_2 = some (r1, r2, r3)) ∧ Aside0 (kq ≤ kj2) ∧ Drawn0 w w')
            case atStart => exact ⟨(0), ((-1)), (0), (by first | rfl | (simp; done) | (simp [*]; done)), (by first | rfl | (simp; done) | (simp [*]; done)), (by first | rfl | (simp; done) | (simp [*]; done)), H', ⟨Nat.le_refl _⟩, by repeat (first | exact Drawn0.refl _ | apply Drawn0.step)⟩
            case round =>
              clear H'
              try clear c2
              try clear p2
              try clear c3
              try clear c4
              try clear c4b0
              try clear c5
              try clear c6
              try clear c6b0
              try clear c6b1
              try clear c7
              try clear c7b0
              try clear c7b1
              try clear p2
              obtain ⟨x7_2, x8_2, x23_2, rfl, rfl, rfl, HA, HK2, ⟨m2, rfl⟩⟩ := hrel
              cases gk with
              | zero => exact absurd HA.out (by simp [vint_Get.l0])
              | succ k2 =>
                have H := HA.out
                clear HA
                simp only [vint_Get.l0] at H
                by_cases c9 : x23_2 < ((l0.drop (a1 : Int).toNat).length : Int)
                · rw [if_pos c9] at H
                  have c9b0 : decide (x23_2 < ((l0.drop (a1 : Int).toNat).length : Int)) = true := decide_eq_true c9
                  have c9b0s := c9b0
                  try rw [List.length_drop] at c9b0s
                  clear c9
                  by_cases c10 : 0 ≤ x23_2
                  · rw [if_pos c10] at H
                    have c10b0 : decide (0 ≤ x23_2) = true := decide_eq_true c10
                    clear c10
                    by_cases c11 : x23_2 < ((l0.drop (a1 : Int).toNat).length : Int)
                    · rw [if_pos c11] at H
                      have c11b0 : decide (x23_2 < ((l0.drop (a1 : Int).toNat).length : Int)) = true := decide_eq_true c11
                      have c11b0s := c11b0
                      try rw [List.length_drop] at c11b0s
                      clear c11
                      have HC12 := Aside0.mk H
                      clear H
                      have p156 : 0 ≤ (x23_2 : Int) := of_decide_eq_true (by first | (with_reducible assumption) | assumption)
                      have q156 : x23_2 < ((l0.drop (a1 : Int).toNat).length : Int) := of_decide_eq_true (by first | (with_reducible assumption) | assumption)
                      obtain ⟨ad156, e156, hx156_0⟩ := Kd.at_int HR155.out x23_2 p156 q156
                      cases e156
                      replace p156 := eq_true p156
                      replace q156 := eq_true q156
                      have q156s := q156
                      try rw [List.length_drop] at q156s
                      (go_upto_region 8 with (fail)); all_goals (try (go_step3; (go_upto_region 8 with (fail))))
                      go_cut [28] (fun v28 wc => ∃ (kq : Nat) (x28_11 : Bool), v28 = .bool x28_11 ∧ Aside0 (vint_Get.j2 kq a1 x7_2 x8_2 x23_2 (rd (l0.drop (a1 : Int).toNat) x23_2) (l0.drop (a1 : Int).toNat) ((l0.drop (a1 : Int).toNat).length : Int) x23_2 x28_11 = some (r1, r2, r3)) ∧ Aside0 (kq ≤ k2) ∧ Drawn0 w wc)
                      case first =>
                        have H := HC12.out
                        clear HC12
                        by_cases c13 : x23_2 > 9
                        · rw [if_pos c13] at H
                          have c13b0 : decide (9 < x23_2) = true := decide_eq_true c13
                          clear c13
                          (first | rw [c13b0] | (simp only [i64_w, i32_w]; rw [c13b0]) | skip)
                          have H' := Aside0.mk H
                          clear H
                          (go_wp2; all_goals (repeat (go_step3; go_wp2)))
                          go_meet
                          case rel => exact ⟨_, (true), (by first | rfl | (simp; done) | (simp [*]; done)), H', ⟨by have := HJ2.out; have := HK2.out; first | omega | exact Nat.le_refl _⟩, by repeat (first | exact Drawn0.refl _ | apply Drawn0.step)⟩
                        · rw [if_neg c13] at H
                          have c13b0 : decide (9 < x23_2) = false := decide_eq_false c13
                          clear c13
                          (first | rw [c13b0] | (simp only [i64_w, i32_w]; rw [c13b0]) | skip)
                          by_cases c14 : x23_2 = 9
                          · rw [if_pos c14] at H
                            have c14b0 : (x23_2 == 9) = true := beq_iff_eq.mpr c14
                            have c14b1 : (x23_2 != 9) = false := bne_eq_false_iff_eq.mpr c14
                            clear c14
                            have H' := Aside0.mk H
                            clear H
                            (go_wp2; all_goals (repeat (go_step3; go_wp2)))
                            go_meet
                            case rel => exact ⟨_, (decide ((rd (l0.drop (a1 : Int).toNat) x23_2) > 1)), (by first | rfl | (simp; done) | (simp [*]; done)), H', ⟨by have := HJ2.out; have := HK2.out; first | omega | exact Nat.le_refl _⟩, by repeat (first | exact Drawn0.refl _ | apply Drawn0.step)⟩
                          · rw [if_neg c14] at H
                            have c14b0 : (x23_2 == 9) = false := beq_eq_false_iff_ne.mpr c14
                            have c14b1 : (x23_2 != 9) = true := bne_iff_ne.mpr c14
                            have H' := Aside0.mk H
                            clear H
                            (go_wp2; all_goals (repeat (go_step3; go_wp2)))
                            go_meet
                            case rel => exact ⟨_, (false), (by first | rfl | (simp; done) | (simp [*]; done)), H', ⟨by have := HJ2.out; have := HK2.out; first | omega | exact Nat.le_refl _⟩, by repeat (first | exact Drawn0.refl _ | apply Drawn0.step)⟩
                      case rest =>
                        clear HC12
                        try clear c1
                        try clear p1
                        try clear q1
                        try clear hx1
                        try clear c2
                        try clear p2
                        try clear c3
                        try clear c4
                        try clear c4b0
                        try clear c5
                        try clear c6
                        try clear c6b0
                        try clear c6b1
                        try clear c7
                        try clear c7b0
                        try clear c7b1
                        try clear c9
                        try clear c9b0
                        try clear c10
                        try clear c10b0
                        try clear c11
                        try clear c11b0
                        try clear c13
                        try clear c13b0
                        try clear c14
                        try clear c14b0
                        try clear c14b1
                        try clear hx156_0
                        try clear p156
                        try clear p2
                        try clear q156
                        obtain ⟨kq, x28_11, rfl, HA, HJ11, ⟨mc11, rfl⟩⟩ := hcut
                        cases kq with
                        | zero => exact absurd HA.out (by simp [vint_Get.j2])
                        | succ kj11 =>
                          have H := HA.out
                          clear HA
                          simp only [vint_Get.j2] at H
                          by_cases c15 : x28_11 = true
                          · subst c15
                            have H1 : (some (0, 0, 11)) = some (r1, r2, r3) := by rw [if_pos rfl] at H; exact H
                            clear H
                            have H := H1
                            clear H1
                            simp only [Option.some.injEq, Prod.mk.injEq] at H
                            obtain ⟨rfl, rfl, rfl⟩ := H
                            (go_wp2; all_goals (repeat (go_step3; go_wp2)))
                            go_ret3
                            exact ⟨by first | rfl | (simp; done) | (simp [*]; done), by repeat (first | exact Drawn0.refl _ | apply Drawn0.step)⟩
                          · replace c15 := Bool.eq_false_iff.mpr c15
                            subst c15
                            have H1 : (if (rd (l0.drop (a1 : Int).toNat) x23_2) < 128 then (if 0 ≤ (wrap64 (7 * x23_2)) then (if (rd (l0.drop (a1 : Int).toNat) x23_2) = 0 then (if x23_2 > 0 then (some (0, 0, 11)) else (if (wrap64 ((wrap64 (a1 + x23_2)) + 1)) < 0 then (some (0, 0, 10)) else (some (Go.bits .or .u64 x7_2 (shl .u64 (IntKind.u64.wrap ((rd (l0.drop (a1 : Int).toNat) x23_2))) (wrap64 (7 * x23_2))), wrap64 ((wrap64 (a1 + x23_2)) + 1), 0)))) else (if (wrap64 ((wrap64 (a1 + x23_2)) + 1)) < 0 then (some (0, 0, 10)) else (some (Go.bits .or .u64 x7_2 (shl .u64 (IntKind.u64.wrap ((rd (l0.drop (a1 : Int).toNat) x23_2))) (wrap64 (7 * x23_2))), wrap64 ((wrap64 (a1 + x23_2)) + 1), 0)))) else (none)) else (if 0 ≤ (wrap64 (7 * x23_2)) then (vint_Get.l0 kj11 a1 (Go.bits .or .u64 x7_2 (shl .u64 (IntKind.u64.wrap (Go.bits .and .u8 (rd (l0.drop (a1 : Int).toNat) x23_2) 127)) (wrap64 (7 * x23_2)))) x8_2 (l0.drop (a1 : Int).toNat) ((l0.drop (a1 : Int).toNat).length : Int) (wrap64 (x23_2 + 1))) else (none))) = some (r1, r2, r3) := by rw [if_neg (show ¬ (false = true) by decide)] at H; exact H
                            clear H
                            have H := H1
                            clear H1
                            by_cases c16 : (rd (l0.drop (a1 : Int).toNat) x23_2) < 128
                            · rw [if_pos c16] at H
                              have c16b0 : decide ((rd (l0.drop (a1 : Int).toNat) x23_2) < 128) = true := decide_eq_true c16
                              clear c16
                              obtain ⟨ji17, hji17⟩ : ∃ j_ : Int, (wrap64 (7 * x23_2)) = j_ := ⟨_, rfl⟩
                              replace H : (if 0 ≤ (ji17) then (if (rd (l0.drop (a1 : Int).toNat) x23_2) = 0 then (if x23_2 > 0 then (some (0, 0, 11)) else (if (wrap64 ((wrap64 (a1 + x23_2)) + 1)) < 0 then (some (0, 0, 10)) else (some (Go.bits .or .u64 x7_2 (shl .u64 (IntKind.u64.wrap ((rd (l0.drop (a1 : Int).toNat) x23_2))) (ji17)), wrap64 ((wrap64 (a1 + x23_2)) + 1), 0)))) else (if (wrap64 ((wrap64 (a1 + x23_2)) + 1)) < 0 then (some (0, 0, 10)) else (some (Go.bits .or .u64 x7_2 (shl .u64 (IntKind.u64.wrap ((rd (l0.drop (a1 : Int).toNat) x23_2))) (ji17)), wrap64 ((wrap64 (a1 + x23_2)) + 1), 0)))) else (none)) = some (r1, r2, r3) := by first | (rw [hji17] at H; exact H) | (simp only [hji17] at H ⊢; exact H)
                              have hji17w : (IntKind.i64.wrap (7 * x23_2)) = ji17 := (i64_w _).trans hji17
                              by_cases c18 : 0 ≤ (ji17)
                              · rw [if_pos c18] at H
                                have c18b0 := eq_true c18
                                have c18b1 : decide (0 ≤ (ji17)) = true := decide_eq_true c18
                                clear c18
                                obtain ⟨ji19, hji19⟩ : ∃ j_ : Int, (shl .u64 (IntKind.u64.wrap ((rd (l0.drop (a1 : Int).toNat) x23_2))) (ji17)) = j_ := ⟨_, rfl⟩
                                replace H : (if (rd (l0.drop (a1 : Int).toNat) x23_2) = 0 then (if x23_2 > 0 then (some (0, 0, 11)) else (if (wrap64 ((wrap64 (a1 + x23_2)) + 1)) < 0 then (some (0, 0, 10)) else (some (Go.bits .or .u64 x7_2 (ji19), wrap64 ((wrap64 (a1 + x23_2)) + 1), 0)))) else (if (wrap64 ((wrap64 (a1 + x23_2)) + 1)) < 0 then (some (0, 0, 10)) else (some (Go.bits .or .u64 x7_2 (ji19), wrap64 ((wrap64 (a1 + x23_2)) + 1), 0)))) = some (r1, r2, r3) := by first | (rw [hji19] at H; exact H) | (simp only [hji19] at H ⊢; exact H)
                                have hji19_ : (IntKind.u64.wrap ((IntKind.u64.wrap ((rd (l0.drop (a1 : Int).toNat) x23_2))) * 2 ^ min (ji17).toNat 64)) = ji19 := hji19
                                have hji19z : (ji17) ≤ 64 → (IntKind.u64.wrap ((IntKind.u64.wrap ((rd (l0.drop (a1 : Int).toNat) x23_2))) * 2 ^ (ji17).toNat)) = ji19 := shl_small hji19
                                by_cases c20 : (rd (l0.drop (a1 : Int).toNat) x23_2) = 0
                                · rw [if_pos c20] at H
                                  have c20b0 : ((rd (l0.drop (a1 : Int).toNat) x23_2) == 0) = true := beq_iff_eq.mpr c20
                                  have c20b1 : ((rd (l0.drop (a1 : Int).toNat) x23_2) != 0) = false := bne_eq_false_iff_eq.mpr c20
                                  clear c20
                                  by_cases c21 : x23_2 > 0
                                  · rw [if_pos c21] at H
                                    have c21b0 : decide (0 < x23_2) = true := decide_eq_true c21
                                    clear c21
                                    simp only [Option.some.injEq, Prod.mk.injEq] at H
                                    obtain ⟨rfl, rfl, rfl⟩ := H
                                    (go_wp2; all_goals (repeat (go_step3; go_wp2)))
                                    go_ret3
                                    exact ⟨by first | rfl | (simp; done) | (simp only [← hji17, ← hji19] <;> (first | rfl | simp)) | (simp [*]; done), by repeat (first | exact Drawn0.refl _ | apply Drawn0.step)⟩
                                  · rw [if_neg c21] at H
                                    have c21b0 : decide (0 < x23_2) = false := decide_eq_false c21
                                    clear c21
                                    by_cases c22 : (wrap64 ((wrap64 (a1 + x23_2)) + 1)) < 0
                                    · rw [if_pos c22] at H
                                      have c22b0 : decide ((wrap64 ((wrap64 (a1 + x23_2)) + 1)) < 0) = true := decide_eq_true c22
                                      clear c22
                                      simp only [Option.some.injEq, Prod.mk.injEq] at H
                                      obtain ⟨rfl, rfl, rfl⟩ := H
                                      (go_wp2; all_goals (repeat (go_step3; go_wp2)))
                                      go_ret3
                                      exact ⟨by first | rfl | (simp; done) | (simp only [← hji17, ← hji19] <;> (first | rfl | simp)) | (simp [*]; done), by repeat (first | exact Drawn0.refl _ | apply Drawn0.step)⟩
                                    · rw [if_neg c22] at H
                                      have c22b0 : decide ((wrap64 ((wrap64 (a1 + x23_2)) + 1)) < 0) = false := decide_eq_false c22
                                      clear c22
                                      simp only [Option.some.injEq, Prod.mk.injEq] at H
                                      obtain ⟨rfl, rfl, rfl⟩ := H
                                      (go_wp2; all_goals (repeat (go_step3; go_wp2)))
                                      go_ret3
                                      exact ⟨by first | rfl | (simp; done) | (simp only [← hji17, ← hji19] <;> (first | rfl | simp)) | (simp [*]; done), by repeat (first | exact Drawn0.refl _ | apply Drawn0.step)⟩
                                · rw [if_neg c20] at H
                                  have c20b0 : ((rd (l0.drop (a1 : Int).toNat) x23_2) == 0) = false := beq_eq_false_iff_ne.mpr c20
                                  have c20b1 : ((rd (l0.drop (a1 : Int).toNat) x23_2) != 0) = true := bne_iff_ne.mpr c20
                                  by_cases c23 : (wrap64 ((wrap64 (a1 + x23_2)) + 1)) < 0
                                  · rw [if_pos c23] at H
                                    have c23b0 : decide ((wrap64 ((wrap64 (a1 + x23_2)) + 1)) < 0) = true := decide_eq_true c23
                                    clear c23
                                    simp only [Option.some.injEq, Prod.mk.injEq] at H
                                    obtain ⟨rfl, rfl, rfl⟩ := H
                                    (go_wp2; all_goals (repeat (go_step3; go_wp2)))
                                    go_ret3
                                    exact ⟨by first | rfl | (simp; done) | (simp only [← hji17, ← hji19] <;> (first | rfl | simp)) | (simp [*]; done), by repeat (first | exact Drawn0.refl _ | apply Drawn0.step)⟩
                                  · rw [if_neg c23] at H
                                    have c23b0 : decide ((wrap64 ((wrap64 (a1 + x23_2)) + 1)) < 0) = false := decide_eq_false c23
                                    clear c23
                                    simp only [Option.some.injEq, Prod.mk.injEq] at H
                                    obtain ⟨rfl, rfl, rfl⟩ := H
                                    (go_wp2; all_goals (repeat (go_step3; go_wp2)))
                                    go_ret3
                                    exact ⟨by first | rfl | (simp; done) | (simp only [← hji17, ← hji19] <;> (first | rfl | simp)) | (simp [*]; done), by repeat (first | exact Drawn0.refl _ | apply Drawn0.step)⟩
                              · rw [if_neg c18] at H
                                exact absurd H (by simp)
                            · rw [if_neg c16] at H
                              have c16b0 : decide ((rd (l0.drop (a1 : Int).toNat) x23_2) < 128) = false := decide_eq_false c16
                              clear c16
                              obtain ⟨ji24, hji24⟩ : ∃ j_ : Int, (wrap64 (7 * x23_2)) = j_ := ⟨_, rfl⟩
                              replace H : (if 0 ≤ (ji24) then (vint_Get.l0 kj11 a1 (Go.bits .or .u64 x7_2 (shl .u64 (IntKind.u64.wrap (Go.bits .and .u8 (rd (l0.drop (a1 : Int).toNat) x23_2) 127)) (ji24))) x8_2 (l0.drop (a1 : Int).toNat) ((l0.drop (a1 : Int).toNat).length : Int) (wrap64 (x23_2 + 1))) else (none)) = some (r1, r2, r3) := by first | (rw [hji24] at H; exact H) | (simp only [hji24] at H ⊢; exact H)
                              have hji24w : (IntKind.i64.wrap (7 * x23_2)) = ji24 := (i64_w _).trans hji24
                              by_cases c25 : 0 ≤ (ji24)
                              · rw [if_pos c25] at H
                                have c25b0 := eq_true c25
                                have c25b1 : decide (0 ≤ (ji24)) = true := decide_eq_true c25
                                clear c25
                                obtain ⟨ji26, hji26⟩ : ∃ j_ : Int, (shl .u64 (IntKind.u64.wrap (Go.bits .and .u8 (rd (l0.drop (a1 : Int).toNat) x23_2) 127)) (ji24)) = j_ := ⟨_, rfl⟩
                                replace H : (vint_Get.l0 kj11 a1 (Go.bits .or .u64 x7_2 (ji26)) x8_2 (l0.drop (a1 : Int).toNat) ((l0.drop (a1 : Int).toNat).length : Int) (wrap64 (x23_2 + 1))) = some (r1, r2, r3) := by first | (rw [hji26] at H; exact H) | (simp only [hji26] at H ⊢; exact H)
                                have hji26_ : (IntKind.u64.wrap ((IntKind.u64.wrap (Go.bits .and .u8 (rd (l0.drop (a1 : Int).toNat) x23_2) 127)) * 2 ^ min (ji24).toNat 64)) = ji26 := hji26
                                have hji26z : (ji24) ≤ 64 → (IntKind.u64.wrap ((IntKind.u64.wrap (Go.bits .and .u8 (rd (l0.drop (a1 : Int).toNat) x23_2) 127)) * 2 ^ (ji24).toNat)) = ji26 := shl_small hji26
                                have H' := Aside0.mk H
                                clear H
                                (go_wp2; all_goals (repeat (go_step3; go_wp2)))
                                go_roundg kj11
                                case measure => have := HJ2.out; have := HK2.out; have := HJ11.out; omega
                                case rel => exact ⟨(Go.bits .or .u64 x7_2 (ji26)), (x8_2), (wrap64 (x23_2 + 1)), (by first | rfl | (simp; done) | (simp only [← hji26] <;> (first | rfl | simp)) | (simp [*]; done)), (by first | rfl | (simp; done) | (simp [*]; done)), (by first | rfl | (simp; done) | (simp [*]; done)), H', ⟨by have := HJ2.out; have := HK2.out; have := HJ11.out; omega⟩, by repeat (first | exact Drawn0.refl _ | apply Drawn0.step)⟩
                              · rw [if_neg c25] at H
                                exact absurd H (by simp)
                    · rw [if_neg c11] at H
                      exact absurd H (by simp)
                  · rw [if_neg c10] at H
                    exact absurd H (by simp)
                · rw [if_neg c9] at H
                  have c9b0 : decide (x23_2 < ((l0.drop (a1 : Int).toNat).length : Int)) = false := decide_eq_false c9
                  have c9b0s := c9b0
                  try rw [List.length_drop] at c9b0s
                  clear c9
                  by_cases c27 : x8_2 < 0
                  · rw [if_pos c27] at H
                    have c27b0 : decide (x8_2 < 0) = true := decide_eq_true c27
                    clear c27
                    simp only [Option.some.injEq, Prod.mk.injEq] at H
                    obtain ⟨rfl, rfl, rfl⟩ := H
                    (go_wp2; all_goals (repeat (go_step3; go_wp2)))
                    go_ret3
                    exact ⟨by first | rfl | (simp; done) | (simp [*]; done), by repeat (first | exact Drawn0.refl _ | apply Drawn0.step)⟩
                  · rw [if_neg c27] at H
                    have c27b0 : decide (x8_2 < 0) = false := decide_eq_false c27
                    clear c27
                    simp only [Option.some.injEq, Prod.mk.injEq] at H
                    obtain ⟨rfl, rfl, rfl⟩ := H
                    (go_wp2; all_goals (repeat (go_step3; go_wp2)))
                    go_ret3
                    exact ⟨by first | rfl | (simp; done) | (simp [*]; done), by repeat (first | exact Drawn0.refl _ | apply Drawn0.step)⟩
          · rw [if_neg c7] at H
            exact absurd H (by simp)
        · rw [if_neg c6] at H
          exact absurd H (by simp)

-- NOT PRINTED: function 26 (arc_reader_num)

/-! ### vint_Zag: function 35 -/
def vint_Zag.f (a0 : Int) : Option (Int) := some (Go.bits .xor .i64 (wrap64 (a0 / 2)) (wrap64 (-(wrap64 (Go.bits .and .u64 a0 1)))))
set_option maxHeartbeats 8000000 in
set_option maxRecDepth 100000 in
theorem vint_Zag.calls (a0 : Int) (r : Int) (w : World) (h : vint_Zag.f a0 = some r) :
    Calls Try.prog 35 #[.int .u64 a0] w fun e w' => e = .returned (.int .i64 r) ∧ Drawn0 w w' := by
  have H : (some (Go.bits .xor .i64 (wrap64 (a0 / 2)) (wrap64 (-(wrap64 (Go.bits .and .u64 a0 1)))))) = some r := h
  clear h
  obtain rfl := Option.some.inj H
  go_enter Try.func35, Try.ntmps35
  go_wp2
  go_ret
  exact ⟨by first | rfl | (simp; done) | (simp [*]; done), by repeat (first | exact Drawn0.refl _ | apply Drawn0.step)⟩

-- NOT PRINTED: function 27 (arc_reader_point)

-- STUB: function 12 (arc_Decode)

/-! ### lapidaryref00_Same: function 14 -/
def lapidaryref00_Same.f (l0 : List Int) (l1 : List Int) : Option (Bool) := some ((strOfNums l0).toList == (strOfNums l1).toList)
set_option maxHeartbeats 8000000 in
set_option maxRecDepth 100000 in
theorem lapidaryref00_Same.calls (A0 : Option Addr) (c0 : Nat) (l0 : List Int) (A1 : Option Addr) (c1 : Nat) (l1 : List Int) (r : Bool) (w : World) (hr0 : Kd.C (Kd.int .u8) w A0 l0.length l0) (hc0 : l0.length ≤ c0) (hr1 : Kd.C (Kd.int .u8) w A1 l1.length l1) (hc1 : l1.length ≤ c1) (h : lapidaryref00_Same.f l0 l1 = some r) :
    Calls Try.prog 14 #[.slice A0 l0.length c0, .slice A1 l1.length c1] w fun e w' => e = .returned (.bool r) ∧ Drawn0 w w' := by
  have HR0 := Aside0.mk hr0
  have HC0 := Aside0.mk hc0
  clear hr0 hc0
  have HR1 := Aside0.mk hr1
  have HC1 := Aside0.mk hc1
  clear hr1 hc1
  have H : (some ((strOfNums l0).toList == (strOfNums l1).toList)) = some r := h
  clear h
  obtain rfl := Option.some.inj H
  have hcv3 := Kd.C_string (P := Try.prog) (A := A0) (c := c0) Try.underlying23 Try.underlying5 Try.underlying9 HR0.out
  have hcv4 := Kd.C_string (P := Try.prog) (A := A1) (c := c1) Try.underlying23 Try.underlying5 Try.underlying9 HR1.out
  go_enter Try.func14, Try.ntmps14
  go_wp2
  go_ret
  exact ⟨by first | rfl | (simp; done) | (simp [*]; done), by repeat (first | exact Drawn0.refl _ | apply Drawn0.step)⟩

/-! ### lapidaryref15_Same: function 17 -/
mutual
def lapidaryref15_Same.l0 : Nat → List (List (S48)) → List (List (S48)) → Int → Option (Bool)
  | 0, _, _, _ => none
  | k + 1, x0, x1, x5 => if x5 < (x0.length : Int) then (if 0 ≤ x5 then (if x5 < (x1.length : Int) then (if ((rd_L2 x0 x5).length : Int) = ((rd_L2 x1 x5).length : Int) then (lapidaryref15_Same.l1 k x0 x1 x5 0) else (some false)) else (none)) else (none)) else (some true)
def lapidaryref15_Same.l1 : Nat → List (List (S48)) → List (List (S48)) → Int → Int → Option (Bool)
  | 0, _, _, _, _ => none
  | k + 1, x0, x1, x5, x6 => if 0 ≤ x5 then (if x5 < (x0.length : Int) then (if x6 < ((rd_L2 x0 x5).length : Int) then (if 0 ≤ x6 then (if x5 < (x1.length : Int) then (if x6 < ((rd_L2 x1 x5).length : Int) then (if (!(((rd_T48 (rd_L2 x0 x5) x6).f0) == ((rd_T48 (rd_L2 x1 x5) x6).f0)) || (!(((rd_T48 (rd_L2 x0 x5) x6).f1) == ((rd_T48 (rd_L2 x1 x5) x6).f1)) || (!(((rd_T48 (rd_L2 x0 x5) x6).f2) == ((rd_T48 (rd_L2 x1 x5) x6).f2))))) = true then (some false) else (lapidaryref15_Same.l1 k x0 x1 x5 (wrap64 (x6 + 1)))) else (none)) else (none)) else (none)) else (lapidaryref15_Same.l0 k x0 x1 (wrap64 (x5 + 1)))) else (none)) else (none)
end
def lapidaryref15_Same.f (k : Nat) (l0 : List (List (S48))) (l1 : List (List (S48))) : Option (Bool) := if (l0.length : Int) = (l1.length : Int) then (lapidaryref15_Same.l0 k l0 l1 0) else (some false)
theorem lapidaryref15_Same.mono_l : ∀ k, (∀ y0 y1 y2, LeO (lapidaryref15_Same.l0 k y0 y1 y2) (lapidaryref15_Same.l0 (k + 1) y0 y1 y2)) ∧ (∀ y0 y1 y2 y3, LeO (lapidaryref15_Same.l1 k y0 y1 y2 y3) (lapidaryref15_Same.l1 (k + 1) y0 y1 y2 y3))
  | 0 => ⟨fun _ _ _ r h => by simp [lapidaryref15_Same.l0] at h, fun _ _ _ _ r h => by simp [lapidaryref15_Same.l1] at h⟩
  | k + 1 => by
    obtain ⟨ih0, ih1⟩ := lapidaryref15_Same.mono_l k
    refine ⟨?_, ?_⟩
    · intro y0 y1 y2
      unfold lapidaryref15_Same.l0
      repeat' first
      | (with_reducible exact ih0 _ _ _)
      | (with_reducible exact ih1 _ _ _ _)
      | (with_reducible exact LeO.refl _)
      | (with_reducible exact LeO.none _)
      | (with_reducible refine LeO.ite ?_ ?_)
      | (with_reducible refine LeO.bind ?_ (fun _ => ?_))
      | exact ih0 _ _ _
      | exact ih1 _ _ _ _
      | exact LeO.none _
      | refine LeO.ite ?_ ?_
      | refine LeO.bind ?_ (fun _ => ?_)
    · intro y0 y1 y2 y3
      unfold lapidaryref15_Same.l1
      repeat' first
      | (with_reducible exact ih0 _ _ _)
      | (with_reducible exact ih1 _ _ _ _)
      | (with_reducible exact LeO.refl _)
      | (with_reducible exact LeO.none _)
      | (with_reducible refine LeO.ite ?_ ?_)
      | (with_reducible refine LeO.bind ?_ (fun _ => ?_))
      | exact ih0 _ _ _
      | exact ih1 _ _ _ _
      | exact LeO.none _
      | refine LeO.ite ?_ ?_
      | refine LeO.bind ?_ (fun _ => ?_)
theorem lapidaryref15_Same.mono : ∀ a0 a1 k, LeO (lapidaryref15_Same.f k a0 a1) (lapidaryref15_Same.f (k + 1) a0 a1) := by
  intro a0 a1 k
  obtain ⟨ih0, ih1⟩ := lapidaryref15_Same.mono_l k
  unfold lapidaryref15_Same.f
  repeat' first
      | (with_reducible exact ih0 _ _ _)
      | (with_reducible exact ih1 _ _ _ _)
      | (with_reducible exact LeO.refl _)
      | (with_reducible exact LeO.none _)
      | (with_reducible refine LeO.ite ?_ ?_)
      | (with_reducible refine LeO.bind ?_ (fun _ => ?_))
      | exact ih0 _ _ _
      | exact ih1 _ _ _ _
      | exact LeO.none _
      | refine LeO.ite ?_ ?_
      | refine LeO.bind ?_ (fun _ => ?_)
set_option maxHeartbeats 8000000 in
set_option maxRecDepth 100000 in
theorem lapidaryref15_Same.calls (k : Nat) (A0 : Option Addr) (c0 : Nat) (l0 : List (List (S48))) (A1 : Option Addr) (c1 : Nat) (l1 : List (List (S48))) (r : Bool) (w : World) (hr0 : Kd.C (Kd.slice 48 k48) w A0 l0.length l0) (hc0 : l0.length ≤ c0) (hr1 : Kd.C (Kd.slice 48 k48) w A1 l1.length l1) (hc1 : l1.length ≤ c1) (h : lapidaryref15_Same.f k l0 l1 = some r) :
    Calls Try.prog 17 #[.slice A0 l0.length c0, .slice A1 l1.length c1] w fun e w' => e = .returned (.bool r) ∧ Drawn0 w w' := by
  have hu48 := Try.underlying48
  have HR0 := Aside0.mk hr0
  have HC0 := Aside0.mk hc0
  clear hr0 hc0
  have HR1 := Aside0.mk hr1
  have HC1 := Aside0.mk hc1
  clear hr1 hc1
  have H : (if (l0.length : Int) = (l1.length : Int) then (lapidaryref15_Same.l0 k l0 l1 0) else (some false)) = some r := h
  clear h
  by_cases c3 : (l0.length : Int) = (l1.length : Int)
  · rw [if_pos c3] at H
    have c3b0 : ((l0.length : Int) == (l1.length : Int)) = true := beq_iff_eq.mpr c3
    have c3b1 : ((l0.length : Int) != (l1.length : Int)) = false := bne_eq_false_iff_eq.mpr c3
    have c3b2 : (l0.length == l1.length) = true := by first | simpa using c3 | (simp at c3 ⊢; omega)
    clear c3
    have H' := Aside0.mk H
    clear H
    go_enter Try.func17, Try.ntmps17
    go_wp2
    repeat (go_quiet (fail); try go_wp2)
    go_loopg [5] k (fun kq v5 w' => ∃ (x5_1 : Int), v5 = .int .i64 x5_1 ∧ Aside0 (lapidaryref15_Same.l0 kq l0 l1 x5_1 = some r) ∧ Aside0 (kq ≤ k) ∧ Drawn0 w w')
    case atStart => exact ⟨(0), (by first | rfl | (simp; done) | (simp [*]; done)), H', ⟨Nat.le_refl _⟩, by repeat (first | exact Drawn0.refl _ | apply Drawn0.step)⟩
    case round =>
      clear H'
      try clear c1
      try clear p2
      try clear c3
      try clear c3b0
      try clear c3b1
      try clear c3b2
      obtain ⟨x5_1, rfl, HA, HK1, ⟨m1, rfl⟩⟩ := hrel
      cases gk with
      | zero => exact absurd HA.out (by simp [lapidaryref15_Same.l0])
      | succ k1 =>
        have H := HA.out
        clear HA
        simp only [lapidaryref15_Same.l0] at H
        by_cases c4 : x5_1 < (l0.length : Int)
        · rw [if_pos c4] at H
          have c4b0 : decide (x5_1 < (l0.length : Int)) = true := decide_eq_true c4
          clear c4
          by_cases c5 : 0 ≤ x5_1
          · rw [if_pos c5] at H
            have c5b0 : decide (0 ≤ x5_1) = true := decide_eq_true c5
            clear c5
            by_cases c6 : x5_1 < (l1.length : Int)
            · rw [if_pos c6] at H
              have c6b0 : decide (x5_1 < (l1.length : Int)) = true := decide_eq_true c6
              clear c6
              by_cases c7 : ((rd_L2 l0 x5_1).length : Int) = ((rd_L2 l1 x5_1).length : Int)
              · rw [if_pos c7] at H
                have c7b0 : (((rd_L2 l0 x5_1).length : Int) == ((rd_L2 l1 x5_1).length : Int)) = true := beq_iff_eq.mpr c7
                have c7b1 : (((rd_L2 l0 x5_1).length : Int) != ((rd_L2 l1 x5_1).length : Int)) = false := bne_eq_false_iff_eq.mpr c7
                have c7b2 : ((rd_L2 l0 x5_1).length == (rd_L2 l1 x5_1).length) = true := by first | simpa using c7 | (simp at c7 ⊢; omega)
                clear c7
                have H' := Aside0.mk H
                clear H
                have p162 : 0 ≤ (x5_1 : Int) := of_decide_eq_true (by first | (with_reducible assumption) | assumption)
                have q162 : x5_1 < (l0.length : Int) := of_decide_eq_true (by first | (with_reducible assumption) | assumption)
                obtain ⟨ad162, A162_0, c162_0, e162, hx162_0, hl162_0, hi162_0⟩ := at_L2 HR0.out x5_1 p162 q162
                cases e162
                have HR162_0 := Aside0.mk hi162_0
                have HC162_0 := Aside0.mk hl162_0
                clear hi162_0 hl162_0
                replace p162 := eq_true p162
                replace q162 := eq_true q162
                have p163 : 0 ≤ (x5_1 : Int) := of_decide_eq_true (by first | (with_reducible assumption) | assumption)
                have q163 : x5_1 < (l1.length : Int) := of_decide_eq_true (by first | (with_reducible assumption) | assumption)
                obtain ⟨ad163, A163_0, c163_0, e163, hx163_0, hl163_0, hi163_0⟩ := at_L2 HR1.out x5_1 p163 q163
                cases e163
                have HR163_0 := Aside0.mk hi163_0
                have HC163_0 := Aside0.mk hl163_0
                clear hi163_0 hl163_0
                replace p163 := eq_true p163
                replace q163 := eq_true q163
                go_wp2
                repeat (go_quiet (fail); try go_wp2)
                go_loopg [6] k1 (fun kq v6 w' => ∃ (x6_2 : Int), v6 = .int .i64 x6_2 ∧ Aside0 (lapidaryref15_Same.l1 kq l0 l1 x5_1 x6_2 = some r) ∧ Aside0 (kq ≤ k1) ∧ Drawn0 w w')
                case atStart => exact ⟨(0), (by first | rfl | (simp; done) | (simp [*]; done)), H', ⟨Nat.le_refl _⟩, by repeat (first | exact Drawn0.refl _ | apply Drawn0.step)⟩
                case round =>
                  clear H'
                  try clear c1
                  try clear p1
                  try clear q1
                  try clear hx1
                  try clear p2
                  try clear c3
                  try clear c3b0
                  try clear c3b1
                  try clear c3b2
                  try clear c4
                  try clear c4b0
                  try clear c5
                  try clear c5b0
                  try clear c6
                  try clear c6b0
                  try clear c7
                  try clear c7b0
                  try clear c7b1
                  try clear c7b2
                  try clear hx162_0
                  try clear hx163_0
                  try clear p162
                  try clear p163
                  try clear p2
                  try clear q162
                  try clear q163
                  obtain ⟨x6_2, rfl, HA, HK2, ⟨m2, rfl⟩⟩ := hrel
                  cases gk with
                  | zero => exact absurd HA.out (by simp [lapidaryref15_Same.l1])
                  | succ k2 =>
                    have H := HA.out
                    clear HA
                    simp only [lapidaryref15_Same.l1] at H
                    by_cases c8 : 0 ≤ x5_1
                    · rw [if_pos c8] at H
                      have c8b0 : decide (0 ≤ x5_1) = true := decide_eq_true c8
                      clear c8
                      by_cases c9 : x5_1 < (l0.length : Int)
                      · rw [if_pos c9] at H
                        have c9b0 : decide (x5_1 < (l0.length : Int)) = true := decide_eq_true c9
                        clear c9
                        by_cases c10 : x6_2 < ((rd_L2 l0 x5_1).length : Int)
                        · rw [if_pos c10] at H
                          have c10b0 : decide (x6_2 < ((rd_L2 l0 x5_1).length : Int)) = true := decide_eq_true c10
                          clear c10
                          by_cases c11 : 0 ≤ x6_2
                          · rw [if_pos c11] at H
                            have c11b0 : decide (0 ≤ x6_2) = true := decide_eq_true c11
                            clear c11
                            by_cases c12 : x5_1 < (l1.length : Int)
                            · rw [if_pos c12] at H
                              have c12b0 : decide (x5_1 < (l1.length : Int)) = true := decide_eq_true c12
                              clear c12
                              by_cases c13 : x6_2 < ((rd_L2 l1 x5_1).length : Int)
                              · rw [if_pos c13] at H
                                have c13b0 : decide (x6_2 < ((rd_L2 l1 x5_1).length : Int)) = true := decide_eq_true c13
                                clear c13
                                by_cases c14 : (!(((rd_T48 (rd_L2 l0 x5_1) x6_2).f0) == ((rd_T48 (rd_L2 l1 x5_1) x6_2).f0)) || (!(((rd_T48 (rd_L2 l0 x5_1) x6_2).f1) == ((rd_T48 (rd_L2 l1 x5_1) x6_2).f1)) || (!(((rd_T48 (rd_L2 l0 x5_1) x6_2).f2) == ((rd_T48 (rd_L2 l1 x5_1) x6_2).f2))))) = true
                                · rw [if_pos c14] at H
                                  have c14b0 : (!(((rd_T48 (rd_L2 l0 x5_1) x6_2).f0) == ((rd_T48 (rd_L2 l1 x5_1) x6_2).f0)) || (!(((rd_T48 (rd_L2 l0 x5_1) x6_2).f1) == ((rd_T48 (rd_L2 l1 x5_1) x6_2).f1)) || (!(((rd_T48 (rd_L2 l0 x5_1) x6_2).f2) == ((rd_T48 (rd_L2 l1 x5_1) x6_2).f2))))) = true := c14
                                  clear c14
                                  obtain rfl := Option.some.inj H
                                  have p164 : 0 ≤ (x5_1 : Int) := of_decide_eq_true (by first | (with_reducible assumption) | assumption)
                                  have q164 : x5_1 < (l0.length : Int) := of_decide_eq_true (by first | (with_reducible assumption) | assumption)
                                  obtain ⟨ad164, A164_0, c164_0, e164, hx164_0, hl164_0, hi164_0⟩ := at_L2 HR0.out x5_1 p164 q164
                                  obtain rfl : ad162 = ad164 := (by injection e164)
                                  have HR164_0 := Aside0.mk hi164_0
                                  have HC164_0 := Aside0.mk hl164_0
                                  clear hi164_0 hl164_0
                                  replace p164 := eq_true p164
                                  replace q164 := eq_true q164
                                  have p165 : 0 ≤ (x5_1 : Int) := of_decide_eq_true (by first | (with_reducible assumption) | assumption)
                                  have q165 : x5_1 < (l0.length : Int) := of_decide_eq_true (by first | (with_reducible assumption) | assumption)
                                  obtain ⟨ad165, A165_0, c165_0, e165, hx165_0, hl165_0, hi165_0⟩ := at_L2 HR0.out x5_1 p165 q165
                                  obtain rfl : ad162 = ad165 := (by injection e165)
                                  have HR165_0 := Aside0.mk hi165_0
                                  have HC165_0 := Aside0.mk hl165_0
                                  clear hi165_0 hl165_0
                                  replace p165 := eq_true p165
                                  replace q165 := eq_true q165
                                  have ea_ := Option.some.inj (hx164_0.symm.trans hx165_0)
                                  injection ea_ with ea_ en_ ec_
                                  subst ea_
                                  subst ec_
                                  clear en_
                                  have p166 : 0 ≤ (x6_2 : Int) := of_decide_eq_true (by first | (with_reducible assumption) | assumption)
                                  have q166 : x6_2 < ((rd_L2 l0 x5_1).length : Int) := of_decide_eq_true (by first | (with_reducible assumption) | assumption)
                                  obtain ⟨ad166, e166, hx166_0, hx166_1, hx166_2⟩ := at_T48 HR165_0.out x6_2 p166 q166
                                  cases e166
                                  replace p166 := eq_true p166
                                  replace q166 := eq_true q166
                                  have p167 : 0 ≤ (x5_1 : Int) := of_decide_eq_true (by first | (with_reducible assumption) | assumption)
                                  have q167 : x5_1 < (l1.length : Int) := of_decide_eq_true (by first | (with_reducible assumption) | assumption)
                                  obtain ⟨ad167, A167_0, c167_0, e167, hx167_0, hl167_0, hi167_0⟩ := at_L2 HR1.out x5_1 p167 q167
                                  obtain rfl : ad163 = ad167 := (by injection e167)
                                  have HR167_0 := Aside0.mk hi167_0
                                  have HC167_0 := Aside0.mk hl167_0
                                  clear hi167_0 hl167_0
                                  replace p167 := eq_true p167
                                  replace q167 := eq_true q167
                                  have p168 : 0 ≤ (x6_2 : Int) := of_decide_eq_true (by first | (with_reducible assumption) | assumption)
                                  have q168 : x6_2 < ((rd_L2 l1 x5_1).length : Int) := of_decide_eq_true (by first | (with_reducible assumption) | assumption)
                                  obtain ⟨ad168, e168, hx168_0, hx168_1, hx168_2⟩ := at_T48 HR167_0.out x6_2 p168 q168
                                  cases e168
                                  replace p168 := eq_true p168
                                  replace q168 := eq_true q168
                                  go_wp2
                                  repeat (go_quiet (fail); try go_wp2)
                                  go_ret
                                  exact ⟨by first | rfl | (simp; done) | (simp [*]; done), by repeat (first | exact Drawn0.refl _ | apply Drawn0.step)⟩
                                · rw [if_neg c14] at H
                                  have c14b0 : (!(((rd_T48 (rd_L2 l0 x5_1) x6_2).f0) == ((rd_T48 (rd_L2 l1 x5_1) x6_2).f0)) || (!(((rd_T48 (rd_L2 l0 x5_1) x6_2).f1) == ((rd_T48 (rd_L2 l1 x5_1) x6_2).f1)) || (!(((rd_T48 (rd_L2 l0 x5_1) x6_2).f2) == ((rd_T48 (rd_L2 l1 x5_1) x6_2).f2))))) = false := by simpa using c14
                                  clear c14
                                  have H' := Aside0.mk H
                                  clear H
                                  have p164 : 0 ≤ (x5_1 : Int) := of_decide_eq_true (by first | (with_reducible assumption) | assumption)
                                  have q164 : x5_1 < (l0.length : Int) := of_decide_eq_true (by first | (with_reducible assumption) | assumption)
                                  obtain ⟨ad164, A164_0, c164_0, e164, hx164_0, hl164_0, hi164_0⟩ := at_L2 HR0.out x5_1 p164 q164
                                  obtain rfl : ad162 = ad164 := (by injection e164)
                                  have HR164_0 := Aside0.mk hi164_0
                                  have HC164_0 := Aside0.mk hl164_0
                                  clear hi164_0 hl164_0
                                  replace p164 := eq_true p164
                                  replace q164 := eq_true q164
                                  have p165 : 0 ≤ (x5_1 : Int) := of_decide_eq_true (by first | (with_reducible assumption) | assumption)
                                  have q165 : x5_1 < (l0.length : Int) := of_decide_eq_true (by first | (with_reducible assumption) | assumption)
                                  obtain ⟨ad165, A165_0, c165_0, e165, hx165_0, hl165_0, hi165_0⟩ := at_L2 HR0.out x5_1 p165 q165
                                  obtain rfl : ad162 = ad165 := (by injection e165)
                                  have HR165_0 := Aside0.mk hi165_0
                                  have HC165_0 := Aside0.mk hl165_0
                                  clear hi165_0 hl165_0
                                  replace p165 := eq_true p165
                                  replace q165 := eq_true q165
                                  have ea_ := Option.some.inj (hx164_0.symm.trans hx165_0)
                                  injection ea_ with ea_ en_ ec_
                                  subst ea_
                                  subst ec_
                                  clear en_
                                  have p166 : 0 ≤ (x6_2 : Int) := of_decide_eq_true (by first | (with_reducible assumption) | assumption)
                                  have q166 : x6_2 < ((rd_L2 l0 x5_1).length : Int) := of_decide_eq_true (by first | (with_reducible assumption) | assumption)
                                  obtain ⟨ad166, e166, hx166_0, hx166_1, hx166_2⟩ := at_T48 HR165_0.out x6_2 p166 q166
                                  cases e166
                                  replace p166 := eq_true p166
                                  replace q166 := eq_true q166
                                  have p167 : 0 ≤ (x5_1 : Int) := of_decide_eq_true (by first | (with_reducible assumption) | assumption)
                                  have q167 : x5_1 < (l1.length : Int) := of_decide_eq_true (by first | (with_reducible assumption) | assumption)
                                  obtain ⟨ad167, A167_0, c167_0, e167, hx167_0, hl167_0, hi167_0⟩ := at_L2 HR1.out x5_1 p167 q167
                                  obtain rfl : ad163 = ad167 := (by injection e167)
                                  have HR167_0 := Aside0.mk hi167_0
                                  have HC167_0 := Aside0.mk hl167_0
                                  clear hi167_0 hl167_0
                                  replace p167 := eq_true p167
                                  replace q167 := eq_true q167
                                  have p168 : 0 ≤ (x6_2 : Int) := of_decide_eq_true (by first | (with_reducible assumption) | assumption)
                                  have q168 : x6_2 < ((rd_L2 l1 x5_1).length : Int) := of_decide_eq_true (by first | (with_reducible assumption) | assumption)
                                  obtain ⟨ad168, e168, hx168_0, hx168_1, hx168_2⟩ := at_T48 HR167_0.out x6_2 p168 q168
                                  cases e168
                                  replace p168 := eq_true p168
                                  replace q168 := eq_true q168
                                  go_wp2
                                  repeat (go_quiet (fail); try go_wp2)
                                  go_roundg k2
                                  case measure => have := HK1.out; have := HK2.out; omega
                                  case rel => exact ⟨(wrap64 (x6_2 + 1)), (by first | rfl | (simp; done) | (simp [*]; done)), H', ⟨by have := HK1.out; have := HK2.out; omega⟩, by repeat (first | exact Drawn0.refl _ | apply Drawn0.step)⟩
                              · rw [if_neg c13] at H
                                exact absurd H (by simp)
                            · rw [if_neg c12] at H
                              exact absurd H (by simp)
                          · rw [if_neg c11] at H
                            exact absurd H (by simp)
                        · rw [if_neg c10] at H
                          have c10b0 : decide (x6_2 < ((rd_L2 l0 x5_1).length : Int)) = false := decide_eq_false c10
                          clear c10
                          have H' := Aside0.mk H
                          clear H
                          have p164 : 0 ≤ (x5_1 : Int) := of_decide_eq_true (by first | (with_reducible assumption) | assumption)
                          have q164 : x5_1 < (l0.length : Int) := of_decide_eq_true (by first | (with_reducible assumption) | assumption)
                          obtain ⟨ad164, A164_0, c164_0, e164, hx164_0, hl164_0, hi164_0⟩ := at_L2 HR0.out x5_1 p164 q164
                          obtain rfl : ad162 = ad164 := (by injection e164)
                          have HR164_0 := Aside0.mk hi164_0
                          have HC164_0 := Aside0.mk hl164_0
                          clear hi164_0 hl164_0
                          replace p164 := eq_true p164
                          replace q164 := eq_true q164
                          go_wp2
                          repeat (go_quiet (fail); try go_wp2)
                          go_roundg k2
                          case measure => have := HK1.out; have := HK2.out; omega
                          case rel => exact ⟨(wrap64 (x5_1 + 1)), (by first | rfl | (simp; done) | (simp [*]; done)), H', ⟨by have := HK1.out; have := HK2.out; omega⟩, by repeat (first | exact Drawn0.refl _ | apply Drawn0.step)⟩
                      · rw [if_neg c9] at H
                        exact absurd H (by simp)
                    · rw [if_neg c8] at H
                      exact absurd H (by simp)
              · rw [if_neg c7] at H
                have c7b0 : (((rd_L2 l0 x5_1).length : Int) == ((rd_L2 l1 x5_1).length : Int)) = false := beq_eq_false_iff_ne.mpr c7
                have c7b1 : (((rd_L2 l0 x5_1).length : Int) != ((rd_L2 l1 x5_1).length : Int)) = true := bne_iff_ne.mpr c7
                have c7b2 : ((rd_L2 l0 x5_1).length == (rd_L2 l1 x5_1).length) = false := by first | simpa using c7 | (simp at c7 ⊢; omega)
                obtain rfl := Option.some.inj H
                have p162 : 0 ≤ (x5_1 : Int) := of_decide_eq_true (by first | (with_reducible assumption) | assumption)
                have q162 : x5_1 < (l0.length : Int) := of_decide_eq_true (by first | (with_reducible assumption) | assumption)
                obtain ⟨ad162, A162_0, c162_0, e162, hx162_0, hl162_0, hi162_0⟩ := at_L2 HR0.out x5_1 p162 q162
                cases e162
                have HR162_0 := Aside0.mk hi162_0
                have HC162_0 := Aside0.mk hl162_0
                clear hi162_0 hl162_0
                replace p162 := eq_true p162
                replace q162 := eq_true q162
                have p163 : 0 ≤ (x5_1 : Int) := of_decide_eq_true (by first | (with_reducible assumption) | assumption)
                have q163 : x5_1 < (l1.length : Int) := of_decide_eq_true (by first | (with_reducible assumption) | assumption)
                obtain ⟨ad163, A163_0, c163_0, e163, hx163_0, hl163_0, hi163_0⟩ := at_L2 HR1.out x5_1 p163 q163
                cases e163
                have HR163_0 := Aside0.mk hi163_0
                have HC163_0 := Aside0.mk hl163_0
                clear hi163_0 hl163_0
                replace p163 := eq_true p163
                replace q163 := eq_true q163
                go_wp2
                repeat (go_quiet (fail); try go_wp2)
                go_ret
                exact ⟨by first | rfl | (simp; done) | (simp [*]; done), by repeat (first | exact Drawn0.refl _ | apply Drawn0.step)⟩
            · rw [if_neg c6] at H
              exact absurd H (by simp)
          · rw [if_neg c5] at H
            exact absurd H (by simp)
        · rw [if_neg c4] at H
          have c4b0 : decide (x5_1 < (l0.length : Int)) = false := decide_eq_false c4
          clear c4
          obtain rfl := Option.some.inj H
          go_wp2
          repeat (go_quiet (fail); try go_wp2)
          go_ret
          exact ⟨by first | rfl | (simp; done) | (simp [*]; done), by repeat (first | exact Drawn0.refl _ | apply Drawn0.step)⟩
  · rw [if_neg c3] at H
    have c3b0 : ((l0.length : Int) == (l1.length : Int)) = false := beq_eq_false_iff_ne.mpr c3
    have c3b1 : ((l0.length : Int) != (l1.length : Int)) = true := bne_iff_ne.mpr c3
    have c3b2 : (l0.length == l1.length) = false := by first | simpa using c3 | (simp at c3 ⊢; omega)
    obtain rfl := Option.some.inj H
    go_enter Try.func17, Try.ntmps17
    go_wp2
    repeat (go_quiet (fail); try go_wp2)
    go_ret
    exact ⟨by first | rfl | (simp; done) | (simp [*]; done), by repeat (first | exact Drawn0.refl _ | apply Drawn0.step)⟩

end Go.Proofs.Ytmfeokapjmpjfaa.PArc
