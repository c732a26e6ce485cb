-- Written for this claim by a program of this session.
import Derived.WalkMore
import Derived.Test.YtgkncgiemfbglaaPPrdx0
namespace Go.Proofs.Ytgkncgiemfbglaa.PPrd
open Go.RowKit Go.Proofs.YtgkncgiemfbglaaW.PrintWords Go.Proofs.YtgkncgiemfbglaaW.PrintLast Go.Proofs.YtgkncgiemfbglaaW.PrintMore
attribute [local go_sem] max2_int min2_int max_two min_two max_three min_three max_four min_four   -- for this text's walks alone
set_option linter.unusedVariables false
set_option linter.unusedSimpArgs false

-- NOT PRINTED: function 12 (predict_Rests)

-- NOT PRINTED: function 24 (slices_IndexFunc_3_int_3_int)

-- NOT PRINTED: function 13 (predict_Fore)

-- STUB: function 5 (lapidarylaw14_known)

theorem noGoto_body {P : Program} {fn : Func} {R : Ending → World → Prop} : Exit.noGoto (bodyPost P fn R) = bodyPost P fn R := by
  funext e a w
  cases e <;> rfl
theorem scope_body {P : Program} {fn : Func} {R : Ending → World → Prop} {c : Code} {a : Act} {w : World} (h : c.wp P (bodyPost P fn R) a w) : (Code.scope c).wp P (bodyPost P fn R) a w :=
  wp_scope_straight (by rw [noGoto_body]; exact h)

/-! ### vint_Get: function 31 -/
mutual
def vint_Get.j0 : Nat → List Int → Int → Bool → Option (Int × Int × Int)
  | 0, _, _, _ => none
  | k + 1, x0, x1, x18 => if x18 = true then (some (0, 0, 2)) else (if 0 ≤ x1 then (if x1 ≤ (x0.length : Int) then (vint_Get.l0 k x1 0 (-1) (x0.drop (x1 : Int).toNat) ((x0.drop (x1 : Int).toNat).length : Int) 0) else (none)) else (none))
def vint_Get.l0 : Nat → Int → Int → Int → List Int → Int → Int → Option (Int × Int × Int)
  | 0, _, _, _, _, _, _ => none
  | k + 1, x1, x7, x8, x21, x22, x23 => if x23 < x22 then (if 0 ≤ x23 then (if x23 < (x21.length : Int) then (if x23 > 9 then (vint_Get.j2 k x1 x7 x8 x23 (rd x21 x23) x21 x22 x23 true) else (if x23 = 9 then (vint_Get.j2 k x1 x7 x8 x23 (rd x21 x23) x21 x22 x23 (decide ((rd x21 x23) > 1))) else (vint_Get.j2 k x1 x7 x8 x23 (rd x21 x23) x21 x22 x23 false))) else (none)) else (none)) else (if x8 < 0 then (some (0, 0, 10)) else (some (x7, x8, 0)))
def vint_Get.j2 : Nat → Int → Int → Int → Int → Int → List Int → Int → Int → Bool → Option (Int × Int × Int)
  | 0, _, _, _, _, _, _, _, _, _ => none
  | k + 1, x1, x7, x8, x9, x10, x21, x22, x23, x28 => if x28 = true then (some (0, 0, 11)) else (if x10 < 128 then (if 0 ≤ (wrap64 (7 * x9)) then (if x10 = 0 then (if x9 > 0 then (some (0, 0, 11)) else (if (wrap64 ((wrap64 (x1 + x9)) + 1)) < 0 then (some (0, 0, 10)) else (some (Go.bits .or .u64 x7 (shl .u64 (IntKind.u64.wrap (x10)) (wrap64 (7 * x9))), wrap64 ((wrap64 (x1 + x9)) + 1), 0)))) else (if (wrap64 ((wrap64 (x1 + x9)) + 1)) < 0 then (some (0, 0, 10)) else (some (Go.bits .or .u64 x7 (shl .u64 (IntKind.u64.wrap (x10)) (wrap64 (7 * x9))), wrap64 ((wrap64 (x1 + x9)) + 1), 0)))) else (none)) else (if 0 ≤ (wrap64 (7 * x9)) then (vint_Get.l0 k x1 (Go.bits .or .u64 x7 (shl .u64 (IntKind.u64.wrap (Go.bits .and .u8 x10 127)) (wrap64 (7 * x9)))) x8 x21 x22 (wrap64 (x23 + 1))) else (none)))
end
def vint_Get.f (k : Nat) (l0 : List Int) (a1 : Int) : Option (Int × Int × Int) := if a1 < 0 then (vint_Get.j0 k l0 a1 true) else (vint_Get.j0 k l0 a1 (decide (a1 > (l0.length : Int))))
theorem vint_Get.mono_l : ∀ k, (∀ y0 y1 y2, LeO (vint_Get.j0 k y0 y1 y2) (vint_Get.j0 (k + 1) y0 y1 y2)) ∧ (∀ y0 y1 y2 y3 y4 y5, LeO (vint_Get.l0 k y0 y1 y2 y3 y4 y5) (vint_Get.l0 (k + 1) y0 y1 y2 y3 y4 y5)) ∧ (∀ y0 y1 y2 y3 y4 y5 y6 y7 y8, LeO (vint_Get.j2 k y0 y1 y2 y3 y4 y5 y6 y7 y8) (vint_Get.j2 (k + 1) y0 y1 y2 y3 y4 y5 y6 y7 y8))
  | 0 => ⟨fun _ _ _ r h => by simp [vint_Get.j0] at h, fun _ _ _ _ _ _ r h => by simp [vint_Get.l0] at h, fun _ _ _ _ _ _ _ _ _ r h => by simp [vint_Get.j2] at h⟩
  | k + 1 => by
    obtain ⟨ih0, ih1, ih2⟩ := vint_Get.mono_l k
    refine ⟨?_, ?_, ?_⟩
    · intro y0 y1 y2
      unfold vint_Get.j0
      repeat' first
      | (with_reducible exact ih0 _ _ _)
      | (with_reducible exact ih1 _ _ _ _ _ _)
      | (with_reducible exact ih2 _ _ _ _ _ _ _ _ _)
      | (with_reducible exact LeO.refl _)
      | (with_reducible exact LeO.none _)
      | (with_reducible refine LeO.ite ?_ ?_)
      | (with_reducible refine LeO.bind ?_ (fun _ => ?_))
      | exact ih0 _ _ _
      | exact ih1 _ _ _ _ _ _
      | exact ih2 _ _ _ _ _ _ _ _ _
      | exact LeO.none _
      | refine LeO.ite ?_ ?_
      | refine LeO.bind ?_ (fun _ => ?_)
    · intro y0 y1 y2 y3 y4 y5
      unfold vint_Get.l0
      repeat' first
      | (with_reducible exact ih0 _ _ _)
      | (with_reducible exact ih1 _ _ _ _ _ _)
      | (with_reducible exact ih2 _ _ _ _ _ _ _ _ _)
      | (with_reducible exact LeO.refl _)
      | (with_reducible exact LeO.none _)
      | (with_reducible refine LeO.ite ?_ ?_)
      | (with_reducible refine LeO.bind ?_ (fun _ => ?_))
      | exact ih0 _ _ _
      | exact ih1 _ _ _ _ _ _
      | exact ih2 _ _ _ _ _ _ _ _ _
      | exact LeO.none _
      | refine LeO.ite ?_ ?_
      | refine LeO.bind ?_ (fun _ => ?_)
    · intro y0 y1 y2 y3 y4 y5 y6 y7 y8
      unfold vint_Get.j2
      repeat' first
      | (with_reducible exact ih0 _ _ _)
      | (with_reducible exact ih1 _ _ _ _ _ _)
      | (with_reducible exact ih2 _ _ _ _ _ _ _ _ _)
      | (with_reducible exact LeO.refl _)
      | (with_reducible exact LeO.none _)
      | (with_reducible refine LeO.ite ?_ ?_)
      | (with_reducible refine LeO.bind ?_ (fun _ => ?_))
      | exact ih0 _ _ _
      | exact ih1 _ _ _ _ _ _
      | exact ih2 _ _ _ _ _ _ _ _ _
      | exact LeO.none _
      | refine LeO.ite ?_ ?_
      | refine LeO.bind ?_ (fun _ => ?_)
theorem vint_Get.mono : ∀ a0 a1 k, LeO (vint_Get.f k a0 a1) (vint_Get.f (k + 1) a0 a1) := by
  intro a0 a1 k
  obtain ⟨ih0, ih1, ih2⟩ := vint_Get.mono_l k
  unfold vint_Get.f
  repeat' first
      | (with_reducible exact ih0 _ _ _)
      | (with_reducible exact ih1 _ _ _ _ _ _)
      | (with_reducible exact ih2 _ _ _ _ _ _ _ _ _)
      | (with_reducible exact LeO.refl _)
      | (with_reducible exact LeO.none _)
      | (with_reducible refine LeO.ite ?_ ?_)
      | (with_reducible refine LeO.bind ?_ (fun _ => ?_))
      | exact ih0 _ _ _
      | exact ih1 _ _ _ _ _ _
      | exact ih2 _ _ _ _ _ _ _ _ _
      | exact LeO.none _
      | refine LeO.ite ?_ ?_
      | refine LeO.bind ?_ (fun _ => ?_)
set_option maxHeartbeats 8000000 in
set_option maxRecDepth 100000 in
theorem vint_Get.calls (k : Nat) (A0 : Option Addr) (c0 : Nat) (l0 : List Int) (a1 : Int) (r1 : Int) (r2 : Int) (r3 : Int) (w : World) (hr0 : Kd.C (Kd.int .u8) w A0 l0.length l0) (hc0 : l0.length ≤ c0) (h : vint_Get.f k l0 a1 = some (r1, r2, r3)) :
    Calls Try.prog 31 #[.slice A0 l0.length c0, .int .i64 a1] w fun e w' => e = .returned (.tuple #[.int .u64 r1, .int .i64 r2, .int .i64 r3]) ∧ Drawn0 w w' := by
  have HR0 := Aside0.mk hr0
  have HC0 := Aside0.mk hc0
  clear hr0 hc0
  have H : (if a1 < 0 then (vint_Get.j0 k l0 a1 true) else (vint_Get.j0 k l0 a1 (decide (a1 > (l0.length : Int))))) = some (r1, r2, r3) := h
  clear h
  have HC3 := Aside0.mk H
  clear H
  go_enter Try.func31, Try.ntmps31
  go_wp2
  apply scope_body
  (go_upto_region 1 with (fail)); all_goals (try (go_step3; (go_upto_region 1 with (fail))))
  go_cut [18] (fun v18 wc => ∃ (kq : Nat) (x18_2 : Bool), v18 = .bool x18_2 ∧ Aside0 (vint_Get.j0 kq l0 a1 x18_2 = some (r1, r2, r3)) ∧ Aside0 (kq ≤ k) ∧ Drawn0 w wc)
  case first =>
    have H := HC3.out
    clear HC3
    by_cases c4 : a1 < 0
    · rw [if_pos c4] at H
      have c4b0 : decide (a1 < 0) = true := decide_eq_true c4
      clear c4
      (first | rw [c4b0] | (simp only [i64_w, i32_w]; rw [c4b0]) | skip)
      have H' := Aside0.mk H
      clear H
      (go_wp2; all_goals (repeat (go_step3; go_wp2)))
      go_meet
      case rel => exact ⟨_, (true), (by first | rfl | (simp; done) | (simp [*]; done)), H', ⟨by first | omega | exact Nat.le_refl _⟩, by repeat (first | exact Drawn0.refl _ | apply Drawn0.step)⟩
    · rw [if_neg c4] at H
      have c4b0 : decide (a1 < 0) = false := decide_eq_false c4
      clear c4
      (first | rw [c4b0] | (simp only [i64_w, i32_w]; rw [c4b0]) | skip)
      have H' := Aside0.mk H
      clear H
      (go_wp2; all_goals (repeat (go_step3; go_wp2)))
      go_meet
      case rel => exact ⟨_, (decide (a1 > (l0.length : Int))), (by first | rfl | (simp; done) | (simp [*]; done)), H', ⟨by first | omega | exact Nat.le_refl _⟩, by repeat (first | exact Drawn0.refl _ | apply Drawn0.step)⟩
  case rest =>
    clear HC3
    try clear p2
    try clear c3
    try clear c4
    try clear c4b0
    obtain ⟨kq, x18_2, rfl, HA, HJ2, ⟨mc2, rfl⟩⟩ := hcut
    cases kq with
    | zero => exact absurd HA.out (by simp [vint_Get.j0])
    | succ kj2 =>
      have H := HA.out
      clear HA
      simp only [vint_Get.j0] at H
      by_cases c5 : x18_2 = true
      · subst c5
        have H1 : (some (0, 0, 2)) = some (r1, r2, r3) := by rw [if_pos rfl] at H; exact H
        clear H
        have H := H1
        clear H1
        simp only [Option.some.injEq, Prod.mk.injEq] at H
        obtain ⟨rfl, rfl, rfl⟩ := H
        (go_wp2; all_goals (repeat (go_step3; go_wp2)))
        go_ret3
        exact ⟨by first | rfl | (simp; done) | (simp [*]; done), by repeat (first | exact Drawn0.refl _ | apply Drawn0.step)⟩
      · replace c5 := Bool.eq_false_iff.mpr c5
        subst c5
        have H1 : (if 0 ≤ a1 then (if a1 ≤ (l0.length : Int) then (vint_Get.l0 kj2 a1 0 (-1) (l0.drop (a1 : Int).toNat) ((l0.drop (a1 : Int).toNat).length : Int) 0) else (none)) else (none)) = some (r1, r2, r3) := by rw [if_neg (show ¬ (false = true) by decide)] at H; exact H
        clear H
        have H := H1
        clear H1
        by_cases c6 : 0 ≤ a1
        · rw [if_pos c6] at H
          have c6b0 := eq_true c6
          have c6b1 : decide (0 ≤ a1) = true := decide_eq_true c6
          clear c6
          by_cases c7 : a1 ≤ (l0.length : Int)
          · rw [if_pos c7] at H
            have c7b0 := eq_true c7
            have c7b1 : decide (a1 ≤ (l0.length : Int)) = true := decide_eq_true c7
            clear c7
            have H' := Aside0.mk H
            clear H
            obtain ⟨i08, hi08, _, hsz8, _⟩ := info_parts info5
            obtain ⟨A8, hcut8, hA8, hC8⟩ := print_drop_of (P := Try.prog) (Value.int .u8) 0 23 5 .i64 Try.underlying23 hi08 hsz8 A0 c0 l0 a1 (of_decide_eq_true (by first | (with_reducible assumption) | assumption)) (of_decide_eq_true (by first | (with_reducible assumption) | assumption)) HC0.out
            have HR141 := Aside0.mk (Kd.C_of_reads (h1 := fun _ => rfl) (hA8 _ (Kd.reads_of_C HR0.out)))
            have HC141 := Aside0.mk hC8
            clear hA8 hC8 hi08 hsz8
            (go_wp2; all_goals (repeat (go_step3; go_wp2)))
            go_loopg [7, 8, 23] kj2 (fun kq v7 v8 v23 w' => ∃ (x7_2 : Int) (x8_2 : Int) (x23_2 : Int), v7 = .int .u64 x7_2 ∧ v8 = .int .i64 x8_2 ∧ v23 = .int .i64 x23_2 ∧ Aside0 (vint_Get.l0 kq a1 x7_2 x8_2 (l0.drop (a1 : Int).toNat) ((l0.drop (a1 : Int).toNat).length : Int) x23_2 = some (r1, r2, r3)) ∧ Aside0 (kq ≤ kj2) ∧ Drawn0 w w')
            case atStart => exact ⟨(0), ((-1)), (0), (by first | rfl | (simp; done) | (simp [*]; done)), (by first | rfl | (simp; done) | (simp [*]; done)), (by first | rfl | (simp; done) | (simp [*]; done)), H', ⟨Nat.le_refl _⟩, by repeat (first | exact Drawn0.refl _ | apply Drawn0.step)⟩
            case round =>
              clear H'
              try clear c2
              try clear p2
              try clear c3
              try clear c4
              try clear c4b0
              try clear c5
              try clear c6
              try clear c6b0
              try clear c6b1
              try clear c7
              try clear c7b0
              try clear c7b1
              try clear p2
              obtain ⟨x7_2, x8_2, x23_2, rfl, rfl, rfl, HA, HK2, ⟨m2, rfl⟩⟩ := hrel
              cases gk with
              | zero => exact absurd HA.out (by simp [vint_Get.l0])
              | succ k2 =>
                have H := HA.out
                clear HA
                simp only [vint_Get.l0] at H
                by_cases c9 : x23_2 < ((l0.drop (a1 : Int).toNat).length : Int)
                · rw [if_pos c9] at H
                  have c9b0 : decide (x23_2 < ((l0.drop (a1 : Int).toNat).length : Int)) = true := decide_eq_true c9
                  have c9b0s := c9b0
                  try rw [List.length_drop] at c9b0s
                  clear c9
                  by_cases c10 : 0 ≤ x23_2
                  · rw [if_pos c10] at H
                    have c10b0 : decide (0 ≤ x23_2) = true := decide_eq_true c10
                    clear c10
                    by_cases c11 : x23_2 < ((l0.drop (a1 : Int).toNat).length : Int)
                    · rw [if_pos c11] at H
                      have c11b0 : decide (x23_2 < ((l0.drop (a1 : Int).toNat).length : Int)) = true := decide_eq_true c11
                      have c11b0s := c11b0
                      try rw [List.length_drop] at c11b0s
                      clear c11
                      have HC12 := Aside0.mk H
                      clear H
                      have p142 : 0 ≤ (x23_2 : Int) := of_decide_eq_true (by first | (with_reducible assumption) | assumption)
                      have q142 : x23_2 < ((l0.drop (a1 : Int).toNat).length : Int) := of_decide_eq_true (by first | (with_reducible assumption) | assumption)
                      obtain ⟨ad142, e142, hx142_0⟩ := Kd.at_int HR141.out x23_2 p142 q142
                      cases e142
                      replace p142 := eq_true p142
                      replace q142 := eq_true q142
                      have q142s := q142
                      try rw [List.length_drop] at q142s
                      (go_upto_region 8 with (fail)); all_goals (try (go_step3; (go_upto_region 8 with (fail))))
                      go_cut [28] (fun v28 wc => ∃ (kq : Nat) (x28_11 : Bool), v28 = .bool x28_11 ∧ Aside0 (vint_Get.j2 kq a1 x7_2 x8_2 x23_2 (rd (l0.drop (a1 : Int).toNat) x23_2) (l0.drop (a1 : Int).toNat) ((l0.drop (a1 : Int).toNat).length : Int) x23_2 x28_11 = some (r1, r2, r3)) ∧ Aside0 (kq ≤ k2) ∧ Drawn0 w wc)
                      case first =>
                        have H := HC12.out
                        clear HC12
                        by_cases c13 : x23_2 > 9
                        · rw [if_pos c13] at H
                          have c13b0 : decide (9 < x23_2) = true := decide_eq_true c13
                          clear c13
                          (first | rw [c13b0] | (simp only [i64_w, i32_w]; rw [c13b0]) | skip)
                          have H' := Aside0.mk H
                          clear H
                          (go_wp2; all_goals (repeat (go_step3; go_wp2)))
                          go_meet
                          case rel => exact ⟨_, (true), (by first | rfl | (simp; done) | (simp [*]; done)), H', ⟨by have := HJ2.out; have := HK2.out; first | omega | exact Nat.le_refl _⟩, by repeat (first | exact Drawn0.refl _ | apply Drawn0.step)⟩
                        · rw [if_neg c13] at H
                          have c13b0 : decide (9 < x23_2) = false := decide_eq_false c13
                          clear c13
                          (first | rw [c13b0] | (simp only [i64_w, i32_w]; rw [c13b0]) | skip)
                          by_cases c14 : x23_2 = 9
                          · rw [if_pos c14] at H
                            have c14b0 : (x23_2 == 9) = true := beq_iff_eq.mpr c14
                            have c14b1 : (x23_2 != 9) = false := bne_eq_false_iff_eq.mpr c14
                            clear c14
                            have H' := Aside0.mk H
                            clear H
                            (go_wp2; all_goals (repeat (go_step3; go_wp2)))
                            go_meet
                            case rel => exact ⟨_, (decide ((rd (l0.drop (a1 : Int).toNat) x23_2) > 1)), (by first | rfl | (simp; done) | (simp [*]; done)), H', ⟨by have := HJ2.out; have := HK2.out; first | omega | exact Nat.le_refl _⟩, by repeat (first | exact Drawn0.refl _ | apply Drawn0.step)⟩
                          · rw [if_neg c14] at H
                            have c14b0 : (x23_2 == 9) = false := beq_eq_false_iff_ne.mpr c14
                            have c14b1 : (x23_2 != 9) = true := bne_iff_ne.mpr c14
                            have H' := Aside0.mk H
                            clear H
                            (go_wp2; all_goals (repeat (go_step3; go_wp2)))
                            go_meet
                            case rel => exact ⟨_, (false), (by first | rfl | (simp; done) | (simp [*]; done)), H', ⟨by have := HJ2.out; have := HK2.out; first | omega | exact Nat.le_refl _⟩, by repeat (first | exact Drawn0.refl _ | apply Drawn0.step)⟩
                      case rest =>
                        clear HC12
                        try clear c1
                        try clear p1
                        try clear q1
                        try clear hx1
                        try clear c2
                        try clear p2
                        try clear c3
                        try clear c4
                        try clear c4b0
                        try clear c5
                        try clear c6
                        try clear c6b0
                        try clear c6b1
                        try clear c7
                        try clear c7b0
                        try clear c7b1
                        try clear c9
                        try clear c9b0
                        try clear c10
                        try clear c10b0
                        try clear c11
                        try clear c11b0
                        try clear c13
                        try clear c13b0
                        try clear c14
                        try clear c14b0
                        try clear c14b1
                        try clear p14
                        try clear q14
                        try clear hx14
                        try clear hx142_0
                        try clear p142
                        try clear p2
                        try clear q142
                        obtain ⟨kq, x28_11, rfl, HA, HJ11, ⟨mc11, rfl⟩⟩ := hcut
                        cases kq with
                        | zero => exact absurd HA.out (by simp [vint_Get.j2])
                        | succ kj11 =>
                          have H := HA.out
                          clear HA
                          simp only [vint_Get.j2] at H
                          by_cases c15 : x28_11 = true
                          · subst c15
                            have H1 : (some (0, 0, 11)) = some (r1, r2, r3) := by rw [if_pos rfl] at H; exact H
                            clear H
                            have H := H1
                            clear H1
                            simp only [Option.some.injEq, Prod.mk.injEq] at H
                            obtain ⟨rfl, rfl, rfl⟩ := H
                            (go_wp2; all_goals (repeat (go_step3; go_wp2)))
                            go_ret3
                            exact ⟨by first | rfl | (simp; done) | (simp [*]; done), by repeat (first | exact Drawn0.refl _ | apply Drawn0.step)⟩
                          · replace c15 := Bool.eq_false_iff.mpr c15
                            subst c15
                            have H1 : (if (rd (l0.drop (a1 : Int).toNat) x23_2) < 128 then (if 0 ≤ (wrap64 (7 * x23_2)) then (if (rd (l0.drop (a1 : Int).toNat) x23_2) = 0 then (if x23_2 > 0 then (some (0, 0, 11)) else (if (wrap64 ((wrap64 (a1 + x23_2)) + 1)) < 0 then (some (0, 0, 10)) else (some (Go.bits .or .u64 x7_2 (shl .u64 (IntKind.u64.wrap ((rd (l0.drop (a1 : Int).toNat) x23_2))) (wrap64 (7 * x23_2))), wrap64 ((wrap64 (a1 + x23_2)) + 1), 0)))) else (if (wrap64 ((wrap64 (a1 + x23_2)) + 1)) < 0 then (some (0, 0, 10)) else (some (Go.bits .or .u64 x7_2 (shl .u64 (IntKind.u64.wrap ((rd (l0.drop (a1 : Int).toNat) x23_2))) (wrap64 (7 * x23_2))), wrap64 ((wrap64 (a1 + x23_2)) + 1), 0)))) else (none)) else (if 0 ≤ (wrap64 (7 * x23_2)) then (vint_Get.l0 kj11 a1 (Go.bits .or .u64 x7_2 (shl .u64 (IntKind.u64.wrap (Go.bits .and .u8 (rd (l0.drop (a1 : Int).toNat) x23_2) 127)) (wrap64 (7 * x23_2)))) x8_2 (l0.drop (a1 : Int).toNat) ((l0.drop (a1 : Int).toNat).length : Int) (wrap64 (x23_2 + 1))) else (none))) = some (r1, r2, r3) := by rw [if_neg (show ¬ (false = true) by decide)] at H; exact H
                            clear H
                            have H := H1
                            clear H1
                            by_cases c16 : (rd (l0.drop (a1 : Int).toNat) x23_2) < 128
                            · rw [if_pos c16] at H
                              have c16b0 : decide ((rd (l0.drop (a1 : Int).toNat) x23_2) < 128) = true := decide_eq_true c16
                              clear c16
                              obtain ⟨ji17, hji17⟩ : ∃ j_ : Int, (wrap64 (7 * x23_2)) = j_ := ⟨_, rfl⟩
                              replace H : (if 0 ≤ (ji17) then (if (rd (l0.drop (a1 : Int).toNat) x23_2) = 0 then (if x23_2 > 0 then (some (0, 0, 11)) else (if (wrap64 ((wrap64 (a1 + x23_2)) + 1)) < 0 then (some (0, 0, 10)) else (some (Go.bits .or .u64 x7_2 (shl .u64 (IntKind.u64.wrap ((rd (l0.drop (a1 : Int).toNat) x23_2))) (ji17)), wrap64 ((wrap64 (a1 + x23_2)) + 1), 0)))) else (if (wrap64 ((wrap64 (a1 + x23_2)) + 1)) < 0 then (some (0, 0, 10)) else (some (Go.bits .or .u64 x7_2 (shl .u64 (IntKind.u64.wrap ((rd (l0.drop (a1 : Int).toNat) x23_2))) (ji17)), wrap64 ((wrap64 (a1 + x23_2)) + 1), 0)))) else (none)) = some (r1, r2, r3) := by first | (rw [hji17] at H; exact H) | (simp only [hji17] at H ⊢; exact H)
                              have hji17w : (IntKind.i64.wrap (7 * x23_2)) = ji17 := (i64_w _).trans hji17
                              by_cases c18 : 0 ≤ (ji17)
                              · rw [if_pos c18] at H
                                have c18b0 := eq_true c18
                                have c18b1 : decide (0 ≤ (ji17)) = true := decide_eq_true c18
                                clear c18
                                obtain ⟨ji19, hji19⟩ : ∃ j_ : Int, (shl .u64 (IntKind.u64.wrap ((rd (l0.drop (a1 : Int).toNat) x23_2))) (ji17)) = j_ := ⟨_, rfl⟩
                                replace H : (if (rd (l0.drop (a1 : Int).toNat) x23_2) = 0 then (if x23_2 > 0 then (some (0, 0, 11)) else (if (wrap64 ((wrap64 (a1 + x23_2)) + 1)) < 0 then (some (0, 0, 10)) else (some (Go.bits .or .u64 x7_2 (ji19), wrap64 ((wrap64 (a1 + x23_2)) + 1), 0)))) else (if (wrap64 ((wrap64 (a1 + x23_2)) + 1)) < 0 then (some (0, 0, 10)) else (some (Go.bits .or .u64 x7_2 (ji19), wrap64 ((wrap64 (a1 + x23_2)) + 1), 0)))) = some (r1, r2, r3) := by first | (rw [hji19] at H; exact H) | (simp only [hji19] at H ⊢; exact H)
                                have hji19_ : (IntKind.u64.wrap ((IntKind.u64.wrap ((rd (l0.drop (a1 : Int).toNat) x23_2))) * 2 ^ min (ji17).toNat 64)) = ji19 := hji19
                                have hji19z : (ji17) ≤ 64 → (IntKind.u64.wrap ((IntKind.u64.wrap ((rd (l0.drop (a1 : Int).toNat) x23_2))) * 2 ^ (ji17).toNat)) = ji19 := shl_small hji19
                                by_cases c20 : (rd (l0.drop (a1 : Int).toNat) x23_2) = 0
                                · rw [if_pos c20] at H
                                  have c20b0 : ((rd (l0.drop (a1 : Int).toNat) x23_2) == 0) = true := beq_iff_eq.mpr c20
                                  have c20b1 : ((rd (l0.drop (a1 : Int).toNat) x23_2) != 0) = false := bne_eq_false_iff_eq.mpr c20
                                  clear c20
                                  by_cases c21 : x23_2 > 0
                                  · rw [if_pos c21] at H
                                    have c21b0 : decide (0 < x23_2) = true := decide_eq_true c21
                                    clear c21
                                    simp only [Option.some.injEq, Prod.mk.injEq] at H
                                    obtain ⟨rfl, rfl, rfl⟩ := H
                                    (go_wp2; all_goals (repeat (go_step3; go_wp2)))
                                    go_ret3
                                    exact ⟨by first | rfl | (simp; done) | (simp only [← hji17, ← hji19] <;> (first | rfl | simp)) | (simp [*]; done), by repeat (first | exact Drawn0.refl _ | apply Drawn0.step)⟩
                                  · rw [if_neg c21] at H
                                    have c21b0 : decide (0 < x23_2) = false := decide_eq_false c21
                                    clear c21
                                    by_cases c22 : (wrap64 ((wrap64 (a1 + x23_2)) + 1)) < 0
                                    · rw [if_pos c22] at H
                                      have c22b0 : decide ((wrap64 ((wrap64 (a1 + x23_2)) + 1)) < 0) = true := decide_eq_true c22
                                      clear c22
                                      simp only [Option.some.injEq, Prod.mk.injEq] at H
                                      obtain ⟨rfl, rfl, rfl⟩ := H
                                      (go_wp2; all_goals (repeat (go_step3; go_wp2)))
                                      go_ret3
                                      exact ⟨by first | rfl | (simp; done) | (simp only [← hji17, ← hji19] <;> (first | rfl | simp)) | (simp [*]; done), by repeat (first | exact Drawn0.refl _ | apply Drawn0.step)⟩
                                    · rw [if_neg c22] at H
                                      have c22b0 : decide ((wrap64 ((wrap64 (a1 + x23_2)) + 1)) < 0) = false := decide_eq_false c22
                                      clear c22
                                      simp only [Option.some.injEq, Prod.mk.injEq] at H
                                      obtain ⟨rfl, rfl, rfl⟩ := H
                                      (go_wp2; all_goals (repeat (go_step3; go_wp2)))
                                      go_ret3
                                      exact ⟨by first | rfl | (simp; done) | (simp only [← hji17, ← hji19] <;> (first | rfl | simp)) | (simp [*]; done), by repeat (first | exact Drawn0.refl _ | apply Drawn0.step)⟩
                                · rw [if_neg c20] at H
                                  have c20b0 : ((rd (l0.drop (a1 : Int).toNat) x23_2) == 0) = false := beq_eq_false_iff_ne.mpr c20
                                  have c20b1 : ((rd (l0.drop (a1 : Int).toNat) x23_2) != 0) = true := bne_iff_ne.mpr c20
                                  by_cases c23 : (wrap64 ((wrap64 (a1 + x23_2)) + 1)) < 0
                                  · rw [if_pos c23] at H
                                    have c23b0 : decide ((wrap64 ((wrap64 (a1 + x23_2)) + 1)) < 0) = true := decide_eq_true c23
                                    clear c23
                                    simp only [Option.some.injEq, Prod.mk.injEq] at H
                                    obtain ⟨rfl, rfl, rfl⟩ := H
                                    (go_wp2; all_goals (repeat (go_step3; go_wp2)))
                                    go_ret3
                                    exact ⟨by first | rfl | (simp; done) | (simp only [← hji17, ← hji19] <;> (first | rfl | simp)) | (simp [*]; done), by repeat (first | exact Drawn0.refl _ | apply Drawn0.step)⟩
                                  · rw [if_neg c23] at H
                                    have c23b0 : decide ((wrap64 ((wrap64 (a1 + x23_2)) + 1)) < 0) = false := decide_eq_false c23
                                    clear c23
                                    simp only [Option.some.injEq, Prod.mk.injEq] at H
                                    obtain ⟨rfl, rfl, rfl⟩ := H
                                    (go_wp2; all_goals (repeat (go_step3; go_wp2)))
                                    go_ret3
                                    exact ⟨by first | rfl | (simp; done) | (simp only [← hji17, ← hji19] <;> (first | rfl | simp)) | (simp [*]; done), by repeat (first | exact Drawn0.refl _ | apply Drawn0.step)⟩
                              · rw [if_neg c18] at H
                                exact absurd H (by simp)
                            · rw [if_neg c16] at H
                              have c16b0 : decide ((rd (l0.drop (a1 : Int).toNat) x23_2) < 128) = false := decide_eq_false c16
                              clear c16
                              obtain ⟨ji24, hji24⟩ : ∃ j_ : Int, (wrap64 (7 * x23_2)) = j_ := ⟨_, rfl⟩
                              replace H : (if 0 ≤ (ji24) then (vint_Get.l0 kj11 a1 (Go.bits .or .u64 x7_2 (shl .u64 (IntKind.u64.wrap (Go.bits .and .u8 (rd (l0.drop (a1 : Int).toNat) x23_2) 127)) (ji24))) x8_2 (l0.drop (a1 : Int).toNat) ((l0.drop (a1 : Int).toNat).length : Int) (wrap64 (x23_2 + 1))) else (none)) = some (r1, r2, r3) := by first | (rw [hji24] at H; exact H) | (simp only [hji24] at H ⊢; exact H)
                              have hji24w : (IntKind.i64.wrap (7 * x23_2)) = ji24 := (i64_w _).trans hji24
                              by_cases c25 : 0 ≤ (ji24)
                              · rw [if_pos c25] at H
                                have c25b0 := eq_true c25
                                have c25b1 : decide (0 ≤ (ji24)) = true := decide_eq_true c25
                                clear c25
                                obtain ⟨ji26, hji26⟩ : ∃ j_ : Int, (shl .u64 (IntKind.u64.wrap (Go.bits .and .u8 (rd (l0.drop (a1 : Int).toNat) x23_2) 127)) (ji24)) = j_ := ⟨_, rfl⟩
                                replace H : (vint_Get.l0 kj11 a1 (Go.bits .or .u64 x7_2 (ji26)) x8_2 (l0.drop (a1 : Int).toNat) ((l0.drop (a1 : Int).toNat).length : Int) (wrap64 (x23_2 + 1))) = some (r1, r2, r3) := by first | (rw [hji26] at H; exact H) | (simp only [hji26] at H ⊢; exact H)
                                have hji26_ : (IntKind.u64.wrap ((IntKind.u64.wrap (Go.bits .and .u8 (rd (l0.drop (a1 : Int).toNat) x23_2) 127)) * 2 ^ min (ji24).toNat 64)) = ji26 := hji26
                                have hji26z : (ji24) ≤ 64 → (IntKind.u64.wrap ((IntKind.u64.wrap (Go.bits .and .u8 (rd (l0.drop (a1 : Int).toNat) x23_2) 127)) * 2 ^ (ji24).toNat)) = ji26 := shl_small hji26
                                have H' := Aside0.mk H
                                clear H
                                (go_wp2; all_goals (repeat (go_step3; go_wp2)))
                                go_roundg kj11
                                case measure => have := HJ2.out; have := HK2.out; have := HJ11.out; omega
                                case rel => exact ⟨(Go.bits .or .u64 x7_2 (ji26)), (x8_2), (wrap64 (x23_2 + 1)), (by first | rfl | (simp; done) | (simp only [← hji26] <;> (first | rfl | simp)) | (simp [*]; done)), (by first | rfl | (simp; done) | (simp [*]; done)), (by first | rfl | (simp; done) | (simp [*]; done)), H', ⟨by have := HJ2.out; have := HK2.out; have := HJ11.out; omega⟩, by repeat (first | exact Drawn0.refl _ | apply Drawn0.step)⟩
                              · rw [if_neg c25] at H
                                exact absurd H (by simp)
                    · rw [if_neg c11] at H
                      exact absurd H (by simp)
                  · rw [if_neg c10] at H
                    exact absurd H (by simp)
                · rw [if_neg c9] at H
                  have c9b0 : decide (x23_2 < ((l0.drop (a1 : Int).toNat).length : Int)) = false := decide_eq_false c9
                  have c9b0s := c9b0
                  try rw [List.length_drop] at c9b0s
                  clear c9
                  by_cases c27 : x8_2 < 0
                  · rw [if_pos c27] at H
                    have c27b0 : decide (x8_2 < 0) = true := decide_eq_true c27
                    clear c27
                    simp only [Option.some.injEq, Prod.mk.injEq] at H
                    obtain ⟨rfl, rfl, rfl⟩ := H
                    (go_wp2; all_goals (repeat (go_step3; go_wp2)))
                    go_ret3
                    exact ⟨by first | rfl | (simp; done) | (simp [*]; done), by repeat (first | exact Drawn0.refl _ | apply Drawn0.step)⟩
                  · rw [if_neg c27] at H
                    have c27b0 : decide (x8_2 < 0) = false := decide_eq_false c27
                    clear c27
                    simp only [Option.some.injEq, Prod.mk.injEq] at H
                    obtain ⟨rfl, rfl, rfl⟩ := H
                    (go_wp2; all_goals (repeat (go_step3; go_wp2)))
                    go_ret3
                    exact ⟨by first | rfl | (simp; done) | (simp [*]; done), by repeat (first | exact Drawn0.refl _ | apply Drawn0.step)⟩
          · rw [if_neg c7] at H
            exact absurd H (by simp)
        · rw [if_neg c6] at H
          exact absurd H (by simp)

/-! ### vint_Zag: function 32 -/
def vint_Zag.f (a0 : Int) : Option (Int) := some (Go.bits .xor .i64 (wrap64 (a0 / 2)) (wrap64 (-(wrap64 (Go.bits .and .u64 a0 1)))))
set_option maxHeartbeats 8000000 in
set_option maxRecDepth 100000 in
theorem vint_Zag.calls (a0 : Int) (r : Int) (w : World) (h : vint_Zag.f a0 = some r) :
    Calls Try.prog 32 #[.int .u64 a0] w fun e w' => e = .returned (.int .i64 r) ∧ Drawn0 w w' := by
  have H : (some (Go.bits .xor .i64 (wrap64 (a0 / 2)) (wrap64 (-(wrap64 (Go.bits .and .u64 a0 1)))))) = some r := h
  clear h
  obtain rfl := Option.some.inj H
  go_enter Try.func32, Try.ntmps32
  go_wp2
  go_ret
  exact ⟨by first | rfl | (simp; done) | (simp [*]; done), by repeat (first | exact Drawn0.refl _ | apply Drawn0.step)⟩

/-! ### vint_GetInt: function 15 -/
def vint_GetInt.f (k : Nat) (l0 : List Int) (a1 : Int) : Option (Int × Int × Int) := (vint_Get.f k l0 a1).bind fun bt143 => (if bt143.2.2 = 0 then ((vint_Zag.f bt143.1).bind fun t146 => (some (t146, bt143.2.1, 0))) else (some (0, 0, bt143.2.2)))
theorem vint_GetInt.mono : ∀ a0 a1 k, LeO (vint_GetInt.f k a0 a1) (vint_GetInt.f (k + 1) a0 a1) := by
  intro a0 a1 k
  unfold vint_GetInt.f
  repeat' first
      | (with_reducible exact vint_Get.mono _ _ _)
      | (with_reducible exact LeO.refl _)
      | (with_reducible exact LeO.none _)
      | (with_reducible refine LeO.ite ?_ ?_)
      | (with_reducible refine LeO.bind ?_ (fun _ => ?_))
      | exact vint_Get.mono _ _ _
      | exact LeO.none _
      | refine LeO.ite ?_ ?_
      | refine LeO.bind ?_ (fun _ => ?_)
set_option maxHeartbeats 8000000 in
set_option maxRecDepth 100000 in
theorem vint_GetInt.calls (k : Nat) (A0 : Option Addr) (c0 : Nat) (l0 : List Int) (a1 : Int) (r1 : Int) (r2 : Int) (r3 : Int) (w : World) (hr0 : Kd.C (Kd.int .u8) w A0 l0.length l0) (hc0 : l0.length ≤ c0) (h : vint_GetInt.f k l0 a1 = some (r1, r2, r3)) :
    Calls Try.prog 15 #[.slice A0 l0.length c0, .int .i64 a1] w fun e w' => e = .returned (.tuple #[.int .i64 r1, .int .i64 r2, .int .i64 r3]) ∧ Drawn0 w w' := by
  have HR0 := Aside0.mk hr0
  have HC0 := Aside0.mk hc0
  clear hr0 hc0
  have H : ((vint_Get.f k l0 a1).bind fun bt143 => (if bt143.2.2 = 0 then ((vint_Zag.f bt143.1).bind fun t146 => (some (t146, bt143.2.1, 0))) else (some (0, 0, bt143.2.2)))) = some (r1, r2, r3) := h
  clear h
  replace H := Option.bind_eq_some_iff.mp H
  obtain ⟨⟨t143, t144, t145⟩, A30, H⟩ := H
  replace H : (if t145 = 0 then ((vint_Zag.f t143).bind fun t146 => (some (t146, t144, 0))) else (some (0, 0, t145))) = some (r1, r2, r3) := H
  have A3 := Aside0.mk A30
  clear A30
  by_cases c4 : t145 = 0
  · rw [if_pos c4] at H
    have c4b0 : (t145 == 0) = true := beq_iff_eq.mpr c4
    have c4b1 : (t145 != 0) = false := bne_eq_false_iff_eq.mpr c4
    clear c4
    replace H := Option.bind_eq_some_iff.mp H
    obtain ⟨t146, A50, H⟩ := H
    replace H : (some (t146, t144, 0)) = some (r1, r2, r3) := H
    have A5 := Aside0.mk A50
    clear A50
    simp only [Option.some.injEq, Prod.mk.injEq] at H
    obtain ⟨rfl, rfl, rfl⟩ := H
    go_enter Try.func15, Try.ntmps15
    go_wp2_with (first | ((with_reducible refine gate_callee (f := 31) rfl ?_); refine goesL_ (some 13) rfl rfl Try.func31 (by kernel_rfl) rfl #[.slice A0 l0.length c0, .int .i64 a1] rfl (by (try simp only [List.map_toArray, List.map_cons, List.map_nil]); first | done | rfl | (simp only [List.length_drop, List.length_take]; rfl)) ?_; (with_reducible refine (vint_Get.calls k _ _ l0 a1 t143 t144 t145 _ ?side1 ?side2 A3.out).mono ?_); (case side1 => repeat (first | exact HR0.out | (with_reducible refine Kd.C_alloc ?_ _) | (with_reducible refine Kd.C_drewN ?_ _) | (with_reducible refine Kd.C_drew ?_))); (case side2 => exact HC0.out); rintro e w' ⟨rfl, ⟨nd, rfl⟩⟩; refine ⟨_, rfl, ?_⟩) | ((with_reducible refine gate_callee (f := 32) rfl ?_); refine goesL_ (some 21) rfl rfl Try.func32 (by kernel_rfl) rfl #[.int .u64 t143] rfl (by (try simp only [List.map_toArray, List.map_cons, List.map_nil]); first | done | rfl | (simp only [List.length_drop, List.length_take]; rfl)) ?_; (with_reducible refine (vint_Zag.calls t143 t146 _ A5.out).mono ?_); rintro e w' ⟨rfl, ⟨nd, rfl⟩⟩; refine ⟨_, rfl, ?_⟩))
    go_ret3
    exact ⟨by first | rfl | (simp; done) | (simp [*]; done), by repeat (first | exact Drawn0.refl _ | apply Drawn0.step)⟩
  · rw [if_neg c4] at H
    have c4b0 : (t145 == 0) = false := beq_eq_false_iff_ne.mpr c4
    have c4b1 : (t145 != 0) = true := bne_iff_ne.mpr c4
    simp only [Option.some.injEq, Prod.mk.injEq] at H
    obtain ⟨rfl, rfl, rfl⟩ := H
    go_enter Try.func15, Try.ntmps15
    go_wp2_with (first | ((with_reducible refine gate_callee (f := 31) rfl ?_); refine goesL_ (some 13) rfl rfl Try.func31 (by kernel_rfl) rfl #[.slice A0 l0.length c0, .int .i64 a1] rfl (by (try simp only [List.map_toArray, List.map_cons, List.map_nil]); first | done | rfl | (simp only [List.length_drop, List.length_take]; rfl)) ?_; (with_reducible refine (vint_Get.calls k _ _ l0 a1 t143 t144 t145 _ ?side1 ?side2 A3.out).mono ?_); (case side1 => repeat (first | exact HR0.out | (with_reducible refine Kd.C_alloc ?_ _) | (with_reducible refine Kd.C_drewN ?_ _) | (with_reducible refine Kd.C_drew ?_))); (case side2 => exact HC0.out); rintro e w' ⟨rfl, ⟨nd, rfl⟩⟩; refine ⟨_, rfl, ?_⟩))
    go_ret3
    exact ⟨by first | rfl | (simp; done) | (simp [*]; done), by repeat (first | exact Drawn0.refl _ | apply Drawn0.step)⟩

/-! ### predict_Read: function 7 -/
def predict_Read.l0 : Nat → List Int → List Int → Int → Option (List Int × Int)
  | 0, _, _, _ => none
  | k + 1, x0, x4, x5 => if x5 < (x0.length : Int) then ((vint_GetInt.f k x0 x5).bind fun bt147 => (if bt147.2.2 = 0 then (if x4.length < 17592186044416 then (predict_Read.l0 k x0 (x4 ++ [bt147.1]) bt147.2.1) else (none)) else (some (([] : List Int), bt147.2.2)))) else (some (x4, 0))
def predict_Read.f (k : Nat) (l0 : List Int) : Option (List Int × Int) := predict_Read.l0 k l0 ([] : List Int) 0
theorem predict_Read.mono_l : ∀ k, (∀ y0 y1 y2, LeO (predict_Read.l0 k y0 y1 y2) (predict_Read.l0 (k + 1) y0 y1 y2))
  | 0 => fun _ _ _ r h => by simp [predict_Read.l0] at h
  | k + 1 => by
    have ih0 := predict_Read.mono_l k
    · intro y0 y1 y2
      unfold predict_Read.l0
      repeat' first
      | (with_reducible exact ih0 _ _ _)
      | (with_reducible exact vint_GetInt.mono _ _ _)
      | (with_reducible exact LeO.refl _)
      | (with_reducible exact LeO.none _)
      | (with_reducible refine LeO.ite ?_ ?_)
      | (with_reducible refine LeO.bind ?_ (fun _ => ?_))
      | exact ih0 _ _ _
      | exact vint_GetInt.mono _ _ _
      | exact LeO.none _
      | refine LeO.ite ?_ ?_
      | refine LeO.bind ?_ (fun _ => ?_)
theorem predict_Read.mono : ∀ a0 k, LeO (predict_Read.f k a0) (predict_Read.f (k + 1) a0) := by
  intro a0 k
  have ih0 := predict_Read.mono_l k
  unfold predict_Read.f
  repeat' first
      | (with_reducible exact ih0 _ _ _)
      | (with_reducible exact vint_GetInt.mono _ _ _)
      | (with_reducible exact LeO.refl _)
      | (with_reducible exact LeO.none _)
      | (with_reducible refine LeO.ite ?_ ?_)
      | (with_reducible refine LeO.bind ?_ (fun _ => ?_))
      | exact ih0 _ _ _
      | exact vint_GetInt.mono _ _ _
      | exact LeO.none _
      | refine LeO.ite ?_ ?_
      | refine LeO.bind ?_ (fun _ => ?_)
set_option maxHeartbeats 8000000 in
set_option maxRecDepth 100000 in
theorem predict_Read.calls (k : Nat) (A0 : Option Addr) (c0 : Nat) (l0 : List Int) (r1 : List Int) (r2 : Int) (w : World) (hr0 : Kd.C (Kd.int .u8) w A0 l0.length l0) (hc0 : l0.length ≤ c0) (h : predict_Read.f k l0 = some (r1, r2)) :
    Calls Try.prog 7 #[.slice A0 l0.length c0] w fun e w' => ∃ v0_ : Value, e = .returned (.tuple #[v0_, .int .i64 r2]) ∧ Kd.R (Kd.int .i64) 3 w' w.heap.size (fun _ => True) v0_ r1 ∧ Below w.heap.size w w' := by
  have HR0 := Aside0.mk hr0
  have HC0 := Aside0.mk hc0
  clear hr0 hc0
  have HB := Aside0.mk (Below.refl w.heap.size w)
  have H : (predict_Read.l0 k l0 ([] : List Int) 0) = some (r1, r2) := h
  clear h
  have H' := Aside0.mk H
  clear H
  go_enter Try.func7, Try.ntmps7
  go_wp2
  go_loopg [4, 5] k (fun kq v4 v5 w' => ∃ (x4_1 : List Int) (x5_1 : Int), v5 = .int .i64 x5_1 ∧ Aside0 (predict_Read.l0 kq l0 x4_1 x5_1 = some (r1, r2)) ∧ Aside0 (kq ≤ k) ∧ Aside0 (Kd.R (Kd.int .i64) 3 w' w.heap.size (fun _ => True) v4 x4_1) ∧ Aside0 (Below w.heap.size w w'))
  case atStart => exact ⟨(([] : List Int)), (0), (by first | rfl | (simp; done) | (simp [*]; done)), H', ⟨Nat.le_refl _⟩, ⟨by first | exact Kd.R_nil _ _ _ _ _ | exact Kd.N_nil _ _ _ _ _ | exact Kd.V_nil _ _ _ _ _ | exact Kd.Q_nil _ _ _ _ _ | exact Kd.S_nil _ _ _ _ _⟩, ⟨by repeat (first | (with_reducible first | exact HB.out | apply below_alloc | apply pw_below_drewN | apply below_drew1) | exact HB.out)⟩⟩
  case round =>
    clear H'
    obtain ⟨x4_1, x5_1, rfl, HA, HK1, HO_4, HB⟩ := hrel
    cases gk with
    | zero => exact absurd HA.out (by simp [predict_Read.l0])
    | succ k1 =>
      have H := HA.out
      clear HA
      simp only [predict_Read.l0] at H
      by_cases c2 : x5_1 < (l0.length : Int)
      · rw [if_pos c2] at H
        have c2b0 : decide (x5_1 < (l0.length : Int)) = true := decide_eq_true c2
        clear c2
        replace H := Option.bind_eq_some_iff.mp H
        obtain ⟨⟨t147, t148, t149⟩, A30, H⟩ := H
        replace H : (if t149 = 0 then (if x4_1.length < 17592186044416 then (predict_Read.l0 k1 l0 (x4_1 ++ [t147]) t148) else (none)) else (some (([] : List Int), t149))) = some (r1, r2) := H
        have A3 := Aside0.mk A30
        clear A30
        by_cases c4 : t149 = 0
        · rw [if_pos c4] at H
          have c4b0 : (t149 == 0) = true := beq_iff_eq.mpr c4
          have c4b1 : (t149 != 0) = false := bne_eq_false_iff_eq.mpr c4
          clear c4
          by_cases c5 : x4_1.length < 17592186044416
          · rw [if_pos c5] at H
            have LMc5 := Aside0.mk c5
            clear c5
            obtain ⟨y150, hy150⟩ : ∃ y_ : List Int, y_ = (x4_1 ++ [t147]) := ⟨_, rfl⟩
            replace H : (predict_Read.l0 k1 l0 y150 t148) = some (r1, r2) := by first | (rw [hy150]; with_reducible exact H) | (have H2_ := (Option.bind_some _ _).symm.trans H; rw [hy150]; with_reducible exact H2_) | (have H2_ := (Option.bind_some _ _).symm.trans H; with_reducible exact H2_) | with_reducible exact H | (rw [hy150]; exact H) | exact H
            have Ny150 := Aside0.mk hy150
            clear hy150
            have H' := Aside0.mk H
            clear H
            go_wp2_with (first | ((with_reducible refine gate_callee (f := 15) rfl ?_); refine goesL_ (some 16) rfl rfl Try.func15 (by kernel_rfl) rfl #[.slice A0 l0.length c0, .int .i64 x5_1] rfl (by (try simp only [List.map_toArray, List.map_cons, List.map_nil]); first | done | rfl | (simp only [List.length_drop, List.length_take]; rfl)) ?_; (with_reducible refine (vint_GetInt.calls k1 _ _ l0 x5_1 t147 t148 t149 _ ?side1 ?side2 A3.out).mono ?_); (case side1 => repeat (first | exact (Kd.C_below HR0.out HB.out) | (with_reducible refine Kd.C_alloc ?_ _) | (with_reducible refine Kd.C_drewN ?_ _) | (with_reducible refine Kd.C_drew ?_))); (case side2 => exact HC0.out); rintro e w' ⟨rfl, ⟨nd, rfl⟩⟩; refine ⟨_, rfl, ?_⟩) | ((with_reducible refine gate_builtin (b := .append) (xs := #[.tmp 23, .tmp 25]) rfl ?_); at_builtin; refine Kd.R_append (Kd.int .i64) (w0 := w) w.heap.size rfl (.tmp 23) (.tmp 25) 22 3 (.int .i64 0) 8 rfl Try.underlying22 info3 rfl (by decide) (by omega) u4 x4_1 t147 [.int .i64 t147] (fun _ => True) (fun _ => False) rfl rfl ?aP (fun _ hk => hk.elim) ?aF ?aO ?aB ?aS ?aL ?_; (case aP => exact rfl); (case aB => exact (by repeat (first | (with_reducible first | exact HB.out | apply below_alloc | apply pw_below_drewN | apply below_drew1) | exact HB.out))); (case aF => exact (fun _ _ => trivial)); (case aO => exact (by (with_reducible repeat (first | apply Kd.R_alloc | apply Kd.R_drewN | apply Kd.R_drew)); exact HO_4.out)); (case aS => exact (below_size (by repeat (first | (with_reducible first | exact HB.out | apply below_alloc | apply pw_below_drewN | apply below_drew1) | exact HB.out)))); (case aL => have := LMc5.out; omega); intro v151 w6 ho hb hg hat; rw [← Ny150.out] at ho; have n0_ := Aside0.mk (hb); have n1_ := Aside0.mk (ho); clear HB; clear HO_4; have HB := n0_; have HO152 := n1_; clear n0_ n1_; clear ho hb hg hat))
            go_roundg k1
            case measure => have := HK1.out; omega
            case rel => exact ⟨(y150), (t148), (by first | rfl | (simp; done) | (simp [*]; done)), H', ⟨by have := HK1.out; omega⟩, ⟨by (with_reducible repeat (first | apply Kd.R_alloc | apply Kd.R_drewN | apply Kd.R_drew)); exact HO152.out⟩, ⟨by repeat (first | (with_reducible first | exact HB.out | apply below_alloc | apply pw_below_drewN | apply below_drew1) | exact HB.out)⟩⟩
          · rw [if_neg c5] at H
            exact absurd H (by simp)
        · rw [if_neg c4] at H
          have c4b0 : (t149 == 0) = false := beq_eq_false_iff_ne.mpr c4
          have c4b1 : (t149 != 0) = true := bne_iff_ne.mpr c4
          simp only [Option.some.injEq, Prod.mk.injEq] at H
          obtain ⟨rfl, rfl⟩ := H
          go_wp2_with (first | ((with_reducible refine gate_callee (f := 15) rfl ?_); refine goesL_ (some 16) rfl rfl Try.func15 (by kernel_rfl) rfl #[.slice A0 l0.length c0, .int .i64 x5_1] rfl (by (try simp only [List.map_toArray, List.map_cons, List.map_nil]); first | done | rfl | (simp only [List.length_drop, List.length_take]; rfl)) ?_; (with_reducible refine (vint_GetInt.calls k1 _ _ l0 x5_1 t147 t148 t149 _ ?side1 ?side2 A3.out).mono ?_); (case side1 => repeat (first | exact (Kd.C_below HR0.out HB.out) | (with_reducible refine Kd.C_alloc ?_ _) | (with_reducible refine Kd.C_drewN ?_ _) | (with_reducible refine Kd.C_drew ?_))); (case side2 => exact HC0.out); rintro e w' ⟨rfl, ⟨nd, rfl⟩⟩; refine ⟨_, rfl, ?_⟩))
          go_ret2
          exact ⟨_, by first | rfl | (simp [errW_none, errW_some] <;> rfl) | (simp [*, errW_none, errW_some] <;> rfl), by first | exact Kd.R_nil _ _ _ _ _ | exact Kd.N_nil _ _ _ _ _ | exact Kd.V_nil _ _ _ _ _ | exact Kd.Q_nil _ _ _ _ _ | exact Kd.S_nil _ _ _ _ _, by repeat (first | (with_reducible first | exact HB.out | apply below_alloc | apply pw_below_drewN | apply below_drew1) | exact HB.out)⟩
      · rw [if_neg c2] at H
        have c2b0 : decide (x5_1 < (l0.length : Int)) = false := decide_eq_false c2
        clear c2
        simp only [Option.some.injEq, Prod.mk.injEq] at H
        obtain ⟨rfl, rfl⟩ := H
        go_wp2
        go_ret2
        exact ⟨_, by first | rfl | (simp [errW_none, errW_some] <;> rfl) | (simp [*, errW_none, errW_some] <;> rfl), by (with_reducible repeat (first | apply Kd.R_alloc | apply Kd.R_drewN | apply Kd.R_drew)); exact HO_4.out, by repeat (first | (with_reducible first | exact HB.out | apply below_alloc | apply pw_below_drewN | apply below_drew1) | exact HB.out)⟩

end Go.Proofs.Ytgkncgiemfbglaa.PPrd
