-- Written for this claim by a program of this session.
import Derived.Test.YtgphhcakkoaipaaPVintx0
import Derived.Test.YtgphhcakkoaipaaPVintx1
import Derived.Test.YtgphhcakkoaipaaPVintx2
import Derived.Test.YtgphhcakkoaipaaPVintx7
namespace Go.Proofs.Ytgphhcakkoaipaa.PVint
open Go.RowKit Go.Proofs.YtgphhcakkoaipaaW.PrintWords Go.Proofs.YtgphhcakkoaipaaW.PrintLast Go.Proofs.YtgphhcakkoaipaaW.PrintMore
attribute [local go_sem] max2_int min2_int max_two min_two max_three min_three max_four min_four   -- for this text's walks alone
set_option linter.unusedVariables false
set_option linter.unusedSimpArgs false

/-! ### lapidarylaw01_VintWidths: function 11 -/
mutual
def lapidarylaw01_VintWidths.j0 : Nat → Int → List Int → Int → List Int → Int → Bool → Option (Bool)
  | 0, _, _, _, _, _, _ => none
  | k + 1, x0, x2, x7, x8, x9, x10 => if ((x9 == 0) != x10) = true then (some false) else (if x10 = true then (if ([] : List Int).length + x2.length < 140737488355328 then ((some (([] : List Int) ++ x2 : List Int)).bind fun y325 => (if y325.length + x8.length < 140737488355328 then ((some (y325 ++ x8 : List Int)).bind fun y328 => ((vint_Field.f k y328 (x2.length : Int) x7).bind fun bt331 => ((vint_Field.f k y328 (wrap64 ((x2.length : Int) + 1)) x7).bind fun bt333 => (if x7 < 8 then ((vint_Fixed.f k x0 (wrap64 (x7 + 1))).bind fun bt335 => (if (bt335.1.length : Int) = (wrap64 (x7 + 1)) then (if 0 ≤ x7 then (if x7 ≤ (bt335.1.length : Int) then ((lapidaryref00_Same.f (bt335.1.take (x7 : Int).toNat) x8).bind fun t343 => (if t343 = true then (if x7 < (bt335.1.length : Int) then (lapidarylaw01_VintWidths.j1 k x0 x7 bt331.1 bt331.2 bt333.2 ((rd bt335.1 x7) != 0)) else (none)) else (lapidarylaw01_VintWidths.j1 k x0 x7 bt331.1 bt331.2 bt333.2 true))) else (none)) else (none)) else (lapidarylaw01_VintWidths.j1 k x0 x7 bt331.1 bt331.2 bt333.2 true))) else ((lapidaryref01_Fixed.f k x0 x7).bind fun bt350 => (if bt331.1 = x0 then (if bt331.2 = 0 then (if bt333.2 = 10 then (if bt350.2 = 0 then ((lapidarylaw01_known.f k).bind fun t354 => (some t354)) else (some false)) else (some false)) else (some false)) else (some false))))))) else (none))) else (none)) else (if (x8.length : Int) = 0 then ((lapidarylaw01_known.f k).bind fun t324 => (some t324)) else (some false)))
def lapidarylaw01_VintWidths.j1 : Nat → Int → Int → Int → Int → Int → Bool → Option (Bool)
  | 0, _, _, _, _, _, _ => none
  | k + 1, x0, x7, x12, x13, x15, x106 => if x106 = true then (some false) else ((lapidaryref01_Fixed.f k x0 x7).bind fun bt345 => (if x12 = x0 then (if x13 = 0 then (if x15 = 10 then (if bt345.2 = 0 then ((lapidarylaw01_known.f k).bind fun t349 => (some t349)) else (some false)) else (some false)) else (some false)) else (some false)))
end
def lapidarylaw01_VintWidths.f (k : Nat) (a0 : Int) (a1 : Int) (l2 : List Int) : Option (Bool) := if (l2.length : Int) > 400 then ((lapidarylaw01_known.f k).bind fun t319 => (some t319)) else ((vint_Fixed.f k a0 (wrap64 (1 + (wrap64 (Int.tmod a1 8))))).bind fun bt320 => (if (wrap64 (1 + (wrap64 (Int.tmod a1 8)))) = 8 then (lapidarylaw01_VintWidths.j0 k a0 l2 (wrap64 (1 + (wrap64 (Int.tmod a1 8)))) bt320.1 bt320.2 true) else (if 0 ≤ (wrap64 (8 * (wrap64 (1 + (wrap64 (Int.tmod a1 8)))))) then (lapidarylaw01_VintWidths.j0 k a0 l2 (wrap64 (1 + (wrap64 (Int.tmod a1 8)))) bt320.1 bt320.2 (decide (a0 < (shl .u64 1 (wrap64 (8 * (wrap64 (1 + (wrap64 (Int.tmod a1 8)))))))))) else (none))))
theorem lapidarylaw01_VintWidths.mono_l : ∀ k, (∀ y0 y1 y2 y3 y4 y5, LeO (lapidarylaw01_VintWidths.j0 k y0 y1 y2 y3 y4 y5) (lapidarylaw01_VintWidths.j0 (k + 1) y0 y1 y2 y3 y4 y5)) ∧ (∀ y0 y1 y2 y3 y4 y5, LeO (lapidarylaw01_VintWidths.j1 k y0 y1 y2 y3 y4 y5) (lapidarylaw01_VintWidths.j1 (k + 1) y0 y1 y2 y3 y4 y5))
  | 0 => ⟨fun _ _ _ _ _ _ r h => by simp [lapidarylaw01_VintWidths.j0] at h, fun _ _ _ _ _ _ r h => by simp [lapidarylaw01_VintWidths.j1] at h⟩
  | k + 1 => by
    obtain ⟨ih0, ih1⟩ := lapidarylaw01_VintWidths.mono_l k
    refine ⟨?_, ?_⟩
    · intro y0 y1 y2 y3 y4 y5
      unfold lapidarylaw01_VintWidths.j0
      repeat' first
      | (with_reducible exact ih0 _ _ _ _ _ _)
      | (with_reducible exact ih1 _ _ _ _ _ _)
      | (with_reducible exact lapidarylaw01_known.mono _)
      | (with_reducible exact lapidaryref01_Fixed.mono _ _ _)
      | (with_reducible exact vint_Field.mono _ _ _ _)
      | (with_reducible exact vint_Fixed.mono _ _ _)
      | (with_reducible exact LeO.refl _)
      | (with_reducible exact LeO.none _)
      | (with_reducible refine LeO.ite ?_ ?_)
      | (with_reducible refine LeO.bind ?_ (fun _ => ?_))
      | exact ih0 _ _ _ _ _ _
      | exact ih1 _ _ _ _ _ _
      | exact lapidarylaw01_known.mono _
      | exact lapidaryref01_Fixed.mono _ _ _
      | exact vint_Field.mono _ _ _ _
      | exact vint_Fixed.mono _ _ _
      | exact LeO.none _
      | refine LeO.ite ?_ ?_
      | refine LeO.bind ?_ (fun _ => ?_)
    · intro y0 y1 y2 y3 y4 y5
      unfold lapidarylaw01_VintWidths.j1
      repeat' first
      | (with_reducible exact ih0 _ _ _ _ _ _)
      | (with_reducible exact ih1 _ _ _ _ _ _)
      | (with_reducible exact lapidarylaw01_known.mono _)
      | (with_reducible exact lapidaryref01_Fixed.mono _ _ _)
      | (with_reducible exact vint_Field.mono _ _ _ _)
      | (with_reducible exact vint_Fixed.mono _ _ _)
      | (with_reducible exact LeO.refl _)
      | (with_reducible exact LeO.none _)
      | (with_reducible refine LeO.ite ?_ ?_)
      | (with_reducible refine LeO.bind ?_ (fun _ => ?_))
      | exact ih0 _ _ _ _ _ _
      | exact ih1 _ _ _ _ _ _
      | exact lapidarylaw01_known.mono _
      | exact lapidaryref01_Fixed.mono _ _ _
      | exact vint_Field.mono _ _ _ _
      | exact vint_Fixed.mono _ _ _
      | exact LeO.none _
      | refine LeO.ite ?_ ?_
      | refine LeO.bind ?_ (fun _ => ?_)
theorem lapidarylaw01_VintWidths.mono : ∀ a0 a1 a2 k, LeO (lapidarylaw01_VintWidths.f k a0 a1 a2) (lapidarylaw01_VintWidths.f (k + 1) a0 a1 a2) := by
  intro a0 a1 a2 k
  obtain ⟨ih0, ih1⟩ := lapidarylaw01_VintWidths.mono_l k
  unfold lapidarylaw01_VintWidths.f
  repeat' first
      | (with_reducible exact ih0 _ _ _ _ _ _)
      | (with_reducible exact ih1 _ _ _ _ _ _)
      | (with_reducible exact lapidarylaw01_known.mono _)
      | (with_reducible exact lapidaryref01_Fixed.mono _ _ _)
      | (with_reducible exact vint_Field.mono _ _ _ _)
      | (with_reducible exact vint_Fixed.mono _ _ _)
      | (with_reducible exact LeO.refl _)
      | (with_reducible exact LeO.none _)
      | (with_reducible refine LeO.ite ?_ ?_)
      | (with_reducible refine LeO.bind ?_ (fun _ => ?_))
      | exact ih0 _ _ _ _ _ _
      | exact ih1 _ _ _ _ _ _
      | exact lapidarylaw01_known.mono _
      | exact lapidaryref01_Fixed.mono _ _ _
      | exact vint_Field.mono _ _ _ _
      | exact vint_Fixed.mono _ _ _
      | exact LeO.none _
      | refine LeO.ite ?_ ?_
      | refine LeO.bind ?_ (fun _ => ?_)
set_option maxHeartbeats 8000000 in
set_option maxRecDepth 100000 in
theorem lapidarylaw01_VintWidths.calls (k : Nat) (a0 : Int) (a1 : Int) (A2 : Option Addr) (c2 : Nat) (l2 : List Int) (r : Bool) (w : World) (hr2 : Kd.C (Kd.int .u8) w A2 l2.length l2) (hc2 : l2.length ≤ c2) (h : lapidarylaw01_VintWidths.f k a0 a1 l2 = some r) :
    Calls Try.prog 11 #[.int .u64 a0, .int .u8 a1, .slice A2 l2.length c2] w fun e w' => e = .returned (.bool r) ∧ Below w.heap.size w w' := by
  have HR2 := Aside0.mk hr2
  have HC2 := Aside0.mk hc2
  clear hr2 hc2
  have HB := Aside0.mk (Below.refl w.heap.size w)
  have H : (if (l2.length : Int) > 400 then ((lapidarylaw01_known.f k).bind fun t319 => (some t319)) else ((vint_Fixed.f k a0 (wrap64 (1 + (wrap64 (Int.tmod a1 8))))).bind fun bt320 => (if (wrap64 (1 + (wrap64 (Int.tmod a1 8)))) = 8 then (lapidarylaw01_VintWidths.j0 k a0 l2 (wrap64 (1 + (wrap64 (Int.tmod a1 8)))) bt320.1 bt320.2 true) else (if 0 ≤ (wrap64 (8 * (wrap64 (1 + (wrap64 (Int.tmod a1 8)))))) then (lapidarylaw01_VintWidths.j0 k a0 l2 (wrap64 (1 + (wrap64 (Int.tmod a1 8)))) bt320.1 bt320.2 (decide (a0 < (shl .u64 1 (wrap64 (8 * (wrap64 (1 + (wrap64 (Int.tmod a1 8)))))))))) else (none))))) = some r := h
  clear h
  by_cases c4 : (l2.length : Int) > 400
  · rw [if_pos c4] at H
    have c4b0 : decide (400 < (l2.length : Int)) = true := decide_eq_true c4
    have c4b1 : decide (400 < l2.length) = true := decide_eq_true (by omega)
    clear c4
    replace H := Option.bind_eq_some_iff.mp H
    obtain ⟨t319, A50, H⟩ := H
    replace H : (some t319) = some r := H
    have A5 := Aside0.mk A50
    clear A50
    obtain rfl := Option.some.inj H
    go_enter Try.func11, Try.ntmps11
    go_wp2_with (first | ((with_reducible refine gate_callee (f := 12) rfl ?_); refine goesL_ (some 27) rfl rfl Try.func12 (by kernel_rfl) rfl #[] rfl (by (try simp only [List.map_toArray, List.map_cons, List.map_nil]); first | done | rfl | (simp only [List.length_drop, List.length_take]; rfl)) ?_; (with_reducible refine (lapidarylaw01_known.calls k  t319 _ A5.out).mono ?_); rintro e w6 ⟨rfl, hb⟩; refine ⟨_, rfl, ?_⟩; have n0_ := Aside0.mk (below_step (by repeat (first | (with_reducible first | exact HB.out | apply below_alloc | apply pw_below_drewN | apply below_drew1) | exact HB.out)) hb); clear HB; have HB := n0_; clear n0_; (try clear hb); (try clear hb2); (try clear hk); (try clear hi)))
    go_ret
    exact ⟨by first | rfl | (simp [errW_none, errW_some] <;> rfl) | (simp [*, errW_none, errW_some] <;> rfl), by repeat (first | (with_reducible first | exact HB.out | apply below_alloc | apply pw_below_drewN | apply below_drew1) | exact HB.out)⟩
  · rw [if_neg c4] at H
    have c4b0 : decide (400 < (l2.length : Int)) = false := decide_eq_false c4
    have c4b1 : decide (400 < l2.length) = false := decide_eq_false (by omega)
    clear c4
    replace H := Option.bind_eq_some_iff.mp H
    obtain ⟨⟨t320, t321⟩, A70, H⟩ := H
    replace H : (if (wrap64 (1 + (wrap64 (Int.tmod a1 8)))) = 8 then (lapidarylaw01_VintWidths.j0 k a0 l2 (wrap64 (1 + (wrap64 (Int.tmod a1 8)))) t320 t321 true) else (if 0 ≤ (wrap64 (8 * (wrap64 (1 + (wrap64 (Int.tmod a1 8)))))) then (lapidarylaw01_VintWidths.j0 k a0 l2 (wrap64 (1 + (wrap64 (Int.tmod a1 8)))) t320 t321 (decide (a0 < (shl .u64 1 (wrap64 (8 * (wrap64 (1 + (wrap64 (Int.tmod a1 8)))))))))) else (none))) = some r := H
    have A7 := Aside0.mk A70
    clear A70
    have HC8 := Aside0.mk H
    clear H
    go_enter Try.func11, Try.ntmps11
    go_upto_region 5 with (first | ((with_reducible refine gate_callee (f := 28) rfl ?_); refine goesL_ (some 31) rfl rfl Try.func28 (by kernel_rfl) rfl #[.int .u64 a0, .int .i64 (wrap64 (1 + (wrap64 (Int.tmod a1 8))))] rfl (by (try simp only [List.map_toArray, List.map_cons, List.map_nil]); first | done | rfl | (simp only [List.length_drop, List.length_take]; rfl)) ?_; (with_reducible refine (vint_Fixed.calls k a0 (wrap64 (1 + (wrap64 (Int.tmod a1 8)))) t320 t321 _ A7.out).mono ?_); rintro e w9 ⟨v322, rfl, ho0, hb⟩; refine ⟨_, rfl, ?_⟩; have n0_ := Aside0.mk (Kd.R_lower ho0 (below_size (by repeat (first | (with_reducible first | exact HB.out | apply below_alloc | apply pw_below_drewN | apply below_drew1) | exact HB.out)))); have n1_ := Aside0.mk (below_step (by repeat (first | (with_reducible first | exact HB.out | apply below_alloc | apply pw_below_drewN | apply below_drew1) | exact HB.out)) hb); clear HB; have HO323 := n0_; have HB := n1_; clear n0_ n1_; (try clear hb); (try clear hb2); (try clear hk); (try clear hi); (try clear ho0)))
    (try simp only [Act.put, List.setIfInBounds_toArray, List.set_cons_zero, List.set_cons_succ])
    go_cut [10] (fun v10 wc => ∃ (kq : Nat) (x10_7 : Bool), v10 = .bool x10_7 ∧ Aside0 (lapidarylaw01_VintWidths.j0 kq a0 l2 (wrap64 (1 + (wrap64 (Int.tmod a1 8)))) t320 t321 x10_7 = some r) ∧ Aside0 (kq ≤ k) ∧ Aside0 (Kd.R (Kd.int .u8) 5 wc w.heap.size (fun _ => True) v322 t320) ∧ Aside0 (Below w.heap.size w wc))
    case first =>
      have H := HC8.out
      clear HC8
      by_cases c10 : (wrap64 (1 + (wrap64 (Int.tmod a1 8)))) = 8
      · rw [if_pos c10] at H
        have c10b0 : ((wrap64 (1 + (wrap64 (Int.tmod a1 8)))) == 8) = true := beq_iff_eq.mpr c10
        have c10b1 : ((wrap64 (1 + (wrap64 (Int.tmod a1 8)))) != 8) = false := bne_eq_false_iff_eq.mpr c10
        clear c10
        (first | rw [c10b0] | (simp only [i64_w, i32_w]; rw [c10b0]) | skip)
        have H' := Aside0.mk H
        clear H
        go_wp2
        go_meet
        case rel => exact ⟨_, (true), (by first | rfl | (simp; done) | (simp [*]; done)), H', ⟨by first | omega | exact Nat.le_refl _⟩, ⟨by (with_reducible repeat (first | apply Kd.R_alloc | apply Kd.R_drewN | apply Kd.R_drew)); exact HO323.out⟩, ⟨by repeat (first | (with_reducible first | exact HB.out | apply below_alloc | apply pw_below_drewN | apply below_drew1) | exact HB.out)⟩⟩
      · rw [if_neg c10] at H
        have c10b0 : ((wrap64 (1 + (wrap64 (Int.tmod a1 8)))) == 8) = false := beq_eq_false_iff_ne.mpr c10
        have c10b1 : ((wrap64 (1 + (wrap64 (Int.tmod a1 8)))) != 8) = true := bne_iff_ne.mpr c10
        (first | rw [c10b0] | (simp only [i64_w, i32_w]; rw [c10b0]) | skip)
        obtain ⟨ji11, hji11⟩ : ∃ j_ : Int, (wrap64 (8 * (wrap64 (1 + (wrap64 (Int.tmod a1 8)))))) = j_ := ⟨_, rfl⟩
        replace H : (if 0 ≤ (ji11) then (lapidarylaw01_VintWidths.j0 k a0 l2 (wrap64 (1 + (wrap64 (Int.tmod a1 8)))) t320 t321 (decide (a0 < (shl .u64 1 (ji11))))) else (none)) = some r := by first | (rw [hji11] at H; exact H) | (simp only [hji11] at H ⊢; exact H)
        have hji11w : (IntKind.i64.wrap (8 * (wrap64 (1 + (wrap64 (Int.tmod a1 8)))))) = ji11 := (i64_w _).trans hji11
        by_cases c12 : 0 ≤ (ji11)
        · rw [if_pos c12] at H
          have c12b0 := eq_true c12
          have c12b1 : decide (0 ≤ (ji11)) = true := decide_eq_true c12
          clear c12
          obtain ⟨ji13, hji13⟩ : ∃ j_ : Int, (shl .u64 1 (ji11)) = j_ := ⟨_, rfl⟩
          replace H : (lapidarylaw01_VintWidths.j0 k a0 l2 (wrap64 (1 + (wrap64 (Int.tmod a1 8)))) t320 t321 (decide (a0 < (ji13)))) = some r := by first | (rw [hji13] at H; exact H) | (simp only [hji13] at H ⊢; exact H)
          have hji13_ : (IntKind.u64.wrap (1 * 2 ^ min (ji11).toNat 64)) = ji13 := hji13
          have hji13z : (ji11) ≤ 64 → (IntKind.u64.wrap (1 * 2 ^ (ji11).toNat)) = ji13 := shl_small hji13
          have hji13u : (IntKind.u64.wrap (2 ^ min (ji11).toNat 64)) = ji13 := by have h_ := hji13_; rw [Int.one_mul] at h_; exact h_
          have hji13v : (ji11) ≤ 64 → (IntKind.u64.wrap (2 ^ (ji11).toNat)) = ji13 := fun hle_ => by have h_ := hji13z hle_; rw [Int.one_mul] at h_; exact h_
          have H' := Aside0.mk H
          clear H
          go_wp2
          go_meet
          case rel => exact ⟨_, (decide (a0 < (ji13))), (by first | rfl | (simp; done) | (simp only [← hji13] <;> (first | rfl | simp)) | (simp [*]; done)), H', ⟨by first | omega | exact Nat.le_refl _⟩, ⟨by (with_reducible repeat (first | apply Kd.R_alloc | apply Kd.R_drewN | apply Kd.R_drew)); exact HO323.out⟩, ⟨by repeat (first | (with_reducible first | exact HB.out | apply below_alloc | apply pw_below_drewN | apply below_drew1) | exact HB.out)⟩⟩
        · rw [if_neg c12] at H
          exact absurd H (by simp)
    case rest =>
      clear HC8
      try clear c1
      try clear c2
      try clear p2
      try clear c4
      try clear c4b0
      try clear c4b1
      try clear p6
      try clear c10
      try clear c10b0
      try clear c10b1
      try clear c11
      try clear c12
      try clear c12b0
      try clear c12b1
      obtain ⟨kq, x10_7, rfl, HA, HJ7, HO_8, HB⟩ := hcut
      cases kq with
      | zero => exact absurd HA.out (by simp [lapidarylaw01_VintWidths.j0])
      | succ kj7 =>
        have H := HA.out
        clear HA
        simp only [lapidarylaw01_VintWidths.j0] at H
        by_cases c14 : ((t321 == 0) != x10_7) = true
        · rw [if_pos c14] at H
          have c14b0 : ((t321 == 0) != x10_7) = true := c14
          (try (have c14b1 : decide ((t321 == 0) = x10_7) = false := by simpa using c14))
          (try (have c14b2 : ((t321 == 0) == x10_7) = false := by simpa using c14))
          (try (have c14b3 : ¬ ((t321 == 0) = x10_7) := by simpa using c14))
          clear c14
          obtain rfl := Option.some.inj H
          go_wp2
          go_ret
          exact ⟨by first | rfl | (simp [errW_none, errW_some] <;> rfl) | (simp [*, errW_none, errW_some] <;> rfl), by repeat (first | (with_reducible first | exact HB.out | apply below_alloc | apply pw_below_drewN | apply below_drew1) | exact HB.out)⟩
        · rw [if_neg c14] at H
          have c14b0 : ((t321 == 0) != x10_7) = false := by simpa using c14
          (try (have c14b1 : decide ((t321 == 0) = x10_7) = true := by simpa using c14))
          (try (have c14b2 : ((t321 == 0) == x10_7) = true := by simpa using c14))
          clear c14
          by_cases c15 : x10_7 = true
          · subst c15
            have H1 : (if ([] : List Int).length + l2.length < 140737488355328 then ((some (([] : List Int) ++ l2 : List Int)).bind fun y325 => (if y325.length + t320.length < 140737488355328 then ((some (y325 ++ t320 : List Int)).bind fun y328 => ((vint_Field.f kj7 y328 (l2.length : Int) (wrap64 (1 + (wrap64 (Int.tmod a1 8))))).bind fun bt331 => ((vint_Field.f kj7 y328 (wrap64 ((l2.length : Int) + 1)) (wrap64 (1 + (wrap64 (Int.tmod a1 8))))).bind fun bt333 => (if (wrap64 (1 + (wrap64 (Int.tmod a1 8)))) < 8 then ((vint_Fixed.f kj7 a0 (wrap64 ((wrap64 (1 + (wrap64 (Int.tmod a1 8)))) + 1))).bind fun bt335 => (if (bt335.1.length : Int) = (wrap64 ((wrap64 (1 + (wrap64 (Int.tmod a1 8)))) + 1)) then (if 0 ≤ (wrap64 (1 + (wrap64 (Int.tmod a1 8)))) then (if (wrap64 (1 + (wrap64 (Int.tmod a1 8)))) ≤ (bt335.1.length : Int) then ((lapidaryref00_Same.f (bt335.1.take ((wrap64 (1 + (wrap64 (Int.tmod a1 8)))) : Int).toNat) t320).bind fun t343 => (if t343 = true then (if (wrap64 (1 + (wrap64 (Int.tmod a1 8)))) < (bt335.1.length : Int) then (lapidarylaw01_VintWidths.j1 kj7 a0 (wrap64 (1 + (wrap64 (Int.tmod a1 8)))) bt331.1 bt331.2 bt333.2 ((rd bt335.1 (wrap64 (1 + (wrap64 (Int.tmod a1 8))))) != 0)) else (none)) else (lapidarylaw01_VintWidths.j1 kj7 a0 (wrap64 (1 + (wrap64 (Int.tmod a1 8)))) bt331.1 bt331.2 bt333.2 true))) else (none)) else (none)) else (lapidarylaw01_VintWidths.j1 kj7 a0 (wrap64 (1 + (wrap64 (Int.tmod a1 8)))) bt331.1 bt331.2 bt333.2 true))) else ((lapidaryref01_Fixed.f kj7 a0 (wrap64 (1 + (wrap64 (Int.tmod a1 8))))).bind fun bt350 => (if bt331.1 = a0 then (if bt331.2 = 0 then (if bt333.2 = 10 then (if bt350.2 = 0 then ((lapidarylaw01_known.f kj7).bind fun t354 => (some t354)) else (some false)) else (some false)) else (some false)) else (some false))))))) else (none))) else (none)) = some r := by rw [if_pos rfl] at H; exact H
            clear H
            have H := H1
            clear H1
            by_cases c16 : ([] : List Int).length + l2.length < 140737488355328
            · rw [if_pos c16] at H
              have LMc16 := Aside0.mk c16
              clear c16
              obtain ⟨y325, hy325⟩ : ∃ y_ : List Int, y_ = (([] : List Int) ++ l2) := ⟨_, rfl⟩
              replace H : (if y325.length + t320.length < 140737488355328 then ((some (y325 ++ t320 : List Int)).bind fun y328 => ((vint_Field.f kj7 y328 (l2.length : Int) (wrap64 (1 + (wrap64 (Int.tmod a1 8))))).bind fun bt331 => ((vint_Field.f kj7 y328 (wrap64 ((l2.length : Int) + 1)) (wrap64 (1 + (wrap64 (Int.tmod a1 8))))).bind fun bt333 => (if (wrap64 (1 + (wrap64 (Int.tmod a1 8)))) < 8 then ((vint_Fixed.f kj7 a0 (wrap64 ((wrap64 (1 + (wrap64 (Int.tmod a1 8)))) + 1))).bind fun bt335 => (if (bt335.1.length : Int) = (wrap64 ((wrap64 (1 + (wrap64 (Int.tmod a1 8)))) + 1)) then (if 0 ≤ (wrap64 (1 + (wrap64 (Int.tmod a1 8)))) then (if (wrap64 (1 + (wrap64 (Int.tmod a1 8)))) ≤ (bt335.1.length : Int) then ((lapidaryref00_Same.f (bt335.1.take ((wrap64 (1 + (wrap64 (Int.tmod a1 8)))) : Int).toNat) t320).bind fun t343 => (if t343 = true then (if (wrap64 (1 + (wrap64 (Int.tmod a1 8)))) < (bt335.1.length : Int) then (lapidarylaw01_VintWidths.j1 kj7 a0 (wrap64 (1 + (wrap64 (Int.tmod a1 8)))) bt331.1 bt331.2 bt333.2 ((rd bt335.1 (wrap64 (1 + (wrap64 (Int.tmod a1 8))))) != 0)) else (none)) else (lapidarylaw01_VintWidths.j1 kj7 a0 (wrap64 (1 + (wrap64 (Int.tmod a1 8)))) bt331.1 bt331.2 bt333.2 true))) else (none)) else (none)) else (lapidarylaw01_VintWidths.j1 kj7 a0 (wrap64 (1 + (wrap64 (Int.tmod a1 8)))) bt331.1 bt331.2 bt333.2 true))) else ((lapidaryref01_Fixed.f kj7 a0 (wrap64 (1 + (wrap64 (Int.tmod a1 8))))).bind fun bt350 => (if bt331.1 = a0 then (if bt331.2 = 0 then (if bt333.2 = 10 then (if bt350.2 = 0 then ((lapidarylaw01_known.f kj7).bind fun t354 => (some t354)) else (some false)) else (some false)) else (some false)) else (some false))))))) else (none)) = some r := by first | (rw [hy325]; with_reducible exact H) | (have H2_ := (Option.bind_some _ _).symm.trans H; rw [hy325]; with_reducible exact H2_) | (have H2_ := (Option.bind_some _ _).symm.trans H; with_reducible exact H2_) | with_reducible exact H | (rw [hy325]; exact H) | exact H
              have Ny325 := Aside0.mk hy325
              clear hy325
              by_cases c17 : y325.length + t320.length < 140737488355328
              · rw [if_pos c17] at H
                have LMc17 := Aside0.mk c17
                clear c17
                obtain ⟨y328, hy328⟩ : ∃ y_ : List Int, y_ = (y325 ++ t320) := ⟨_, rfl⟩
                replace H : ((vint_Field.f kj7 y328 (l2.length : Int) (wrap64 (1 + (wrap64 (Int.tmod a1 8))))).bind fun bt331 => ((vint_Field.f kj7 y328 (wrap64 ((l2.length : Int) + 1)) (wrap64 (1 + (wrap64 (Int.tmod a1 8))))).bind fun bt333 => (if (wrap64 (1 + (wrap64 (Int.tmod a1 8)))) < 8 then ((vint_Fixed.f kj7 a0 (wrap64 ((wrap64 (1 + (wrap64 (Int.tmod a1 8)))) + 1))).bind fun bt335 => (if (bt335.1.length : Int) = (wrap64 ((wrap64 (1 + (wrap64 (Int.tmod a1 8)))) + 1)) then (if 0 ≤ (wrap64 (1 + (wrap64 (Int.tmod a1 8)))) then (if (wrap64 (1 + (wrap64 (Int.tmod a1 8)))) ≤ (bt335.1.length : Int) then ((lapidaryref00_Same.f (bt335.1.take ((wrap64 (1 + (wrap64 (Int.tmod a1 8)))) : Int).toNat) t320).bind fun t343 => (if t343 = true then (if (wrap64 (1 + (wrap64 (Int.tmod a1 8)))) < (bt335.1.length : Int) then (lapidarylaw01_VintWidths.j1 kj7 a0 (wrap64 (1 + (wrap64 (Int.tmod a1 8)))) bt331.1 bt331.2 bt333.2 ((rd bt335.1 (wrap64 (1 + (wrap64 (Int.tmod a1 8))))) != 0)) else (none)) else (lapidarylaw01_VintWidths.j1 kj7 a0 (wrap64 (1 + (wrap64 (Int.tmod a1 8)))) bt331.1 bt331.2 bt333.2 true))) else (none)) else (none)) else (lapidarylaw01_VintWidths.j1 kj7 a0 (wrap64 (1 + (wrap64 (Int.tmod a1 8)))) bt331.1 bt331.2 bt333.2 true))) else ((lapidaryref01_Fixed.f kj7 a0 (wrap64 (1 + (wrap64 (Int.tmod a1 8))))).bind fun bt350 => (if bt331.1 = a0 then (if bt331.2 = 0 then (if bt333.2 = 10 then (if bt350.2 = 0 then ((lapidarylaw01_known.f kj7).bind fun t354 => (some t354)) else (some false)) else (some false)) else (some false)) else (some false)))))) = some r := by first | (rw [hy328]; with_reducible exact H) | (have H2_ := (Option.bind_some _ _).symm.trans H; rw [hy328]; with_reducible exact H2_) | (have H2_ := (Option.bind_some _ _).symm.trans H; with_reducible exact H2_) | with_reducible exact H | (rw [hy328]; exact H) | exact H
                have Ny328 := Aside0.mk hy328
                clear hy328
                replace H := Option.bind_eq_some_iff.mp H
                obtain ⟨⟨t331, t332⟩, A180, H⟩ := H
                replace H : ((vint_Field.f kj7 y328 (wrap64 ((l2.length : Int) + 1)) (wrap64 (1 + (wrap64 (Int.tmod a1 8))))).bind fun bt333 => (if (wrap64 (1 + (wrap64 (Int.tmod a1 8)))) < 8 then ((vint_Fixed.f kj7 a0 (wrap64 ((wrap64 (1 + (wrap64 (Int.tmod a1 8)))) + 1))).bind fun bt335 => (if (bt335.1.length : Int) = (wrap64 ((wrap64 (1 + (wrap64 (Int.tmod a1 8)))) + 1)) then (if 0 ≤ (wrap64 (1 + (wrap64 (Int.tmod a1 8)))) then (if (wrap64 (1 + (wrap64 (Int.tmod a1 8)))) ≤ (bt335.1.length : Int) then ((lapidaryref00_Same.f (bt335.1.take ((wrap64 (1 + (wrap64 (Int.tmod a1 8)))) : Int).toNat) t320).bind fun t343 => (if t343 = true then (if (wrap64 (1 + (wrap64 (Int.tmod a1 8)))) < (bt335.1.length : Int) then (lapidarylaw01_VintWidths.j1 kj7 a0 (wrap64 (1 + (wrap64 (Int.tmod a1 8)))) t331 t332 bt333.2 ((rd bt335.1 (wrap64 (1 + (wrap64 (Int.tmod a1 8))))) != 0)) else (none)) else (lapidarylaw01_VintWidths.j1 kj7 a0 (wrap64 (1 + (wrap64 (Int.tmod a1 8)))) t331 t332 bt333.2 true))) else (none)) else (none)) else (lapidarylaw01_VintWidths.j1 kj7 a0 (wrap64 (1 + (wrap64 (Int.tmod a1 8)))) t331 t332 bt333.2 true))) else ((lapidaryref01_Fixed.f kj7 a0 (wrap64 (1 + (wrap64 (Int.tmod a1 8))))).bind fun bt350 => (if t331 = a0 then (if t332 = 0 then (if bt333.2 = 10 then (if bt350.2 = 0 then ((lapidarylaw01_known.f kj7).bind fun t354 => (some t354)) else (some false)) else (some false)) else (some false)) else (some false))))) = some r := H
                have A18 := Aside0.mk A180
                clear A180
                replace H := Option.bind_eq_some_iff.mp H
                obtain ⟨⟨t333, t334⟩, A190, H⟩ := H
                replace H : (if (wrap64 (1 + (wrap64 (Int.tmod a1 8)))) < 8 then ((vint_Fixed.f kj7 a0 (wrap64 ((wrap64 (1 + (wrap64 (Int.tmod a1 8)))) + 1))).bind fun bt335 => (if (bt335.1.length : Int) = (wrap64 ((wrap64 (1 + (wrap64 (Int.tmod a1 8)))) + 1)) then (if 0 ≤ (wrap64 (1 + (wrap64 (Int.tmod a1 8)))) then (if (wrap64 (1 + (wrap64 (Int.tmod a1 8)))) ≤ (bt335.1.length : Int) then ((lapidaryref00_Same.f (bt335.1.take ((wrap64 (1 + (wrap64 (Int.tmod a1 8)))) : Int).toNat) t320).bind fun t343 => (if t343 = true then (if (wrap64 (1 + (wrap64 (Int.tmod a1 8)))) < (bt335.1.length : Int) then (lapidarylaw01_VintWidths.j1 kj7 a0 (wrap64 (1 + (wrap64 (Int.tmod a1 8)))) t331 t332 t334 ((rd bt335.1 (wrap64 (1 + (wrap64 (Int.tmod a1 8))))) != 0)) else (none)) else (lapidarylaw01_VintWidths.j1 kj7 a0 (wrap64 (1 + (wrap64 (Int.tmod a1 8)))) t331 t332 t334 true))) else (none)) else (none)) else (lapidarylaw01_VintWidths.j1 kj7 a0 (wrap64 (1 + (wrap64 (Int.tmod a1 8)))) t331 t332 t334 true))) else ((lapidaryref01_Fixed.f kj7 a0 (wrap64 (1 + (wrap64 (Int.tmod a1 8))))).bind fun bt350 => (if t331 = a0 then (if t332 = 0 then (if t334 = 10 then (if bt350.2 = 0 then ((lapidarylaw01_known.f kj7).bind fun t354 => (some t354)) else (some false)) else (some false)) else (some false)) else (some false)))) = some r := H
                have A19 := Aside0.mk A190
                clear A190
                by_cases c20 : (wrap64 (1 + (wrap64 (Int.tmod a1 8)))) < 8
                · rw [if_pos c20] at H
                  have c20b0 : decide ((wrap64 (1 + (wrap64 (Int.tmod a1 8)))) < 8) = true := decide_eq_true c20
                  clear c20
                  replace H := Option.bind_eq_some_iff.mp H
                  obtain ⟨⟨t335, t336⟩, A210, H⟩ := H
                  replace H : (if (t335.length : Int) = (wrap64 ((wrap64 (1 + (wrap64 (Int.tmod a1 8)))) + 1)) then (if 0 ≤ (wrap64 (1 + (wrap64 (Int.tmod a1 8)))) then (if (wrap64 (1 + (wrap64 (Int.tmod a1 8)))) ≤ (t335.length : Int) then ((lapidaryref00_Same.f (t335.take ((wrap64 (1 + (wrap64 (Int.tmod a1 8)))) : Int).toNat) t320).bind fun t343 => (if t343 = true then (if (wrap64 (1 + (wrap64 (Int.tmod a1 8)))) < (t335.length : Int) then (lapidarylaw01_VintWidths.j1 kj7 a0 (wrap64 (1 + (wrap64 (Int.tmod a1 8)))) t331 t332 t334 ((rd t335 (wrap64 (1 + (wrap64 (Int.tmod a1 8))))) != 0)) else (none)) else (lapidarylaw01_VintWidths.j1 kj7 a0 (wrap64 (1 + (wrap64 (Int.tmod a1 8)))) t331 t332 t334 true))) else (none)) else (none)) else (lapidarylaw01_VintWidths.j1 kj7 a0 (wrap64 (1 + (wrap64 (Int.tmod a1 8)))) t331 t332 t334 true)) = some r := H
                  have A21 := Aside0.mk A210
                  clear A210
                  have HC22 := Aside0.mk H
                  clear H
                  go_upto_region 17 with (first | ((with_reducible refine gate_builtin (b := .append) (xs := #[.tmp 55, .tmp 56]) rfl ?_); at_builtin; refine Kd.R_append_rows (Kd.int .u8) (w0 := w) w.heap.size rfl (.tmp 55) (.tmp 56) 24 5 (.int .u8 0) 1 rfl Try.underlying24 info5 rfl (by decide) (by omega) (.slice none 0 0) ([] : List Int) l2 _ _ _ (fun k_ => some k_ ≠ (v322 : Value).ownBlock) (fun _ => False) rfl rfl ?aO ?aR (fun _ _ h => h) (fun _ h => h.elim) ?aF ?aB ?aS ?aL ?_; (case aR => repeat (first | exact (Kd.C_below HR2.out HB.out) | (with_reducible refine Kd.C_alloc ?_ _) | (with_reducible refine Kd.C_drewN ?_ _) | (with_reducible refine Kd.C_drew ?_))); (case aB => exact (by repeat (first | (with_reducible first | exact HB.out | apply below_alloc | apply pw_below_drewN | apply below_drew1) | exact HB.out))); (case aF => exact (fun k_ hk => Kd.fresh' (Kd.R_lt (by (with_reducible repeat (first | apply Kd.R_alloc | apply Kd.R_drewN | apply Kd.R_drew)); exact HO_8.out)) k_ hk)); (case aO => exact ((Kd.R_nil _ _ _ _ (fun k_ => some k_ ≠ (v322 : Value).ownBlock)))); (case aS => exact (below_size (by repeat (first | (with_reducible first | exact HB.out | apply below_alloc | apply pw_below_drewN | apply below_drew1) | exact HB.out)))); (case aL => have := LMc16.out; omega); intro v326 w23 ho hb hg hat; rw [← Ny325.out] at ho; have n0_ := Aside0.mk (Kd.R_after (Kd.R_apart_nil (by (with_reducible repeat (first | apply Kd.R_alloc | apply Kd.R_drewN | apply Kd.R_drew)); exact HO_8.out)) hg hat); have n1_ := Aside0.mk (hb); have n2_ := Aside0.mk (ho); clear HO_8; clear HB; have HO_8 := n0_; have HB := n1_; have HO327 := n2_; clear n0_ n1_ n2_; clear ho hb hg hat; obtain ⟨Ao25, co25, eo25⟩ := Kd.R_slice HO_8.out; subst eo25) | ((with_reducible refine gate_builtin (b := .append) (xs := #[.tmp 58, .tmp 59]) rfl ?_); at_builtin; refine Kd.R_append_rows (Kd.int .u8) (w0 := w) w.heap.size rfl (.tmp 58) (.tmp 59) 24 5 (.int .u8 0) 1 rfl Try.underlying24 info5 rfl (by decide) (by omega) v326 y325 t320 _ _ _ (fun k_ => some k_ ≠ (.slice Ao25 t320.length co25 : Value).ownBlock) (fun _ => False) rfl rfl ?aO ?aR (fun _ _ h => h) (fun _ h => h.elim) ?aF ?aB ?aS ?aL ?_; (case aR => repeat (first | exact (Kd.R_reads' HO_8.out).2.2 | (with_reducible refine Kd.C_alloc ?_ _) | (with_reducible refine Kd.C_drewN ?_ _) | (with_reducible refine Kd.C_drew ?_))); (case aB => exact (by repeat (first | (with_reducible first | exact HB.out | apply below_alloc | apply pw_below_drewN | apply below_drew1) | exact HB.out))); (case aF => exact (fun k_ hk => Kd.fresh' (Kd.R_lt (by (with_reducible repeat (first | apply Kd.R_alloc | apply Kd.R_drewN | apply Kd.R_drew)); exact HO_8.out)) k_ hk)); (case aO => exact (by (with_reducible repeat (first | apply Kd.R_alloc | apply Kd.R_drewN | apply Kd.R_drew)); exact HO327.out)); (case aS => exact (below_size (by repeat (first | (with_reducible first | exact HB.out | apply below_alloc | apply pw_below_drewN | apply below_drew1) | exact HB.out)))); (case aL => have := LMc17.out; omega); intro v329 w24 ho hb hg hat; rw [← Ny328.out] at ho; have n0_ := Aside0.mk (Kd.R_after (ok := (fun _ => True)) (by (with_reducible repeat (first | apply Kd.R_alloc | apply Kd.R_drewN | apply Kd.R_drew)); exact HO_8.out) hg hat); have n1_ := Aside0.mk (hb); have n2_ := Aside0.mk (ho); clear HO_8; clear HB; clear HO327; have HO_8 := n0_; have HB := n1_; have HO330 := n2_; clear n0_ n1_ n2_; clear ho hb hg hat; obtain ⟨Ao26, co26, eo26⟩ := Kd.R_slice HO330.out; subst eo26) | ((with_reducible refine gate_callee (f := 30) rfl ?_); refine goesL_ (some 66) rfl rfl Try.func30 (by kernel_rfl) rfl #[.slice Ao26 y328.length co26, .int .i64 (l2.length : Int), .int .i64 (wrap64 (1 + (wrap64 (Int.tmod a1 8))))] rfl (by (try simp only [List.map_toArray, List.map_cons, List.map_nil]); first | done | rfl | (simp only [List.length_drop, List.length_take]; rfl)) ?_; (with_reducible refine (vint_Field.calls kj7 _ _ y328 (l2.length : Int) (wrap64 (1 + (wrap64 (Int.tmod a1 8)))) t331 t332 _ ?side1 ?side2 A18.out).mono ?_); (case side1 => repeat (first | exact (Kd.R_reads' HO330.out).2.2 | (with_reducible refine Kd.C_alloc ?_ _) | (with_reducible refine Kd.C_drewN ?_ _) | (with_reducible refine Kd.C_drew ?_))); (case side2 => exact (Kd.R_reads' HO330.out).2.1); rintro e w' ⟨rfl, ⟨nd, rfl⟩⟩; refine ⟨_, rfl, ?_⟩) | ((with_reducible refine gate_callee (f := 30) rfl ?_); refine goesL_ (some 75) rfl rfl Try.func30 (by kernel_rfl) rfl #[.slice Ao26 y328.length co26, .int .i64 (wrap64 ((l2.length : Int) + 1)), .int .i64 (wrap64 (1 + (wrap64 (Int.tmod a1 8))))] rfl (by (try simp only [List.map_toArray, List.map_cons, List.map_nil]); first | done | rfl | (simp only [List.length_drop, List.length_take]; rfl)) ?_; (with_reducible refine (vint_Field.calls kj7 _ _ y328 (wrap64 ((l2.length : Int) + 1)) (wrap64 (1 + (wrap64 (Int.tmod a1 8)))) t333 t334 _ ?side1 ?side2 A19.out).mono ?_); (case side1 => repeat (first | exact (Kd.R_reads' HO330.out).2.2 | (with_reducible refine Kd.C_alloc ?_ _) | (with_reducible refine Kd.C_drewN ?_ _) | (with_reducible refine Kd.C_drew ?_))); (case side2 => exact (Kd.R_reads' HO330.out).2.1); rintro e w' ⟨rfl, ⟨nd, rfl⟩⟩; refine ⟨_, rfl, ?_⟩) | ((with_reducible refine gate_callee (f := 28) rfl ?_); refine goesL_ (some 84) rfl rfl Try.func28 (by kernel_rfl) rfl #[.int .u64 a0, .int .i64 (wrap64 ((wrap64 (1 + (wrap64 (Int.tmod a1 8)))) + 1))] rfl (by (try simp only [List.map_toArray, List.map_cons, List.map_nil]); first | done | rfl | (simp only [List.length_drop, List.length_take]; rfl)) ?_; (with_reducible refine (vint_Fixed.calls kj7 a0 (wrap64 ((wrap64 (1 + (wrap64 (Int.tmod a1 8)))) + 1)) t335 t336 _ A21.out).mono ?_); rintro e w27 ⟨v337, rfl, ho0, hb⟩; refine ⟨_, rfl, ?_⟩; have n0_ := Aside0.mk (Kd.R_elder' (by (with_reducible repeat (first | apply Kd.R_alloc | apply Kd.R_drewN | apply Kd.R_drew)); exact HO_8.out) (Kd.R_base ho0) hb); have n1_ := Aside0.mk (Kd.R_elder' (by (with_reducible repeat (first | apply Kd.R_alloc | apply Kd.R_drewN | apply Kd.R_drew)); exact HO330.out) (Kd.R_base ho0) hb); have n2_ := Aside0.mk (Kd.R_lower (Kd.R_new' (Kd.R_new' ho0 (Kd.R_lt (by (with_reducible repeat (first | apply Kd.R_alloc | apply Kd.R_drewN | apply Kd.R_drew)); exact HO_8.out))) (Kd.R_lt (by (with_reducible repeat (first | apply Kd.R_alloc | apply Kd.R_drewN | apply Kd.R_drew)); exact HO330.out))) (below_size (by repeat (first | (with_reducible first | exact HB.out | apply below_alloc | apply pw_below_drewN | apply below_drew1) | exact HB.out)))); have n3_ := Aside0.mk (below_step (by repeat (first | (with_reducible first | exact HB.out | apply below_alloc | apply pw_below_drewN | apply below_drew1) | exact HB.out)) hb); clear HO_8; clear HO330; clear HB; have HO_8 := n0_; have HO330 := n1_; have HO338 := n2_; have HB := n3_; clear n0_ n1_ n2_ n3_; (try clear hb); (try clear hb2); (try clear hk); (try clear hi); (try clear ho0)))
                  (try simp only [Act.put, List.setIfInBounds_toArray, List.set_cons_zero, List.set_cons_succ])
                  go_cut [106] (fun v106 wc => ∃ (kq : Nat) (x106_21 : Bool), v106 = .bool x106_21 ∧ Aside0 (lapidarylaw01_VintWidths.j1 kq a0 (wrap64 (1 + (wrap64 (Int.tmod a1 8)))) t331 t332 t334 x106_21 = some r) ∧ Aside0 (kq ≤ kj7) ∧ Aside0 (Below w.heap.size w wc))
                  case first =>
                    have H := HC22.out
                    clear HC22
                    by_cases c28 : (t335.length : Int) = (wrap64 ((wrap64 (1 + (wrap64 (Int.tmod a1 8)))) + 1))
                    · rw [if_pos c28] at H
                      have c28b0 : ((t335.length : Int) == (wrap64 ((wrap64 (1 + (wrap64 (Int.tmod a1 8)))) + 1))) = true := beq_iff_eq.mpr c28
                      have c28b1 : ((t335.length : Int) != (wrap64 ((wrap64 (1 + (wrap64 (Int.tmod a1 8)))) + 1))) = false := bne_eq_false_iff_eq.mpr c28
                      clear c28
                      (first | rw [c28b0] | (simp only [i64_w, i32_w]; rw [c28b0]) | skip)
                      obtain ⟨ji29, hji29⟩ : ∃ j_ : Int, (wrap64 (1 + (wrap64 (Int.tmod a1 8)))) = j_ := ⟨_, rfl⟩
                      replace H : (if 0 ≤ (ji29) then (if (ji29) ≤ (t335.length : Int) then ((lapidaryref00_Same.f (t335.take ((ji29) : Int).toNat) t320).bind fun t343 => (if t343 = true then (if (ji29) < (t335.length : Int) then (lapidarylaw01_VintWidths.j1 kj7 a0 (ji29) t331 t332 t334 ((rd t335 (ji29)) != 0)) else (none)) else (lapidarylaw01_VintWidths.j1 kj7 a0 (ji29) t331 t332 t334 true))) else (none)) else (none)) = some r := by first | (rw [hji29] at H; exact H) | (simp only [hji29] at H ⊢; exact H)
                      (try rw [hji29] at c20b0)
                      (try rw [hji29] at c28b0)
                      (try rw [hji29] at c28b1)
                      have hji29w : (IntKind.i64.wrap (1 + (wrap64 (Int.tmod a1 8)))) = ji29 := (i64_w _).trans hji29
                      by_cases c30 : 0 ≤ (ji29)
                      · rw [if_pos c30] at H
                        have c30b0 := eq_true c30
                        have c30b1 : decide (0 ≤ (ji29)) = true := decide_eq_true c30
                        clear c30
                        by_cases c31 : (ji29) ≤ (t335.length : Int)
                        · rw [if_pos c31] at H
                          have c31b0 := eq_true c31
                          have c31b1 : decide ((ji29) ≤ (t335.length : Int)) = true := decide_eq_true c31
                          clear c31
                          obtain ⟨y339, hy339⟩ : ∃ y_ : List Int, y_ = (t335.take ((ji29) : Int).toNat) := ⟨_, rfl⟩
                          replace H : ((lapidaryref00_Same.f y339 t320).bind fun t343 => (if t343 = true then (if (ji29) < (t335.length : Int) then (lapidarylaw01_VintWidths.j1 kj7 a0 (ji29) t331 t332 t334 ((rd t335 (ji29)) != 0)) else (none)) else (lapidarylaw01_VintWidths.j1 kj7 a0 (ji29) t331 t332 t334 true))) = some r := by first | (rw [hy339]; with_reducible exact H) | (have H2_ := (Option.bind_some _ _).symm.trans H; rw [hy339]; with_reducible exact H2_) | (have H2_ := (Option.bind_some _ _).symm.trans H; with_reducible exact H2_) | with_reducible exact H | (rw [hy339]; exact H) | exact H
                          have Ny339 := Aside0.mk hy339
                          clear hy339
                          replace H := Option.bind_eq_some_iff.mp H
                          obtain ⟨t343, A320, H⟩ := H
                          replace H : (if t343 = true then (if (ji29) < (t335.length : Int) then (lapidarylaw01_VintWidths.j1 kj7 a0 (ji29) t331 t332 t334 ((rd t335 (ji29)) != 0)) else (none)) else (lapidarylaw01_VintWidths.j1 kj7 a0 (ji29) t331 t332 t334 true)) = some r := H
                          have A32 := Aside0.mk A320
                          clear A320
                          by_cases c33 : t343 = true
                          · subst c33
                            have H1 : (if (ji29) < (t335.length : Int) then (lapidarylaw01_VintWidths.j1 kj7 a0 (ji29) t331 t332 t334 ((rd t335 (ji29)) != 0)) else (none)) = some r := by rw [if_pos rfl] at H; exact H
                            clear H
                            have H := H1
                            clear H1
                            by_cases c34 : (ji29) < (t335.length : Int)
                            · rw [if_pos c34] at H
                              have c34b0 : decide ((ji29) < (t335.length : Int)) = true := decide_eq_true c34
                              clear c34
                              have H' := Aside0.mk H
                              clear H
                              obtain ⟨Ao35, co35, eo35⟩ := Kd.R_slice HO338.out
                              subst eo35
                              have q36 : ((ji29) : Int) ≤ ((t335.length : Int) : Int) := of_decide_eq_true (by first | (with_reducible assumption) | assumption)
                              obtain ⟨i036, hi036, _, hsz36, _⟩ := info_parts info5
                              have hroom36 : t335.length ≤ co35 := (Kd.R_reads' HO338.out).2.1
                              have hC36 : Kd.C (Kd.int .u8) _ Ao35 t335.length t335 := (Kd.R_reads' HO338.out).2.2
                              have hcut36 := cut_to (P := Try.prog) 24 5 .i64 Try.underlying24 hi036 Ao35 t335.length co35 (ji29) (of_decide_eq_true (by first | (with_reducible assumption) | assumption)) q36 hroom36
                              have hr36 := Kd.C_take (m := ((ji29) : Int).toNat) hC36 (by omega)
                              have hy36 : y339.length = ((ji29) : Int).toNat := (by rw [Ny339.out, List.length_take]; omega)
                              rw [← Ny339.out] at hr36
                              rw [← hy36] at hcut36
                              have HR342 := Aside0.mk hr36
                              have HC342 := Aside0.mk (show y339.length ≤ co35 from by omega)
                              clear hr36 hC36 hroom36 hi036 hsz36
                              have KY36 := Aside0.mk hy36
                              clear hy36
                              have KL36 := Aside0.mk (show ((ji29) : Int).toNat ≤ t335.length from by omega)
                              replace q36 := eq_true q36
                              go_wp2_with (first | (go_at_call 14; (with_reducible refine (lapidaryref00_Same.calls _ _ y339 _ _ t320 true _ ?side1 ?side2 ?side3 ?side4 A32.out).mono ?_); (case side1 => repeat (first | exact (by repeat (first | (with_reducible exact HR342.out) | (with_reducible refine Kd.C_alloc ?_ _) | (with_reducible refine Kd.C_drewN ?_ _) | (with_reducible refine Kd.C_drew ?_) | exact HR342.out)) | (with_reducible refine Kd.C_alloc ?_ _) | (with_reducible refine Kd.C_drewN ?_ _) | (with_reducible refine Kd.C_drew ?_))); (case side2 => exact HC342.out); (case side3 => repeat (first | exact (Kd.R_reads' HO_8.out).2.2 | (with_reducible refine Kd.C_alloc ?_ _) | (with_reducible refine Kd.C_drewN ?_ _) | (with_reducible refine Kd.C_drew ?_))); (case side4 => exact (Kd.R_reads' HO_8.out).2.1); rintro e w' ⟨rfl, ⟨nd, rfl⟩⟩; have p344 : 0 ≤ ((ji29) : Int) := of_decide_eq_true (by first | (with_reducible assumption) | assumption); have q344 : (ji29) < (t335.length : Int) := of_decide_eq_true (by first | (with_reducible assumption) | assumption); obtain ⟨ad344, e344, hx344_0⟩ := Kd.at_int (Kd.R_reads' HO338.out).2.2 (ji29) p344 q344; cases e344; replace p344 := eq_true p344; replace q344 := eq_true q344))
                              subst hji29
                              go_meet
                              case rel => exact ⟨_, (((rd t335 (wrap64 (1 + (wrap64 (Int.tmod a1 8))))) != 0)), (by first | rfl | (simp; done) | (simp only [← hji29] <;> (first | rfl | simp)) | (simp [*]; done)), H', ⟨by have := HJ7.out; first | omega | exact Nat.le_refl _⟩, ⟨by repeat (first | (with_reducible first | exact HB.out | apply below_alloc | apply pw_below_drewN | apply below_drew1) | exact HB.out)⟩⟩
                            · rw [if_neg c34] at H
                              exact absurd H (by simp)
                          · replace c33 := Bool.eq_false_iff.mpr c33
                            subst c33
                            have H1 : (lapidarylaw01_VintWidths.j1 kj7 a0 (ji29) t331 t332 t334 true) = some r := by rw [if_neg (show ¬ (false = true) by decide)] at H; exact H
                            clear H
                            have H := H1
                            clear H1
                            have H' := Aside0.mk H
                            clear H
                            obtain ⟨Ao37, co37, eo37⟩ := Kd.R_slice HO338.out
                            subst eo37
                            have q38 : ((ji29) : Int) ≤ ((t335.length : Int) : Int) := of_decide_eq_true (by first | (with_reducible assumption) | assumption)
                            obtain ⟨i038, hi038, _, hsz38, _⟩ := info_parts info5
                            have hroom38 : t335.length ≤ co37 := (Kd.R_reads' HO338.out).2.1
                            have hC38 : Kd.C (Kd.int .u8) _ Ao37 t335.length t335 := (Kd.R_reads' HO338.out).2.2
                            have hcut38 := cut_to (P := Try.prog) 24 5 .i64 Try.underlying24 hi038 Ao37 t335.length co37 (ji29) (of_decide_eq_true (by first | (with_reducible assumption) | assumption)) q38 hroom38
                            have hr38 := Kd.C_take (m := ((ji29) : Int).toNat) hC38 (by omega)
                            have hy38 : y339.length = ((ji29) : Int).toNat := (by rw [Ny339.out, List.length_take]; omega)
                            rw [← Ny339.out] at hr38
                            rw [← hy38] at hcut38
                            have HR342 := Aside0.mk hr38
                            have HC342 := Aside0.mk (show y339.length ≤ co37 from by omega)
                            clear hr38 hC38 hroom38 hi038 hsz38
                            have KY38 := Aside0.mk hy38
                            clear hy38
                            have KL38 := Aside0.mk (show ((ji29) : Int).toNat ≤ t335.length from by omega)
                            replace q38 := eq_true q38
                            go_wp2_with (first | (go_at_call 14; (with_reducible refine (lapidaryref00_Same.calls _ _ y339 _ _ t320 false _ ?side1 ?side2 ?side3 ?side4 A32.out).mono ?_); (case side1 => repeat (first | exact (by repeat (first | (with_reducible exact HR342.out) | (with_reducible refine Kd.C_alloc ?_ _) | (with_reducible refine Kd.C_drewN ?_ _) | (with_reducible refine Kd.C_drew ?_) | exact HR342.out)) | (with_reducible refine Kd.C_alloc ?_ _) | (with_reducible refine Kd.C_drewN ?_ _) | (with_reducible refine Kd.C_drew ?_))); (case side2 => exact HC342.out); (case side3 => repeat (first | exact (Kd.R_reads' HO_8.out).2.2 | (with_reducible refine Kd.C_alloc ?_ _) | (with_reducible refine Kd.C_drewN ?_ _) | (with_reducible refine Kd.C_drew ?_))); (case side4 => exact (Kd.R_reads' HO_8.out).2.1); rintro e w' ⟨rfl, ⟨nd, rfl⟩⟩))
                            subst hji29
                            go_meet
                            case rel => exact ⟨_, (true), (by first | rfl | (simp; done) | (simp [*]; done)), H', ⟨by have := HJ7.out; first | omega | exact Nat.le_refl _⟩, ⟨by repeat (first | (with_reducible first | exact HB.out | apply below_alloc | apply pw_below_drewN | apply below_drew1) | exact HB.out)⟩⟩
                        · rw [if_neg c31] at H
                          exact absurd H (by simp)
                      · rw [if_neg c30] at H
                        exact absurd H (by simp)
                    · rw [if_neg c28] at H
                      have c28b0 : ((t335.length : Int) == (wrap64 ((wrap64 (1 + (wrap64 (Int.tmod a1 8)))) + 1))) = false := beq_eq_false_iff_ne.mpr c28
                      have c28b1 : ((t335.length : Int) != (wrap64 ((wrap64 (1 + (wrap64 (Int.tmod a1 8)))) + 1))) = true := bne_iff_ne.mpr c28
                      (first | rw [c28b0] | (simp only [i64_w, i32_w]; rw [c28b0]) | skip)
                      have H' := Aside0.mk H
                      clear H
                      obtain ⟨Ao39, co39, eo39⟩ := Kd.R_slice HO338.out
                      subst eo39
                      go_wp2
                      go_meet
                      case rel => exact ⟨_, (true), (by first | rfl | (simp; done) | (simp [*]; done)), H', ⟨by have := HJ7.out; first | omega | exact Nat.le_refl _⟩, ⟨by repeat (first | (with_reducible first | exact HB.out | apply below_alloc | apply pw_below_drewN | apply below_drew1) | exact HB.out)⟩⟩
                  case rest =>
                    clear HC22
                    try clear c1
                    try clear c2
                    try clear p2
                    try clear c3
                    try clear p3
                    try clear q3
                    try clear hx3
                    try clear c4
                    try clear c4b0
                    try clear c4b1
                    try clear p6
                    try clear c10
                    try clear c10b0
                    try clear c10b1
                    try clear c11
                    try clear c12
                    try clear c12b0
                    try clear c12b1
                    try clear c14
                    try clear c14b0
                    try clear c14b1
                    try clear c14b2
                    try clear c15
                    try clear c16
                    try clear c17
                    try clear c20
                    try clear c20b0
                    try clear c28
                    try clear c28b0
                    try clear c28b1
                    try clear c30
                    try clear c30b0
                    try clear c30b1
                    try clear c31
                    try clear c31b0
                    try clear c31b1
                    try clear c33
                    try clear c34
                    try clear c34b0
                    try clear p34
                    try clear q34
                    try clear hx34
                    try clear q36
                    try clear q38
                    try clear hx344_0
                    try clear p2
                    try clear p344
                    try clear p6
                    try clear q344
                    try clear q36
                    try clear q38
                    obtain ⟨kq, x106_21, rfl, HA, HJ21, HB⟩ := hcut
                    cases kq with
                    | zero => exact absurd HA.out (by simp [lapidarylaw01_VintWidths.j1])
                    | succ kj21 =>
                      have H := HA.out
                      clear HA
                      simp only [lapidarylaw01_VintWidths.j1] at H
                      by_cases c40 : x106_21 = true
                      · subst c40
                        have H1 : (some false) = some r := by rw [if_pos rfl] at H; exact H
                        clear H
                        have H := H1
                        clear H1
                        obtain rfl := Option.some.inj H
                        go_wp2
                        go_ret
                        exact ⟨by first | rfl | (simp [errW_none, errW_some] <;> rfl) | (simp [*, errW_none, errW_some] <;> rfl), by repeat (first | (with_reducible first | exact HB.out | apply below_alloc | apply pw_below_drewN | apply below_drew1) | exact HB.out)⟩
                      · replace c40 := Bool.eq_false_iff.mpr c40
                        subst c40
                        have H1 : ((lapidaryref01_Fixed.f kj21 a0 (wrap64 (1 + (wrap64 (Int.tmod a1 8))))).bind fun bt345 => (if t331 = a0 then (if t332 = 0 then (if t334 = 10 then (if bt345.2 = 0 then ((lapidarylaw01_known.f kj21).bind fun t349 => (some t349)) else (some false)) else (some false)) else (some false)) else (some false))) = some r := by rw [if_neg (show ¬ (false = true) by decide)] at H; exact H
                        clear H
                        have H := H1
                        clear H1
                        replace H := Option.bind_eq_some_iff.mp H
                        obtain ⟨⟨t345, t346⟩, A410, H⟩ := H
                        replace H : (if t331 = a0 then (if t332 = 0 then (if t334 = 10 then (if t346 = 0 then ((lapidarylaw01_known.f kj21).bind fun t349 => (some t349)) else (some false)) else (some false)) else (some false)) else (some false)) = some r := H
                        have A41 := Aside0.mk A410
                        clear A410
                        by_cases c42 : t331 = a0
                        · rw [if_pos c42] at H
                          have c42b0 : (t331 == a0) = true := beq_iff_eq.mpr c42
                          have c42b1 : (t331 != a0) = false := bne_eq_false_iff_eq.mpr c42
                          clear c42
                          by_cases c43 : t332 = 0
                          · rw [if_pos c43] at H
                            have c43b0 : (t332 == 0) = true := beq_iff_eq.mpr c43
                            have c43b1 : (t332 != 0) = false := bne_eq_false_iff_eq.mpr c43
                            clear c43
                            by_cases c44 : t334 = 10
                            · rw [if_pos c44] at H
                              have c44b0 : (t334 == 10) = true := beq_iff_eq.mpr c44
                              have c44b1 : (t334 != 10) = false := bne_eq_false_iff_eq.mpr c44
                              clear c44
                              by_cases c45 : t346 = 0
                              · rw [if_pos c45] at H
                                have c45b0 : (t346 == 0) = true := beq_iff_eq.mpr c45
                                have c45b1 : (t346 != 0) = false := bne_eq_false_iff_eq.mpr c45
                                clear c45
                                replace H := Option.bind_eq_some_iff.mp H
                                obtain ⟨t349, A460, H⟩ := H
                                replace H : (some t349) = some r := H
                                have A46 := Aside0.mk A460
                                clear A460
                                obtain rfl := Option.some.inj H
                                go_wp2_with (first | ((with_reducible refine gate_callee (f := 29) rfl ?_); refine goesL_ (some 110) rfl rfl Try.func29 (by kernel_rfl) rfl #[.int .u64 a0, .int .i64 (wrap64 (1 + (wrap64 (Int.tmod a1 8))))] rfl (by (try simp only [List.map_toArray, List.map_cons, List.map_nil]); first | done | rfl | (simp only [List.length_drop, List.length_take]; rfl)) ?_; (with_reducible refine (lapidaryref01_Fixed.calls kj21 a0 (wrap64 (1 + (wrap64 (Int.tmod a1 8)))) t345 t346 _ A41.out).mono ?_); rintro e w47 ⟨v347, rfl, ho0, hb⟩; refine ⟨_, rfl, ?_⟩; have n0_ := Aside0.mk (Kd.R_lower ho0 (below_size (by repeat (first | (with_reducible first | exact HB.out | apply below_alloc | apply pw_below_drewN | apply below_drew1) | exact HB.out)))); have n1_ := Aside0.mk (below_step (by repeat (first | (with_reducible first | exact HB.out | apply below_alloc | apply pw_below_drewN | apply below_drew1) | exact HB.out)) hb); clear HB; have HO348 := n0_; have HB := n1_; clear n0_ n1_; (try clear hb); (try clear hb2); (try clear hk); (try clear hi); (try clear ho0)) | (go_at_call 12; (with_reducible refine (lapidarylaw01_known.calls kj21  t349 _ A46.out).mono ?_); rintro e w48 ⟨rfl, hb⟩; have n0_ := Aside0.mk (Kd.R_below (by (with_reducible repeat (first | apply Kd.R_alloc | apply Kd.R_drewN | apply Kd.R_drew)); exact HO348.out) hb); have n1_ := Aside0.mk (below_step (by repeat (first | (with_reducible first | exact HB.out | apply below_alloc | apply pw_below_drewN | apply below_drew1) | exact HB.out)) hb); clear HO348; clear HB; have HO348 := n0_; have HB := n1_; clear n0_ n1_; (try clear hb); (try clear hb2); (try clear hk); (try clear hi)))
                                go_ret
                                exact ⟨by first | rfl | (simp [errW_none, errW_some] <;> rfl) | (simp [*, errW_none, errW_some] <;> rfl), by repeat (first | (with_reducible first | exact HB.out | apply below_alloc | apply pw_below_drewN | apply below_drew1) | exact HB.out)⟩
                              · rw [if_neg c45] at H
                                have c45b0 : (t346 == 0) = false := beq_eq_false_iff_ne.mpr c45
                                have c45b1 : (t346 != 0) = true := bne_iff_ne.mpr c45
                                obtain rfl := Option.some.inj H
                                go_wp2_with (first | ((with_reducible refine gate_callee (f := 29) rfl ?_); refine goesL_ (some 110) rfl rfl Try.func29 (by kernel_rfl) rfl #[.int .u64 a0, .int .i64 (wrap64 (1 + (wrap64 (Int.tmod a1 8))))] rfl (by (try simp only [List.map_toArray, List.map_cons, List.map_nil]); first | done | rfl | (simp only [List.length_drop, List.length_take]; rfl)) ?_; (with_reducible refine (lapidaryref01_Fixed.calls kj21 a0 (wrap64 (1 + (wrap64 (Int.tmod a1 8)))) t345 t346 _ A41.out).mono ?_); rintro e w49 ⟨v347, rfl, ho0, hb⟩; refine ⟨_, rfl, ?_⟩; have n0_ := Aside0.mk (Kd.R_lower ho0 (below_size (by repeat (first | (with_reducible first | exact HB.out | apply below_alloc | apply pw_below_drewN | apply below_drew1) | exact HB.out)))); have n1_ := Aside0.mk (below_step (by repeat (first | (with_reducible first | exact HB.out | apply below_alloc | apply pw_below_drewN | apply below_drew1) | exact HB.out)) hb); clear HB; have HO348 := n0_; have HB := n1_; clear n0_ n1_; (try clear hb); (try clear hb2); (try clear hk); (try clear hi); (try clear ho0)))
                                go_ret
                                exact ⟨by first | rfl | (simp [errW_none, errW_some] <;> rfl) | (simp [*, errW_none, errW_some] <;> rfl), by repeat (first | (with_reducible first | exact HB.out | apply below_alloc | apply pw_below_drewN | apply below_drew1) | exact HB.out)⟩
                            · rw [if_neg c44] at H
                              have c44b0 : (t334 == 10) = false := beq_eq_false_iff_ne.mpr c44
                              have c44b1 : (t334 != 10) = true := bne_iff_ne.mpr c44
                              obtain rfl := Option.some.inj H
                              go_wp2_with (first | ((with_reducible refine gate_callee (f := 29) rfl ?_); refine goesL_ (some 110) rfl rfl Try.func29 (by kernel_rfl) rfl #[.int .u64 a0, .int .i64 (wrap64 (1 + (wrap64 (Int.tmod a1 8))))] rfl (by (try simp only [List.map_toArray, List.map_cons, List.map_nil]); first | done | rfl | (simp only [List.length_drop, List.length_take]; rfl)) ?_; (with_reducible refine (lapidaryref01_Fixed.calls kj21 a0 (wrap64 (1 + (wrap64 (Int.tmod a1 8)))) t345 t346 _ A41.out).mono ?_); rintro e w50 ⟨v347, rfl, ho0, hb⟩; refine ⟨_, rfl, ?_⟩; have n0_ := Aside0.mk (Kd.R_lower ho0 (below_size (by repeat (first | (with_reducible first | exact HB.out | apply below_alloc | apply pw_below_drewN | apply below_drew1) | exact HB.out)))); have n1_ := Aside0.mk (below_step (by repeat (first | (with_reducible first | exact HB.out | apply below_alloc | apply pw_below_drewN | apply below_drew1) | exact HB.out)) hb); clear HB; have HO348 := n0_; have HB := n1_; clear n0_ n1_; (try clear hb); (try clear hb2); (try clear hk); (try clear hi); (try clear ho0)))
                              go_ret
                              exact ⟨by first | rfl | (simp [errW_none, errW_some] <;> rfl) | (simp [*, errW_none, errW_some] <;> rfl), by repeat (first | (with_reducible first | exact HB.out | apply below_alloc | apply pw_below_drewN | apply below_drew1) | exact HB.out)⟩
                          · rw [if_neg c43] at H
                            have c43b0 : (t332 == 0) = false := beq_eq_false_iff_ne.mpr c43
                            have c43b1 : (t332 != 0) = true := bne_iff_ne.mpr c43
                            obtain rfl := Option.some.inj H
                            go_wp2_with (first | ((with_reducible refine gate_callee (f := 29) rfl ?_); refine goesL_ (some 110) rfl rfl Try.func29 (by kernel_rfl) rfl #[.int .u64 a0, .int .i64 (wrap64 (1 + (wrap64 (Int.tmod a1 8))))] rfl (by (try simp only [List.map_toArray, List.map_cons, List.map_nil]); first | done | rfl | (simp only [List.length_drop, List.length_take]; rfl)) ?_; (with_reducible refine (lapidaryref01_Fixed.calls kj21 a0 (wrap64 (1 + (wrap64 (Int.tmod a1 8)))) t345 t346 _ A41.out).mono ?_); rintro e w51 ⟨v347, rfl, ho0, hb⟩; refine ⟨_, rfl, ?_⟩; have n0_ := Aside0.mk (Kd.R_lower ho0 (below_size (by repeat (first | (with_reducible first | exact HB.out | apply below_alloc | apply pw_below_drewN | apply below_drew1) | exact HB.out)))); have n1_ := Aside0.mk (below_step (by repeat (first | (with_reducible first | exact HB.out | apply below_alloc | apply pw_below_drewN | apply below_drew1) | exact HB.out)) hb); clear HB; have HO348 := n0_; have HB := n1_; clear n0_ n1_; (try clear hb); (try clear hb2); (try clear hk); (try clear hi); (try clear ho0)))
                            go_ret
                            exact ⟨by first | rfl | (simp [errW_none, errW_some] <;> rfl) | (simp [*, errW_none, errW_some] <;> rfl), by repeat (first | (with_reducible first | exact HB.out | apply below_alloc | apply pw_below_drewN | apply below_drew1) | exact HB.out)⟩
                        · rw [if_neg c42] at H
                          have c42b0 : (t331 == a0) = false := beq_eq_false_iff_ne.mpr c42
                          have c42b1 : (t331 != a0) = true := bne_iff_ne.mpr c42
                          obtain rfl := Option.some.inj H
                          go_wp2_with (first | ((with_reducible refine gate_callee (f := 29) rfl ?_); refine goesL_ (some 110) rfl rfl Try.func29 (by kernel_rfl) rfl #[.int .u64 a0, .int .i64 (wrap64 (1 + (wrap64 (Int.tmod a1 8))))] rfl (by (try simp only [List.map_toArray, List.map_cons, List.map_nil]); first | done | rfl | (simp only [List.length_drop, List.length_take]; rfl)) ?_; (with_reducible refine (lapidaryref01_Fixed.calls kj21 a0 (wrap64 (1 + (wrap64 (Int.tmod a1 8)))) t345 t346 _ A41.out).mono ?_); rintro e w52 ⟨v347, rfl, ho0, hb⟩; refine ⟨_, rfl, ?_⟩; have n0_ := Aside0.mk (Kd.R_lower ho0 (below_size (by repeat (first | (with_reducible first | exact HB.out | apply below_alloc | apply pw_below_drewN | apply below_drew1) | exact HB.out)))); have n1_ := Aside0.mk (below_step (by repeat (first | (with_reducible first | exact HB.out | apply below_alloc | apply pw_below_drewN | apply below_drew1) | exact HB.out)) hb); clear HB; have HO348 := n0_; have HB := n1_; clear n0_ n1_; (try clear hb); (try clear hb2); (try clear hk); (try clear hi); (try clear ho0)))
                          go_ret
                          exact ⟨by first | rfl | (simp [errW_none, errW_some] <;> rfl) | (simp [*, errW_none, errW_some] <;> rfl), by repeat (first | (with_reducible first | exact HB.out | apply below_alloc | apply pw_below_drewN | apply below_drew1) | exact HB.out)⟩
                · rw [if_neg c20] at H
                  have c20b0 : decide ((wrap64 (1 + (wrap64 (Int.tmod a1 8)))) < 8) = false := decide_eq_false c20
                  clear c20
                  replace H := Option.bind_eq_some_iff.mp H
                  obtain ⟨⟨t350, t351⟩, A530, H⟩ := H
                  replace H : (if t331 = a0 then (if t332 = 0 then (if t334 = 10 then (if t351 = 0 then ((lapidarylaw01_known.f kj7).bind fun t354 => (some t354)) else (some false)) else (some false)) else (some false)) else (some false)) = some r := H
                  have A53 := Aside0.mk A530
                  clear A530
                  by_cases c54 : t331 = a0
                  · rw [if_pos c54] at H
                    have c54b0 : (t331 == a0) = true := beq_iff_eq.mpr c54
                    have c54b1 : (t331 != a0) = false := bne_eq_false_iff_eq.mpr c54
                    clear c54
                    by_cases c55 : t332 = 0
                    · rw [if_pos c55] at H
                      have c55b0 : (t332 == 0) = true := beq_iff_eq.mpr c55
                      have c55b1 : (t332 != 0) = false := bne_eq_false_iff_eq.mpr c55
                      clear c55
                      by_cases c56 : t334 = 10
                      · rw [if_pos c56] at H
                        have c56b0 : (t334 == 10) = true := beq_iff_eq.mpr c56
                        have c56b1 : (t334 != 10) = false := bne_eq_false_iff_eq.mpr c56
                        clear c56
                        by_cases c57 : t351 = 0
                        · rw [if_pos c57] at H
                          have c57b0 : (t351 == 0) = true := beq_iff_eq.mpr c57
                          have c57b1 : (t351 != 0) = false := bne_eq_false_iff_eq.mpr c57
                          clear c57
                          replace H := Option.bind_eq_some_iff.mp H
                          obtain ⟨t354, A580, H⟩ := H
                          replace H : (some t354) = some r := H
                          have A58 := Aside0.mk A580
                          clear A580
                          obtain rfl := Option.some.inj H
                          go_wp2_with (first | ((with_reducible refine gate_builtin (b := .append) (xs := #[.tmp 55, .tmp 56]) rfl ?_); at_builtin; refine Kd.R_append_rows (Kd.int .u8) (w0 := w) w.heap.size rfl (.tmp 55) (.tmp 56) 24 5 (.int .u8 0) 1 rfl Try.underlying24 info5 rfl (by decide) (by omega) (.slice none 0 0) ([] : List Int) l2 _ _ _ (fun k_ => some k_ ≠ (v322 : Value).ownBlock) (fun _ => False) rfl rfl ?aO ?aR (fun _ _ h => h) (fun _ h => h.elim) ?aF ?aB ?aS ?aL ?_; (case aR => repeat (first | exact (Kd.C_below HR2.out HB.out) | (with_reducible refine Kd.C_alloc ?_ _) | (with_reducible refine Kd.C_drewN ?_ _) | (with_reducible refine Kd.C_drew ?_))); (case aB => exact (by repeat (first | (with_reducible first | exact HB.out | apply below_alloc | apply pw_below_drewN | apply below_drew1) | exact HB.out))); (case aF => exact (fun k_ hk => Kd.fresh' (Kd.R_lt (by (with_reducible repeat (first | apply Kd.R_alloc | apply Kd.R_drewN | apply Kd.R_drew)); exact HO_8.out)) k_ hk)); (case aO => exact ((Kd.R_nil _ _ _ _ (fun k_ => some k_ ≠ (v322 : Value).ownBlock)))); (case aS => exact (below_size (by repeat (first | (with_reducible first | exact HB.out | apply below_alloc | apply pw_below_drewN | apply below_drew1) | exact HB.out)))); (case aL => have := LMc16.out; omega); intro v326 w59 ho hb hg hat; rw [← Ny325.out] at ho; have n0_ := Aside0.mk (Kd.R_after (Kd.R_apart_nil (by (with_reducible repeat (first | apply Kd.R_alloc | apply Kd.R_drewN | apply Kd.R_drew)); exact HO_8.out)) hg hat); have n1_ := Aside0.mk (hb); have n2_ := Aside0.mk (ho); clear HO_8; clear HB; have HO_8 := n0_; have HB := n1_; have HO327 := n2_; clear n0_ n1_ n2_; clear ho hb hg hat; obtain ⟨Ao61, co61, eo61⟩ := Kd.R_slice HO_8.out; subst eo61) | ((with_reducible refine gate_builtin (b := .append) (xs := #[.tmp 58, .tmp 59]) rfl ?_); at_builtin; refine Kd.R_append_rows (Kd.int .u8) (w0 := w) w.heap.size rfl (.tmp 58) (.tmp 59) 24 5 (.int .u8 0) 1 rfl Try.underlying24 info5 rfl (by decide) (by omega) v326 y325 t320 _ _ _ (fun k_ => some k_ ≠ (.slice Ao61 t320.length co61 : Value).ownBlock) (fun _ => False) rfl rfl ?aO ?aR (fun _ _ h => h) (fun _ h => h.elim) ?aF ?aB ?aS ?aL ?_; (case aR => repeat (first | exact (Kd.R_reads' HO_8.out).2.2 | (with_reducible refine Kd.C_alloc ?_ _) | (with_reducible refine Kd.C_drewN ?_ _) | (with_reducible refine Kd.C_drew ?_))); (case aB => exact (by repeat (first | (with_reducible first | exact HB.out | apply below_alloc | apply pw_below_drewN | apply below_drew1) | exact HB.out))); (case aF => exact (fun k_ hk => Kd.fresh' (Kd.R_lt (by (with_reducible repeat (first | apply Kd.R_alloc | apply Kd.R_drewN | apply Kd.R_drew)); exact HO_8.out)) k_ hk)); (case aO => exact (by (with_reducible repeat (first | apply Kd.R_alloc | apply Kd.R_drewN | apply Kd.R_drew)); exact HO327.out)); (case aS => exact (below_size (by repeat (first | (with_reducible first | exact HB.out | apply below_alloc | apply pw_below_drewN | apply below_drew1) | exact HB.out)))); (case aL => have := LMc17.out; omega); intro v329 w60 ho hb hg hat; rw [← Ny328.out] at ho; have n0_ := Aside0.mk (Kd.R_after (ok := (fun _ => True)) (by (with_reducible repeat (first | apply Kd.R_alloc | apply Kd.R_drewN | apply Kd.R_drew)); exact HO_8.out) hg hat); have n1_ := Aside0.mk (hb); have n2_ := Aside0.mk (ho); clear HO_8; clear HB; clear HO327; have HO_8 := n0_; have HB := n1_; have HO330 := n2_; clear n0_ n1_ n2_; clear ho hb hg hat; obtain ⟨Ao62, co62, eo62⟩ := Kd.R_slice HO330.out; subst eo62) | ((with_reducible refine gate_callee (f := 30) rfl ?_); refine goesL_ (some 66) rfl rfl Try.func30 (by kernel_rfl) rfl #[.slice Ao62 y328.length co62, .int .i64 (l2.length : Int), .int .i64 (wrap64 (1 + (wrap64 (Int.tmod a1 8))))] rfl (by (try simp only [List.map_toArray, List.map_cons, List.map_nil]); first | done | rfl | (simp only [List.length_drop, List.length_take]; rfl)) ?_; (with_reducible refine (vint_Field.calls kj7 _ _ y328 (l2.length : Int) (wrap64 (1 + (wrap64 (Int.tmod a1 8)))) t331 t332 _ ?side1 ?side2 A18.out).mono ?_); (case side1 => repeat (first | exact (Kd.R_reads' HO330.out).2.2 | (with_reducible refine Kd.C_alloc ?_ _) | (with_reducible refine Kd.C_drewN ?_ _) | (with_reducible refine Kd.C_drew ?_))); (case side2 => exact (Kd.R_reads' HO330.out).2.1); rintro e w' ⟨rfl, ⟨nd, rfl⟩⟩; refine ⟨_, rfl, ?_⟩) | ((with_reducible refine gate_callee (f := 30) rfl ?_); refine goesL_ (some 75) rfl rfl Try.func30 (by kernel_rfl) rfl #[.slice Ao62 y328.length co62, .int .i64 (wrap64 ((l2.length : Int) + 1)), .int .i64 (wrap64 (1 + (wrap64 (Int.tmod a1 8))))] rfl (by (try simp only [List.map_toArray, List.map_cons, List.map_nil]); first | done | rfl | (simp only [List.length_drop, List.length_take]; rfl)) ?_; (with_reducible refine (vint_Field.calls kj7 _ _ y328 (wrap64 ((l2.length : Int) + 1)) (wrap64 (1 + (wrap64 (Int.tmod a1 8)))) t333 t334 _ ?side1 ?side2 A19.out).mono ?_); (case side1 => repeat (first | exact (Kd.R_reads' HO330.out).2.2 | (with_reducible refine Kd.C_alloc ?_ _) | (with_reducible refine Kd.C_drewN ?_ _) | (with_reducible refine Kd.C_drew ?_))); (case side2 => exact (Kd.R_reads' HO330.out).2.1); rintro e w' ⟨rfl, ⟨nd, rfl⟩⟩; refine ⟨_, rfl, ?_⟩) | ((with_reducible refine gate_callee (f := 29) rfl ?_); refine goesL_ (some 110) rfl rfl Try.func29 (by kernel_rfl) rfl #[.int .u64 a0, .int .i64 (wrap64 (1 + (wrap64 (Int.tmod a1 8))))] rfl (by (try simp only [List.map_toArray, List.map_cons, List.map_nil]); first | done | rfl | (simp only [List.length_drop, List.length_take]; rfl)) ?_; (with_reducible refine (lapidaryref01_Fixed.calls kj7 a0 (wrap64 (1 + (wrap64 (Int.tmod a1 8)))) t350 t351 _ A53.out).mono ?_); rintro e w63 ⟨v352, rfl, ho0, hb⟩; refine ⟨_, rfl, ?_⟩; have n0_ := Aside0.mk (Kd.R_elder' (by (with_reducible repeat (first | apply Kd.R_alloc | apply Kd.R_drewN | apply Kd.R_drew)); exact HO_8.out) (Kd.R_base ho0) hb); have n1_ := Aside0.mk (Kd.R_elder' (by (with_reducible repeat (first | apply Kd.R_alloc | apply Kd.R_drewN | apply Kd.R_drew)); exact HO330.out) (Kd.R_base ho0) hb); have n2_ := Aside0.mk (Kd.R_lower (Kd.R_new' (Kd.R_new' ho0 (Kd.R_lt (by (with_reducible repeat (first | apply Kd.R_alloc | apply Kd.R_drewN | apply Kd.R_drew)); exact HO_8.out))) (Kd.R_lt (by (with_reducible repeat (first | apply Kd.R_alloc | apply Kd.R_drewN | apply Kd.R_drew)); exact HO330.out))) (below_size (by repeat (first | (with_reducible first | exact HB.out | apply below_alloc | apply pw_below_drewN | apply below_drew1) | exact HB.out)))); have n3_ := Aside0.mk (below_step (by repeat (first | (with_reducible first | exact HB.out | apply below_alloc | apply pw_below_drewN | apply below_drew1) | exact HB.out)) hb); clear HO_8; clear HO330; clear HB; have HO_8 := n0_; have HO330 := n1_; have HO353 := n2_; have HB := n3_; clear n0_ n1_ n2_ n3_; (try clear hb); (try clear hb2); (try clear hk); (try clear hi); (try clear ho0)) | (go_at_call 12; (with_reducible refine (lapidarylaw01_known.calls kj7  t354 _ A58.out).mono ?_); rintro e w64 ⟨rfl, hb⟩; have n0_ := Aside0.mk (Kd.R_below (by (with_reducible repeat (first | apply Kd.R_alloc | apply Kd.R_drewN | apply Kd.R_drew)); exact HO_8.out) hb); have n1_ := Aside0.mk (Kd.R_below (by (with_reducible repeat (first | apply Kd.R_alloc | apply Kd.R_drewN | apply Kd.R_drew)); exact HO330.out) hb); have n2_ := Aside0.mk (Kd.R_below (by (with_reducible repeat (first | apply Kd.R_alloc | apply Kd.R_drewN | apply Kd.R_drew)); exact HO353.out) hb); have n3_ := Aside0.mk (below_step (by repeat (first | (with_reducible first | exact HB.out | apply below_alloc | apply pw_below_drewN | apply below_drew1) | exact HB.out)) hb); clear HO_8; clear HO330; clear HO353; clear HB; have HO_8 := n0_; have HO330 := n1_; have HO353 := n2_; have HB := n3_; clear n0_ n1_ n2_ n3_; (try clear hb); (try clear hb2); (try clear hk); (try clear hi)))
                          go_ret
                          exact ⟨by first | rfl | (simp [errW_none, errW_some] <;> rfl) | (simp [*, errW_none, errW_some] <;> rfl), by repeat (first | (with_reducible first | exact HB.out | apply below_alloc | apply pw_below_drewN | apply below_drew1) | exact HB.out)⟩
                        · rw [if_neg c57] at H
                          have c57b0 : (t351 == 0) = false := beq_eq_false_iff_ne.mpr c57
                          have c57b1 : (t351 != 0) = true := bne_iff_ne.mpr c57
                          obtain rfl := Option.some.inj H
                          go_wp2_with (first | ((with_reducible refine gate_builtin (b := .append) (xs := #[.tmp 55, .tmp 56]) rfl ?_); at_builtin; refine Kd.R_append_rows (Kd.int .u8) (w0 := w) w.heap.size rfl (.tmp 55) (.tmp 56) 24 5 (.int .u8 0) 1 rfl Try.underlying24 info5 rfl (by decide) (by omega) (.slice none 0 0) ([] : List Int) l2 _ _ _ (fun k_ => some k_ ≠ (v322 : Value).ownBlock) (fun _ => False) rfl rfl ?aO ?aR (fun _ _ h => h) (fun _ h => h.elim) ?aF ?aB ?aS ?aL ?_; (case aR => repeat (first | exact (Kd.C_below HR2.out HB.out) | (with_reducible refine Kd.C_alloc ?_ _) | (with_reducible refine Kd.C_drewN ?_ _) | (with_reducible refine Kd.C_drew ?_))); (case aB => exact (by repeat (first | (with_reducible first | exact HB.out | apply below_alloc | apply pw_below_drewN | apply below_drew1) | exact HB.out))); (case aF => exact (fun k_ hk => Kd.fresh' (Kd.R_lt (by (with_reducible repeat (first | apply Kd.R_alloc | apply Kd.R_drewN | apply Kd.R_drew)); exact HO_8.out)) k_ hk)); (case aO => exact ((Kd.R_nil _ _ _ _ (fun k_ => some k_ ≠ (v322 : Value).ownBlock)))); (case aS => exact (below_size (by repeat (first | (with_reducible first | exact HB.out | apply below_alloc | apply pw_below_drewN | apply below_drew1) | exact HB.out)))); (case aL => have := LMc16.out; omega); intro v326 w65 ho hb hg hat; rw [← Ny325.out] at ho; have n0_ := Aside0.mk (Kd.R_after (Kd.R_apart_nil (by (with_reducible repeat (first | apply Kd.R_alloc | apply Kd.R_drewN | apply Kd.R_drew)); exact HO_8.out)) hg hat); have n1_ := Aside0.mk (hb); have n2_ := Aside0.mk (ho); clear HO_8; clear HB; have HO_8 := n0_; have HB := n1_; have HO327 := n2_; clear n0_ n1_ n2_; clear ho hb hg hat; obtain ⟨Ao67, co67, eo67⟩ := Kd.R_slice HO_8.out; subst eo67) | ((with_reducible refine gate_builtin (b := .append) (xs := #[.tmp 58, .tmp 59]) rfl ?_); at_builtin; refine Kd.R_append_rows (Kd.int .u8) (w0 := w) w.heap.size rfl (.tmp 58) (.tmp 59) 24 5 (.int .u8 0) 1 rfl Try.underlying24 info5 rfl (by decide) (by omega) v326 y325 t320 _ _ _ (fun k_ => some k_ ≠ (.slice Ao67 t320.length co67 : Value).ownBlock) (fun _ => False) rfl rfl ?aO ?aR (fun _ _ h => h) (fun _ h => h.elim) ?aF ?aB ?aS ?aL ?_; (case aR => repeat (first | exact (Kd.R_reads' HO_8.out).2.2 | (with_reducible refine Kd.C_alloc ?_ _) | (with_reducible refine Kd.C_drewN ?_ _) | (with_reducible refine Kd.C_drew ?_))); (case aB => exact (by repeat (first | (with_reducible first | exact HB.out | apply below_alloc | apply pw_below_drewN | apply below_drew1) | exact HB.out))); (case aF => exact (fun k_ hk => Kd.fresh' (Kd.R_lt (by (with_reducible repeat (first | apply Kd.R_alloc | apply Kd.R_drewN | apply Kd.R_drew)); exact HO_8.out)) k_ hk)); (case aO => exact (by (with_reducible repeat (first | apply Kd.R_alloc | apply Kd.R_drewN | apply Kd.R_drew)); exact HO327.out)); (case aS => exact (below_size (by repeat (first | (with_reducible first | exact HB.out | apply below_alloc | apply pw_below_drewN | apply below_drew1) | exact HB.out)))); (case aL => have := LMc17.out; omega); intro v329 w66 ho hb hg hat; rw [← Ny328.out] at ho; have n0_ := Aside0.mk (Kd.R_after (ok := (fun _ => True)) (by (with_reducible repeat (first | apply Kd.R_alloc | apply Kd.R_drewN | apply Kd.R_drew)); exact HO_8.out) hg hat); have n1_ := Aside0.mk (hb); have n2_ := Aside0.mk (ho); clear HO_8; clear HB; clear HO327; have HO_8 := n0_; have HB := n1_; have HO330 := n2_; clear n0_ n1_ n2_; clear ho hb hg hat; obtain ⟨Ao68, co68, eo68⟩ := Kd.R_slice HO330.out; subst eo68) | ((with_reducible refine gate_callee (f := 30) rfl ?_); refine goesL_ (some 66) rfl rfl Try.func30 (by kernel_rfl) rfl #[.slice Ao68 y328.length co68, .int .i64 (l2.length : Int), .int .i64 (wrap64 (1 + (wrap64 (Int.tmod a1 8))))] rfl (by (try simp only [List.map_toArray, List.map_cons, List.map_nil]); first | done | rfl | (simp only [List.length_drop, List.length_take]; rfl)) ?_; (with_reducible refine (vint_Field.calls kj7 _ _ y328 (l2.length : Int) (wrap64 (1 + (wrap64 (Int.tmod a1 8)))) t331 t332 _ ?side1 ?side2 A18.out).mono ?_); (case side1 => repeat (first | exact (Kd.R_reads' HO330.out).2.2 | (with_reducible refine Kd.C_alloc ?_ _) | (with_reducible refine Kd.C_drewN ?_ _) | (with_reducible refine Kd.C_drew ?_))); (case side2 => exact (Kd.R_reads' HO330.out).2.1); rintro e w' ⟨rfl, ⟨nd, rfl⟩⟩; refine ⟨_, rfl, ?_⟩) | ((with_reducible refine gate_callee (f := 30) rfl ?_); refine goesL_ (some 75) rfl rfl Try.func30 (by kernel_rfl) rfl #[.slice Ao68 y328.length co68, .int .i64 (wrap64 ((l2.length : Int) + 1)), .int .i64 (wrap64 (1 + (wrap64 (Int.tmod a1 8))))] rfl (by (try simp only [List.map_toArray, List.map_cons, List.map_nil]); first | done | rfl | (simp only [List.length_drop, List.length_take]; rfl)) ?_; (with_reducible refine (vint_Field.calls kj7 _ _ y328 (wrap64 ((l2.length : Int) + 1)) (wrap64 (1 + (wrap64 (Int.tmod a1 8)))) t333 t334 _ ?side1 ?side2 A19.out).mono ?_); (case side1 => repeat (first | exact (Kd.R_reads' HO330.out).2.2 | (with_reducible refine Kd.C_alloc ?_ _) | (with_reducible refine Kd.C_drewN ?_ _) | (with_reducible refine Kd.C_drew ?_))); (case side2 => exact (Kd.R_reads' HO330.out).2.1); rintro e w' ⟨rfl, ⟨nd, rfl⟩⟩; refine ⟨_, rfl, ?_⟩) | ((with_reducible refine gate_callee (f := 29) rfl ?_); refine goesL_ (some 110) rfl rfl Try.func29 (by kernel_rfl) rfl #[.int .u64 a0, .int .i64 (wrap64 (1 + (wrap64 (Int.tmod a1 8))))] rfl (by (try simp only [List.map_toArray, List.map_cons, List.map_nil]); first | done | rfl | (simp only [List.length_drop, List.length_take]; rfl)) ?_; (with_reducible refine (lapidaryref01_Fixed.calls kj7 a0 (wrap64 (1 + (wrap64 (Int.tmod a1 8)))) t350 t351 _ A53.out).mono ?_); rintro e w69 ⟨v352, rfl, ho0, hb⟩; refine ⟨_, rfl, ?_⟩; have n0_ := Aside0.mk (Kd.R_elder' (by (with_reducible repeat (first | apply Kd.R_alloc | apply Kd.R_drewN | apply Kd.R_drew)); exact HO_8.out) (Kd.R_base ho0) hb); have n1_ := Aside0.mk (Kd.R_elder' (by (with_reducible repeat (first | apply Kd.R_alloc | apply Kd.R_drewN | apply Kd.R_drew)); exact HO330.out) (Kd.R_base ho0) hb); have n2_ := Aside0.mk (Kd.R_lower (Kd.R_new' (Kd.R_new' ho0 (Kd.R_lt (by (with_reducible repeat (first | apply Kd.R_alloc | apply Kd.R_drewN | apply Kd.R_drew)); exact HO_8.out))) (Kd.R_lt (by (with_reducible repeat (first | apply Kd.R_alloc | apply Kd.R_drewN | apply Kd.R_drew)); exact HO330.out))) (below_size (by repeat (first | (with_reducible first | exact HB.out | apply below_alloc | apply pw_below_drewN | apply below_drew1) | exact HB.out)))); have n3_ := Aside0.mk (below_step (by repeat (first | (with_reducible first | exact HB.out | apply below_alloc | apply pw_below_drewN | apply below_drew1) | exact HB.out)) hb); clear HO_8; clear HO330; clear HB; have HO_8 := n0_; have HO330 := n1_; have HO353 := n2_; have HB := n3_; clear n0_ n1_ n2_ n3_; (try clear hb); (try clear hb2); (try clear hk); (try clear hi); (try clear ho0)))
                          go_ret
                          exact ⟨by first | rfl | (simp [errW_none, errW_some] <;> rfl) | (simp [*, errW_none, errW_some] <;> rfl), by repeat (first | (with_reducible first | exact HB.out | apply below_alloc | apply pw_below_drewN | apply below_drew1) | exact HB.out)⟩
                      · rw [if_neg c56] at H
                        have c56b0 : (t334 == 10) = false := beq_eq_false_iff_ne.mpr c56
                        have c56b1 : (t334 != 10) = true := bne_iff_ne.mpr c56
                        obtain rfl := Option.some.inj H
                        go_wp2_with (first | ((with_reducible refine gate_builtin (b := .append) (xs := #[.tmp 55, .tmp 56]) rfl ?_); at_builtin; refine Kd.R_append_rows (Kd.int .u8) (w0 := w) w.heap.size rfl (.tmp 55) (.tmp 56) 24 5 (.int .u8 0) 1 rfl Try.underlying24 info5 rfl (by decide) (by omega) (.slice none 0 0) ([] : List Int) l2 _ _ _ (fun k_ => some k_ ≠ (v322 : Value).ownBlock) (fun _ => False) rfl rfl ?aO ?aR (fun _ _ h => h) (fun _ h => h.elim) ?aF ?aB ?aS ?aL ?_; (case aR => repeat (first | exact (Kd.C_below HR2.out HB.out) | (with_reducible refine Kd.C_alloc ?_ _) | (with_reducible refine Kd.C_drewN ?_ _) | (with_reducible refine Kd.C_drew ?_))); (case aB => exact (by repeat (first | (with_reducible first | exact HB.out | apply below_alloc | apply pw_below_drewN | apply below_drew1) | exact HB.out))); (case aF => exact (fun k_ hk => Kd.fresh' (Kd.R_lt (by (with_reducible repeat (first | apply Kd.R_alloc | apply Kd.R_drewN | apply Kd.R_drew)); exact HO_8.out)) k_ hk)); (case aO => exact ((Kd.R_nil _ _ _ _ (fun k_ => some k_ ≠ (v322 : Value).ownBlock)))); (case aS => exact (below_size (by repeat (first | (with_reducible first | exact HB.out | apply below_alloc | apply pw_below_drewN | apply below_drew1) | exact HB.out)))); (case aL => have := LMc16.out; omega); intro v326 w70 ho hb hg hat; rw [← Ny325.out] at ho; have n0_ := Aside0.mk (Kd.R_after (Kd.R_apart_nil (by (with_reducible repeat (first | apply Kd.R_alloc | apply Kd.R_drewN | apply Kd.R_drew)); exact HO_8.out)) hg hat); have n1_ := Aside0.mk (hb); have n2_ := Aside0.mk (ho); clear HO_8; clear HB; have HO_8 := n0_; have HB := n1_; have HO327 := n2_; clear n0_ n1_ n2_; clear ho hb hg hat; obtain ⟨Ao72, co72, eo72⟩ := Kd.R_slice HO_8.out; subst eo72) | ((with_reducible refine gate_builtin (b := .append) (xs := #[.tmp 58, .tmp 59]) rfl ?_); at_builtin; refine Kd.R_append_rows (Kd.int .u8) (w0 := w) w.heap.size rfl (.tmp 58) (.tmp 59) 24 5 (.int .u8 0) 1 rfl Try.underlying24 info5 rfl (by decide) (by omega) v326 y325 t320 _ _ _ (fun k_ => some k_ ≠ (.slice Ao72 t320.length co72 : Value).ownBlock) (fun _ => False) rfl rfl ?aO ?aR (fun _ _ h => h) (fun _ h => h.elim) ?aF ?aB ?aS ?aL ?_; (case aR => repeat (first | exact (Kd.R_reads' HO_8.out).2.2 | (with_reducible refine Kd.C_alloc ?_ _) | (with_reducible refine Kd.C_drewN ?_ _) | (with_reducible refine Kd.C_drew ?_))); (case aB => exact (by repeat (first | (with_reducible first | exact HB.out | apply below_alloc | apply pw_below_drewN | apply below_drew1) | exact HB.out))); (case aF => exact (fun k_ hk => Kd.fresh' (Kd.R_lt (by (with_reducible repeat (first | apply Kd.R_alloc | apply Kd.R_drewN | apply Kd.R_drew)); exact HO_8.out)) k_ hk)); (case aO => exact (by (with_reducible repeat (first | apply Kd.R_alloc | apply Kd.R_drewN | apply Kd.R_drew)); exact HO327.out)); (case aS => exact (below_size (by repeat (first | (with_reducible first | exact HB.out | apply below_alloc | apply pw_below_drewN | apply below_drew1) | exact HB.out)))); (case aL => have := LMc17.out; omega); intro v329 w71 ho hb hg hat; rw [← Ny328.out] at ho; have n0_ := Aside0.mk (Kd.R_after (ok := (fun _ => True)) (by (with_reducible repeat (first | apply Kd.R_alloc | apply Kd.R_drewN | apply Kd.R_drew)); exact HO_8.out) hg hat); have n1_ := Aside0.mk (hb); have n2_ := Aside0.mk (ho); clear HO_8; clear HB; clear HO327; have HO_8 := n0_; have HB := n1_; have HO330 := n2_; clear n0_ n1_ n2_; clear ho hb hg hat; obtain ⟨Ao73, co73, eo73⟩ := Kd.R_slice HO330.out; subst eo73) | ((with_reducible refine gate_callee (f := 30) rfl ?_); refine goesL_ (some 66) rfl rfl Try.func30 (by kernel_rfl) rfl #[.slice Ao73 y328.length co73, .int .i64 (l2.length : Int), .int .i64 (wrap64 (1 + (wrap64 (Int.tmod a1 8))))] rfl (by (try simp only [List.map_toArray, List.map_cons, List.map_nil]); first | done | rfl | (simp only [List.length_drop, List.length_take]; rfl)) ?_; (with_reducible refine (vint_Field.calls kj7 _ _ y328 (l2.length : Int) (wrap64 (1 + (wrap64 (Int.tmod a1 8)))) t331 t332 _ ?side1 ?side2 A18.out).mono ?_); (case side1 => repeat (first | exact (Kd.R_reads' HO330.out).2.2 | (with_reducible refine Kd.C_alloc ?_ _) | (with_reducible refine Kd.C_drewN ?_ _) | (with_reducible refine Kd.C_drew ?_))); (case side2 => exact (Kd.R_reads' HO330.out).2.1); rintro e w' ⟨rfl, ⟨nd, rfl⟩⟩; refine ⟨_, rfl, ?_⟩) | ((with_reducible refine gate_callee (f := 30) rfl ?_); refine goesL_ (some 75) rfl rfl Try.func30 (by kernel_rfl) rfl #[.slice Ao73 y328.length co73, .int .i64 (wrap64 ((l2.length : Int) + 1)), .int .i64 (wrap64 (1 + (wrap64 (Int.tmod a1 8))))] rfl (by (try simp only [List.map_toArray, List.map_cons, List.map_nil]); first | done | rfl | (simp only [List.length_drop, List.length_take]; rfl)) ?_; (with_reducible refine (vint_Field.calls kj7 _ _ y328 (wrap64 ((l2.length : Int) + 1)) (wrap64 (1 + (wrap64 (Int.tmod a1 8)))) t333 t334 _ ?side1 ?side2 A19.out).mono ?_); (case side1 => repeat (first | exact (Kd.R_reads' HO330.out).2.2 | (with_reducible refine Kd.C_alloc ?_ _) | (with_reducible refine Kd.C_drewN ?_ _) | (with_reducible refine Kd.C_drew ?_))); (case side2 => exact (Kd.R_reads' HO330.out).2.1); rintro e w' ⟨rfl, ⟨nd, rfl⟩⟩; refine ⟨_, rfl, ?_⟩) | ((with_reducible refine gate_callee (f := 29) rfl ?_); refine goesL_ (some 110) rfl rfl Try.func29 (by kernel_rfl) rfl #[.int .u64 a0, .int .i64 (wrap64 (1 + (wrap64 (Int.tmod a1 8))))] rfl (by (try simp only [List.map_toArray, List.map_cons, List.map_nil]); first | done | rfl | (simp only [List.length_drop, List.length_take]; rfl)) ?_; (with_reducible refine (lapidaryref01_Fixed.calls kj7 a0 (wrap64 (1 + (wrap64 (Int.tmod a1 8)))) t350 t351 _ A53.out).mono ?_); rintro e w74 ⟨v352, rfl, ho0, hb⟩; refine ⟨_, rfl, ?_⟩; have n0_ := Aside0.mk (Kd.R_elder' (by (with_reducible repeat (first | apply Kd.R_alloc | apply Kd.R_drewN | apply Kd.R_drew)); exact HO_8.out) (Kd.R_base ho0) hb); have n1_ := Aside0.mk (Kd.R_elder' (by (with_reducible repeat (first | apply Kd.R_alloc | apply Kd.R_drewN | apply Kd.R_drew)); exact HO330.out) (Kd.R_base ho0) hb); have n2_ := Aside0.mk (Kd.R_lower (Kd.R_new' (Kd.R_new' ho0 (Kd.R_lt (by (with_reducible repeat (first | apply Kd.R_alloc | apply Kd.R_drewN | apply Kd.R_drew)); exact HO_8.out))) (Kd.R_lt (by (with_reducible repeat (first | apply Kd.R_alloc | apply Kd.R_drewN | apply Kd.R_drew)); exact HO330.out))) (below_size (by repeat (first | (with_reducible first | exact HB.out | apply below_alloc | apply pw_below_drewN | apply below_drew1) | exact HB.out)))); have n3_ := Aside0.mk (below_step (by repeat (first | (with_reducible first | exact HB.out | apply below_alloc | apply pw_below_drewN | apply below_drew1) | exact HB.out)) hb); clear HO_8; clear HO330; clear HB; have HO_8 := n0_; have HO330 := n1_; have HO353 := n2_; have HB := n3_; clear n0_ n1_ n2_ n3_; (try clear hb); (try clear hb2); (try clear hk); (try clear hi); (try clear ho0)))
                        go_ret
                        exact ⟨by first | rfl | (simp [errW_none, errW_some] <;> rfl) | (simp [*, errW_none, errW_some] <;> rfl), by repeat (first | (with_reducible first | exact HB.out | apply below_alloc | apply pw_below_drewN | apply below_drew1) | exact HB.out)⟩
                    · rw [if_neg c55] at H
                      have c55b0 : (t332 == 0) = false := beq_eq_false_iff_ne.mpr c55
                      have c55b1 : (t332 != 0) = true := bne_iff_ne.mpr c55
                      obtain rfl := Option.some.inj H
                      go_wp2_with (first | ((with_reducible refine gate_builtin (b := .append) (xs := #[.tmp 55, .tmp 56]) rfl ?_); at_builtin; refine Kd.R_append_rows (Kd.int .u8) (w0 := w) w.heap.size rfl (.tmp 55) (.tmp 56) 24 5 (.int .u8 0) 1 rfl Try.underlying24 info5 rfl (by decide) (by omega) (.slice none 0 0) ([] : List Int) l2 _ _ _ (fun k_ => some k_ ≠ (v322 : Value).ownBlock) (fun _ => False) rfl rfl ?aO ?aR (fun _ _ h => h) (fun _ h => h.elim) ?aF ?aB ?aS ?aL ?_; (case aR => repeat (first | exact (Kd.C_below HR2.out HB.out) | (with_reducible refine Kd.C_alloc ?_ _) | (with_reducible refine Kd.C_drewN ?_ _) | (with_reducible refine Kd.C_drew ?_))); (case aB => exact (by repeat (first | (with_reducible first | exact HB.out | apply below_alloc | apply pw_below_drewN | apply below_drew1) | exact HB.out))); (case aF => exact (fun k_ hk => Kd.fresh' (Kd.R_lt (by (with_reducible repeat (first | apply Kd.R_alloc | apply Kd.R_drewN | apply Kd.R_drew)); exact HO_8.out)) k_ hk)); (case aO => exact ((Kd.R_nil _ _ _ _ (fun k_ => some k_ ≠ (v322 : Value).ownBlock)))); (case aS => exact (below_size (by repeat (first | (with_reducible first | exact HB.out | apply below_alloc | apply pw_below_drewN | apply below_drew1) | exact HB.out)))); (case aL => have := LMc16.out; omega); intro v326 w75 ho hb hg hat; rw [← Ny325.out] at ho; have n0_ := Aside0.mk (Kd.R_after (Kd.R_apart_nil (by (with_reducible repeat (first | apply Kd.R_alloc | apply Kd.R_drewN | apply Kd.R_drew)); exact HO_8.out)) hg hat); have n1_ := Aside0.mk (hb); have n2_ := Aside0.mk (ho); clear HO_8; clear HB; have HO_8 := n0_; have HB := n1_; have HO327 := n2_; clear n0_ n1_ n2_; clear ho hb hg hat; obtain ⟨Ao77, co77, eo77⟩ := Kd.R_slice HO_8.out; subst eo77) | ((with_reducible refine gate_builtin (b := .append) (xs := #[.tmp 58, .tmp 59]) rfl ?_); at_builtin; refine Kd.R_append_rows (Kd.int .u8) (w0 := w) w.heap.size rfl (.tmp 58) (.tmp 59) 24 5 (.int .u8 0) 1 rfl Try.underlying24 info5 rfl (by decide) (by omega) v326 y325 t320 _ _ _ (fun k_ => some k_ ≠ (.slice Ao77 t320.length co77 : Value).ownBlock) (fun _ => False) rfl rfl ?aO ?aR (fun _ _ h => h) (fun _ h => h.elim) ?aF ?aB ?aS ?aL ?_; (case aR => repeat (first | exact (Kd.R_reads' HO_8.out).2.2 | (with_reducible refine Kd.C_alloc ?_ _) | (with_reducible refine Kd.C_drewN ?_ _) | (with_reducible refine Kd.C_drew ?_))); (case aB => exact (by repeat (first | (with_reducible first | exact HB.out | apply below_alloc | apply pw_below_drewN | apply below_drew1) | exact HB.out))); (case aF => exact (fun k_ hk => Kd.fresh' (Kd.R_lt (by (with_reducible repeat (first | apply Kd.R_alloc | apply Kd.R_drewN | apply Kd.R_drew)); exact HO_8.out)) k_ hk)); (case aO => exact (by (with_reducible repeat (first | apply Kd.R_alloc | apply Kd.R_drewN | apply Kd.R_drew)); exact HO327.out)); (case aS => exact (below_size (by repeat (first | (with_reducible first | exact HB.out | apply below_alloc | apply pw_below_drewN | apply below_drew1) | exact HB.out)))); (case aL => have := LMc17.out; omega); intro v329 w76 ho hb hg hat; rw [← Ny328.out] at ho; have n0_ := Aside0.mk (Kd.R_after (ok := (fun _ => True)) (by (with_reducible repeat (first | apply Kd.R_alloc | apply Kd.R_drewN | apply Kd.R_drew)); exact HO_8.out) hg hat); have n1_ := Aside0.mk (hb); have n2_ := Aside0.mk (ho); clear HO_8; clear HB; clear HO327; have HO_8 := n0_; have HB := n1_; have HO330 := n2_; clear n0_ n1_ n2_; clear ho hb hg hat; obtain ⟨Ao78, co78, eo78⟩ := Kd.R_slice HO330.out; subst eo78) | ((with_reducible refine gate_callee (f := 30) rfl ?_); refine goesL_ (some 66) rfl rfl Try.func30 (by kernel_rfl) rfl #[.slice Ao78 y328.length co78, .int .i64 (l2.length : Int), .int .i64 (wrap64 (1 + (wrap64 (Int.tmod a1 8))))] rfl (by (try simp only [List.map_toArray, List.map_cons, List.map_nil]); first | done | rfl | (simp only [List.length_drop, List.length_take]; rfl)) ?_; (with_reducible refine (vint_Field.calls kj7 _ _ y328 (l2.length : Int) (wrap64 (1 + (wrap64 (Int.tmod a1 8)))) t331 t332 _ ?side1 ?side2 A18.out).mono ?_); (case side1 => repeat (first | exact (Kd.R_reads' HO330.out).2.2 | (with_reducible refine Kd.C_alloc ?_ _) | (with_reducible refine Kd.C_drewN ?_ _) | (with_reducible refine Kd.C_drew ?_))); (case side2 => exact (Kd.R_reads' HO330.out).2.1); rintro e w' ⟨rfl, ⟨nd, rfl⟩⟩; refine ⟨_, rfl, ?_⟩) | ((with_reducible refine gate_callee (f := 30) rfl ?_); refine goesL_ (some 75) rfl rfl Try.func30 (by kernel_rfl) rfl #[.slice Ao78 y328.length co78, .int .i64 (wrap64 ((l2.length : Int) + 1)), .int .i64 (wrap64 (1 + (wrap64 (Int.tmod a1 8))))] rfl (by (try simp only [List.map_toArray, List.map_cons, List.map_nil]); first | done | rfl | (simp only [List.length_drop, List.length_take]; rfl)) ?_; (with_reducible refine (vint_Field.calls kj7 _ _ y328 (wrap64 ((l2.length : Int) + 1)) (wrap64 (1 + (wrap64 (Int.tmod a1 8)))) t333 t334 _ ?side1 ?side2 A19.out).mono ?_); (case side1 => repeat (first | exact (Kd.R_reads' HO330.out).2.2 | (with_reducible refine Kd.C_alloc ?_ _) | (with_reducible refine Kd.C_drewN ?_ _) | (with_reducible refine Kd.C_drew ?_))); (case side2 => exact (Kd.R_reads' HO330.out).2.1); rintro e w' ⟨rfl, ⟨nd, rfl⟩⟩; refine ⟨_, rfl, ?_⟩) | ((with_reducible refine gate_callee (f := 29) rfl ?_); refine goesL_ (some 110) rfl rfl Try.func29 (by kernel_rfl) rfl #[.int .u64 a0, .int .i64 (wrap64 (1 + (wrap64 (Int.tmod a1 8))))] rfl (by (try simp only [List.map_toArray, List.map_cons, List.map_nil]); first | done | rfl | (simp only [List.length_drop, List.length_take]; rfl)) ?_; (with_reducible refine (lapidaryref01_Fixed.calls kj7 a0 (wrap64 (1 + (wrap64 (Int.tmod a1 8)))) t350 t351 _ A53.out).mono ?_); rintro e w79 ⟨v352, rfl, ho0, hb⟩; refine ⟨_, rfl, ?_⟩; have n0_ := Aside0.mk (Kd.R_elder' (by (with_reducible repeat (first | apply Kd.R_alloc | apply Kd.R_drewN | apply Kd.R_drew)); exact HO_8.out) (Kd.R_base ho0) hb); have n1_ := Aside0.mk (Kd.R_elder' (by (with_reducible repeat (first | apply Kd.R_alloc | apply Kd.R_drewN | apply Kd.R_drew)); exact HO330.out) (Kd.R_base ho0) hb); have n2_ := Aside0.mk (Kd.R_lower (Kd.R_new' (Kd.R_new' ho0 (Kd.R_lt (by (with_reducible repeat (first | apply Kd.R_alloc | apply Kd.R_drewN | apply Kd.R_drew)); exact HO_8.out))) (Kd.R_lt (by (with_reducible repeat (first | apply Kd.R_alloc | apply Kd.R_drewN | apply Kd.R_drew)); exact HO330.out))) (below_size (by repeat (first | (with_reducible first | exact HB.out | apply below_alloc | apply pw_below_drewN | apply below_drew1) | exact HB.out)))); have n3_ := Aside0.mk (below_step (by repeat (first | (with_reducible first | exact HB.out | apply below_alloc | apply pw_below_drewN | apply below_drew1) | exact HB.out)) hb); clear HO_8; clear HO330; clear HB; have HO_8 := n0_; have HO330 := n1_; have HO353 := n2_; have HB := n3_; clear n0_ n1_ n2_ n3_; (try clear hb); (try clear hb2); (try clear hk); (try clear hi); (try clear ho0)))
                      go_ret
                      exact ⟨by first | rfl | (simp [errW_none, errW_some] <;> rfl) | (simp [*, errW_none, errW_some] <;> rfl), by repeat (first | (with_reducible first | exact HB.out | apply below_alloc | apply pw_below_drewN | apply below_drew1) | exact HB.out)⟩
                  · rw [if_neg c54] at H
                    have c54b0 : (t331 == a0) = false := beq_eq_false_iff_ne.mpr c54
                    have c54b1 : (t331 != a0) = true := bne_iff_ne.mpr c54
                    obtain rfl := Option.some.inj H
                    go_wp2_with (first | ((with_reducible refine gate_builtin (b := .append) (xs := #[.tmp 55, .tmp 56]) rfl ?_); at_builtin; refine Kd.R_append_rows (Kd.int .u8) (w0 := w) w.heap.size rfl (.tmp 55) (.tmp 56) 24 5 (.int .u8 0) 1 rfl Try.underlying24 info5 rfl (by decide) (by omega) (.slice none 0 0) ([] : List Int) l2 _ _ _ (fun k_ => some k_ ≠ (v322 : Value).ownBlock) (fun _ => False) rfl rfl ?aO ?aR (fun _ _ h => h) (fun _ h => h.elim) ?aF ?aB ?aS ?aL ?_; (case aR => repeat (first | exact (Kd.C_below HR2.out HB.out) | (with_reducible refine Kd.C_alloc ?_ _) | (with_reducible refine Kd.C_drewN ?_ _) | (with_reducible refine Kd.C_drew ?_))); (case aB => exact (by repeat (first | (with_reducible first | exact HB.out | apply below_alloc | apply pw_below_drewN | apply below_drew1) | exact HB.out))); (case aF => exact (fun k_ hk => Kd.fresh' (Kd.R_lt (by (with_reducible repeat (first | apply Kd.R_alloc | apply Kd.R_drewN | apply Kd.R_drew)); exact HO_8.out)) k_ hk)); (case aO => exact ((Kd.R_nil _ _ _ _ (fun k_ => some k_ ≠ (v322 : Value).ownBlock)))); (case aS => exact (below_size (by repeat (first | (with_reducible first | exact HB.out | apply below_alloc | apply pw_below_drewN | apply below_drew1) | exact HB.out)))); (case aL => have := LMc16.out; omega); intro v326 w80 ho hb hg hat; rw [← Ny325.out] at ho; have n0_ := Aside0.mk (Kd.R_after (Kd.R_apart_nil (by (with_reducible repeat (first | apply Kd.R_alloc | apply Kd.R_drewN | apply Kd.R_drew)); exact HO_8.out)) hg hat); have n1_ := Aside0.mk (hb); have n2_ := Aside0.mk (ho); clear HO_8; clear HB; have HO_8 := n0_; have HB := n1_; have HO327 := n2_; clear n0_ n1_ n2_; clear ho hb hg hat; obtain ⟨Ao82, co82, eo82⟩ := Kd.R_slice HO_8.out; subst eo82) | ((with_reducible refine gate_builtin (b := .append) (xs := #[.tmp 58, .tmp 59]) rfl ?_); at_builtin; refine Kd.R_append_rows (Kd.int .u8) (w0 := w) w.heap.size rfl (.tmp 58) (.tmp 59) 24 5 (.int .u8 0) 1 rfl Try.underlying24 info5 rfl (by decide) (by omega) v326 y325 t320 _ _ _ (fun k_ => some k_ ≠ (.slice Ao82 t320.length co82 : Value).ownBlock) (fun _ => False) rfl rfl ?aO ?aR (fun _ _ h => h) (fun _ h => h.elim) ?aF ?aB ?aS ?aL ?_; (case aR => repeat (first | exact (Kd.R_reads' HO_8.out).2.2 | (with_reducible refine Kd.C_alloc ?_ _) | (with_reducible refine Kd.C_drewN ?_ _) | (with_reducible refine Kd.C_drew ?_))); (case aB => exact (by repeat (first | (with_reducible first | exact HB.out | apply below_alloc | apply pw_below_drewN | apply below_drew1) | exact HB.out))); (case aF => exact (fun k_ hk => Kd.fresh' (Kd.R_lt (by (with_reducible repeat (first | apply Kd.R_alloc | apply Kd.R_drewN | apply Kd.R_drew)); exact HO_8.out)) k_ hk)); (case aO => exact (by (with_reducible repeat (first | apply Kd.R_alloc | apply Kd.R_drewN | apply Kd.R_drew)); exact HO327.out)); (case aS => exact (below_size (by repeat (first | (with_reducible first | exact HB.out | apply below_alloc | apply pw_below_drewN | apply below_drew1) | exact HB.out)))); (case aL => have := LMc17.out; omega); intro v329 w81 ho hb hg hat; rw [← Ny328.out] at ho; have n0_ := Aside0.mk (Kd.R_after (ok := (fun _ => True)) (by (with_reducible repeat (first | apply Kd.R_alloc | apply Kd.R_drewN | apply Kd.R_drew)); exact HO_8.out) hg hat); have n1_ := Aside0.mk (hb); have n2_ := Aside0.mk (ho); clear HO_8; clear HB; clear HO327; have HO_8 := n0_; have HB := n1_; have HO330 := n2_; clear n0_ n1_ n2_; clear ho hb hg hat; obtain ⟨Ao83, co83, eo83⟩ := Kd.R_slice HO330.out; subst eo83) | ((with_reducible refine gate_callee (f := 30) rfl ?_); refine goesL_ (some 66) rfl rfl Try.func30 (by kernel_rfl) rfl #[.slice Ao83 y328.length co83, .int .i64 (l2.length : Int), .int .i64 (wrap64 (1 + (wrap64 (Int.tmod a1 8))))] rfl (by (try simp only [List.map_toArray, List.map_cons, List.map_nil]); first | done | rfl | (simp only [List.length_drop, List.length_take]; rfl)) ?_; (with_reducible refine (vint_Field.calls kj7 _ _ y328 (l2.length : Int) (wrap64 (1 + (wrap64 (Int.tmod a1 8)))) t331 t332 _ ?side1 ?side2 A18.out).mono ?_); (case side1 => repeat (first | exact (Kd.R_reads' HO330.out).2.2 | (with_reducible refine Kd.C_alloc ?_ _) | (with_reducible refine Kd.C_drewN ?_ _) | (with_reducible refine Kd.C_drew ?_))); (case side2 => exact (Kd.R_reads' HO330.out).2.1); rintro e w' ⟨rfl, ⟨nd, rfl⟩⟩; refine ⟨_, rfl, ?_⟩) | ((with_reducible refine gate_callee (f := 30) rfl ?_); refine goesL_ (some 75) rfl rfl Try.func30 (by kernel_rfl) rfl #[.slice Ao83 y328.length co83, .int .i64 (wrap64 ((l2.length : Int) + 1)), .int .i64 (wrap64 (1 + (wrap64 (Int.tmod a1 8))))] rfl (by (try simp only [List.map_toArray, List.map_cons, List.map_nil]); first | done | rfl | (simp only [List.length_drop, List.length_take]; rfl)) ?_; (with_reducible refine (vint_Field.calls kj7 _ _ y328 (wrap64 ((l2.length : Int) + 1)) (wrap64 (1 + (wrap64 (Int.tmod a1 8)))) t333 t334 _ ?side1 ?side2 A19.out).mono ?_); (case side1 => repeat (first | exact (Kd.R_reads' HO330.out).2.2 | (with_reducible refine Kd.C_alloc ?_ _) | (with_reducible refine Kd.C_drewN ?_ _) | (with_reducible refine Kd.C_drew ?_))); (case side2 => exact (Kd.R_reads' HO330.out).2.1); rintro e w' ⟨rfl, ⟨nd, rfl⟩⟩; refine ⟨_, rfl, ?_⟩) | ((with_reducible refine gate_callee (f := 29) rfl ?_); refine goesL_ (some 110) rfl rfl Try.func29 (by kernel_rfl) rfl #[.int .u64 a0, .int .i64 (wrap64 (1 + (wrap64 (Int.tmod a1 8))))] rfl (by (try simp only [List.map_toArray, List.map_cons, List.map_nil]); first | done | rfl | (simp only [List.length_drop, List.length_take]; rfl)) ?_; (with_reducible refine (lapidaryref01_Fixed.calls kj7 a0 (wrap64 (1 + (wrap64 (Int.tmod a1 8)))) t350 t351 _ A53.out).mono ?_); rintro e w84 ⟨v352, rfl, ho0, hb⟩; refine ⟨_, rfl, ?_⟩; have n0_ := Aside0.mk (Kd.R_elder' (by (with_reducible repeat (first | apply Kd.R_alloc | apply Kd.R_drewN | apply Kd.R_drew)); exact HO_8.out) (Kd.R_base ho0) hb); have n1_ := Aside0.mk (Kd.R_elder' (by (with_reducible repeat (first | apply Kd.R_alloc | apply Kd.R_drewN | apply Kd.R_drew)); exact HO330.out) (Kd.R_base ho0) hb); have n2_ := Aside0.mk (Kd.R_lower (Kd.R_new' (Kd.R_new' ho0 (Kd.R_lt (by (with_reducible repeat (first | apply Kd.R_alloc | apply Kd.R_drewN | apply Kd.R_drew)); exact HO_8.out))) (Kd.R_lt (by (with_reducible repeat (first | apply Kd.R_alloc | apply Kd.R_drewN | apply Kd.R_drew)); exact HO330.out))) (below_size (by repeat (first | (with_reducible first | exact HB.out | apply below_alloc | apply pw_below_drewN | apply below_drew1) | exact HB.out)))); have n3_ := Aside0.mk (below_step (by repeat (first | (with_reducible first | exact HB.out | apply below_alloc | apply pw_below_drewN | apply below_drew1) | exact HB.out)) hb); clear HO_8; clear HO330; clear HB; have HO_8 := n0_; have HO330 := n1_; have HO353 := n2_; have HB := n3_; clear n0_ n1_ n2_ n3_; (try clear hb); (try clear hb2); (try clear hk); (try clear hi); (try clear ho0)))
                    go_ret
                    exact ⟨by first | rfl | (simp [errW_none, errW_some] <;> rfl) | (simp [*, errW_none, errW_some] <;> rfl), by repeat (first | (with_reducible first | exact HB.out | apply below_alloc | apply pw_below_drewN | apply below_drew1) | exact HB.out)⟩
              · rw [if_neg c17] at H
                exact absurd H (by simp)
            · rw [if_neg c16] at H
              exact absurd H (by simp)
          · replace c15 := Bool.eq_false_iff.mpr c15
            subst c15
            have H1 : (if (t320.length : Int) = 0 then ((lapidarylaw01_known.f kj7).bind fun t324 => (some t324)) else (some false)) = some r := by rw [if_neg (show ¬ (false = true) by decide)] at H; exact H
            clear H
            have H := H1
            clear H1
            by_cases c85 : (t320.length : Int) = 0
            · rw [if_pos c85] at H
              have c85b0 : ((t320.length : Int) == 0) = true := beq_iff_eq.mpr c85
              have c85b1 : ((t320.length : Int) != 0) = false := bne_eq_false_iff_eq.mpr c85
              clear c85
              replace H := Option.bind_eq_some_iff.mp H
              obtain ⟨t324, A860, H⟩ := H
              replace H : (some t324) = some r := H
              have A86 := Aside0.mk A860
              clear A860
              obtain rfl := Option.some.inj H
              obtain ⟨Ao87, co87, eo87⟩ := Kd.R_slice HO_8.out
              subst eo87
              go_wp2_with (first | (go_at_call 12; (with_reducible refine (lapidarylaw01_known.calls kj7  t324 _ A86.out).mono ?_); rintro e w88 ⟨rfl, hb⟩; have n0_ := Aside0.mk (Kd.R_below (by (with_reducible repeat (first | apply Kd.R_alloc | apply Kd.R_drewN | apply Kd.R_drew)); exact HO_8.out) hb); have n1_ := Aside0.mk (below_step (by repeat (first | (with_reducible first | exact HB.out | apply below_alloc | apply pw_below_drewN | apply below_drew1) | exact HB.out)) hb); clear HO_8; clear HB; have HO_8 := n0_; have HB := n1_; clear n0_ n1_; (try clear hb); (try clear hb2); (try clear hk); (try clear hi)))
              go_ret
              exact ⟨by first | rfl | (simp [errW_none, errW_some] <;> rfl) | (simp [*, errW_none, errW_some] <;> rfl), by repeat (first | (with_reducible first | exact HB.out | apply below_alloc | apply pw_below_drewN | apply below_drew1) | exact HB.out)⟩
            · rw [if_neg c85] at H
              have c85b0 : ((t320.length : Int) == 0) = false := beq_eq_false_iff_ne.mpr c85
              have c85b1 : ((t320.length : Int) != 0) = true := bne_iff_ne.mpr c85
              have c85b2 : ¬ (t320 = []) := fun h_ => c85 (by rw [h_]; rfl)
              obtain rfl := Option.some.inj H
              obtain ⟨Ao89, co89, eo89⟩ := Kd.R_slice HO_8.out
              subst eo89
              go_wp2
              go_ret
              exact ⟨by first | rfl | (simp [errW_none, errW_some] <;> rfl) | (simp [*, errW_none, errW_some] <;> rfl), by repeat (first | (with_reducible first | exact HB.out | apply below_alloc | apply pw_below_drewN | apply below_drew1) | exact HB.out)⟩

/-- THE ONE PURE STATEMENT of lapidarylaw01_VintWidths: yours. -/
def lapidarylaw01_VintWidths.Pure : Prop := ∀ (a0 : Int) (a1 : Int) (l2 : List Int), (Lit.int .u64 a0).wf = true → (Lit.int .u8 a1).wf = true → l2.length ≤ maxLen → l2.length * 1 ≤ 140737488351232 → (∀ x ∈ l2, (Lit.int .u8 x).wf = true) → ∃ k, lapidarylaw01_VintWidths.f k a0 a1 l2 = some true
theorem lapidarylaw01_VintWidths.walk (P : lapidarylaw01_VintWidths.Pure) (a0 : Int) (a1 : Int) (a2 : Option Addr) (len2 cap2 : Nat) (z2 : List Int) (w : World) (w0 : (Lit.int .u64 a0).wf = true) (w1 : (Lit.int .u8 a1).wf = true) (w2 : (a2 = none ∧ len2 = 0 ∧ cap2 = 0 ∧ z2 = []) ∨ ∃ x, a2 = some x ∧ len2 ≤ cap2 ∧ cap2 ≤ maxLen ∧ z2.length = cap2 ∧ (∀ i, i < z2.length → w.cell? (x.add i) = some (.int .u8 (z2.getD i 0))) ∧ ∀ n ∈ z2, (Lit.int .u8 n).wf = true) (y2 : len2 * 1 ≤ 140737488351232) :
    Calls Try.prog 11 #[.int .u64 a0, .int .u8 a1, .slice a2 len2 cap2] w fun e w' => e = .returned (.bool true) ∧ Below w.heap.size w w' := by
  obtain ⟨l2, rfl, hr2, hm2, hw2, hc2⟩ := ReadsInt.ofRowC w2
  obtain ⟨k, h⟩ := P a0 a1 l2 w0 w1 hm2 y2 hw2
  refine (lapidarylaw01_VintWidths.calls k a0 a1 _ _ l2 true w (Kd.C_of_reads (d := (0 : Int)) (h1 := fun _ => rfl) hr2) hc2 h).mono ?_
  rintro e w' ⟨rfl, hd⟩
  exact ⟨rfl, hd⟩

end Go.Proofs.Ytgphhcakkoaipaa.PVint
