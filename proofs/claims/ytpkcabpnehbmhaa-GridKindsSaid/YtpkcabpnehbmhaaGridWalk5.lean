/- The walks of grid's functions: Scaled, Int, Round, Float. -/
import Derived.Test.YtpkcabpnehbmhaaGridWalk4
namespace Go.Proofs.Ytpkcabpnehbmhaa.GW
open Go Go.RowKit Go.Proofs.Ytpkcabpnehbmhaa.Mem Go.Proofs.Ytpkcabpnehbmhaa.FM
set_option linter.unusedVariables false
set_option linter.unusedSimpArgs false

theorem rungOf_zero : rungOf 0 = 0 := by decide
theorem Ldexp (b : Nat) (hb : b < 2 ^ 64) (h : FM.Fin b) (k : Int) (hk1 : -30 ≤ k) (hk2 : k ≤ 30) (N a c : Nat) (hN : Has N) (hac : N * 2 ^ a = mag b * 2 ^ c) (hk : k = c - a) (w : World) :
    Calls Try.prog 32 #[.float .f64 b, .int .i64 k] w fun e w' => e = .returned (.float .f64 (wd (ng b) (rungOf N))) ∧ w' = w := by
  by_cases hz : rung b = 0
  · have h0 : N = 0 := by
      rw [mag_zero.2 hz, Nat.zero_mul] at hac
      rcases Nat.mul_eq_zero.1 hac with h1 | h1
      · exact h1
      · exact absurd h1 (Nat.ne_of_gt (Nat.two_pow_pos _))
    have h2 : wd (ng b) (rungOf N) = b := by rw [h0, rungOf_zero, ← hz]; exact wd_self hb
    rw [h2]
    exact Ldexp32z b hz k w
  · exact Ldexp32 b hb h hz k hk1 hk2 (rungOf N) a c hN.rungOf.2 (by rw [hN.rungOf.1]; exact hac) hk w

theorem mag_bound : magR 4746794007248502784 = 2147483648 * U := by
  have e1 : lev 4746794007248502784 = 1053 := by decide
  have e2 : sig 4746794007248502784 = 4503599627370496 := by decide
  obtain ⟨k, hk⟩ : ∃ k : Nat, k = 1074 := ⟨_, rfl⟩
  obtain ⟨j, hj⟩ : ∃ j : Nat, j = 1053 := ⟨_, rfl⟩
  show sig 4746794007248502784 * 2 ^ lev 4746794007248502784 = _
  rw [e1, e2, U_eq hk, ← hj, show k = 21 + j by omega, Nat.pow_add, ← Nat.mul_assoc]

/-- A number against its whole part. -/
theorem w_trunc (y : Nat) (h : FM.Fin y) (p : Bool) (hp : decide (mag y % U = 0) = p) : (FloatKind.f64.format.order y (truncB y) != some Ordering.eq) = !p := by
  obtain ⟨m1, m2, m3, m4⟩ := mag_wd (s := ng y) (has_whole h).1
  show (!(Ieee.double.order y (truncB y) == some .eq)) = !p
  congr 1
  rw [← hp, show truncB y = wd (ng y) (rungOf (mag y / U * U)) from rfl, order_fin h m3, V_sg, V_sg, m1, m2]
  have hd := Nat.div_add_mod (mag y) U
  rw [Nat.mul_comm] at hd
  by_cases h0 : mag y % U = 0
  · rw [decide_eq_true h0, show mag y / U * U = mag y by omega, show compare (sg (ng y) (mag y)) (sg (ng y) (mag y)) = .eq from Int.compare_eq_eq.2 rfl]; rfl
  · rw [decide_eq_false h0]
    have : sg (ng y) (mag y) ≠ sg (ng y) (mag y / U * U) := by unfold sg; split <;> omega
    rcases Int.lt_trichotomy (sg (ng y) (mag y)) (sg (ng y) (mag y / U * U)) with h1 | h1 | h1
    · rw [Int.compare_eq_lt.2 h1]; rfl
    · exact absurd h1 this
    · rw [Int.compare_eq_gt.2 h1]; rfl
theorem w_nonzero (b : Nat) (p : Bool) (h : decide (rung b = 0) = p) : (FloatKind.f64.format.order b 0 != some Ordering.eq) = !p := by
  show (!(Ieee.double.order b 0 == some .eq)) = !p
  rw [zero_eq, h]
theorem x_int (y : Nat) (h : FM.Fin y) (q : Int) (hq : q = sg (ng y) (mag y / U)) (h1 : mag y / U < 9223372036854775808) (w : World) : (convert 23 3 (.float .f64 y)).run Try.prog w = .ok (.int .i64 q) w := by
  refine run_convert_float_int (P := Try.prog) w 23 3 .f64 .i64 y q (by rw [Try.underlying23]; rfl) Try.underlying3 ?_
  unfold floatToIntVal
  have h2 : (FloatKind.f64.decode y).toInt .zero = some (sg (ng y) (mag y / U)) := toInt_sg h
  simp only [h2]
  have h3 : IntKind.i64.min = -9223372036854775808 := by decide
  have h4 : IntKind.i64.max = 9223372036854775807 := by decide
  generalize mag y / U = Q at *
  rw [h3, h4, if_pos (by unfold sg; split <;> omega), hq]

theorem kind_other {b : Nat} (h1 : ¬ 9218868437227405312 < rung b) (h2 : ¬ (rung b = 9218868437227405312 ∨ (rung b = 0 ∧ ng b = true))) : kindB b = 3 ∨ kindB b = 5 ∨ kindB b = 6 := by
  unfold kindB
  rw [if_neg h1, if_neg (fun h => h2 (.inl h))]
  split
  · rw [if_neg (fun h => h2 (.inr ⟨by assumption, h⟩))]; exact .inl rfl
  · split
    · exact .inr (.inl rfl)
    · exact .inr (.inr rfl)
theorem kind_out {b : Nat} (h1 : ¬ 9218868437227405312 < rung b) (h2 : rung b = 9218868437227405312 ∨ (rung b = 0 ∧ ng b = true)) : kindB b = 1 ∨ kindB b = 2 ∨ kindB b = 4 := by
  unfold kindB
  rw [if_neg h1]
  rcases h2 with h2 | ⟨h2, h3⟩
  · rw [if_pos h2]
    split
    · exact .inr (.inl rfl)
    · exact .inl rfl
  · rw [if_neg (by omega), if_pos h2, if_pos h3]; exact .inr (.inr rfl)

set_option maxRecDepth 100000 in
theorem Scaled13 (b : Nat) (hb : b < 2 ^ 64) (up : Int) (w : World) : Calls Try.prog 13 #[.float .f64 b, .int .i64 up] w fun e w' => e = .returned (.tuple #[.int .i64 (scaledB b up).1, .int .i64 (scaledB b up).2]) ∧ w' = w := by
  obtain ⟨v, hv⟩ : ∃ v, v = scaledB b up := ⟨_, rfl⟩
  rw [← hv]
  unfold scaledB at hv
  go_enter Try.func13, Try.ntmps13
  by_cases h1 : up < 0
  · have t1 : decide (up < 0) = true := decide_eq_true h1
    rw [if_pos (.inl h1)] at hv
    replace hv := Lib.hid hv
    go_wp2
    go_ret2
    exact ⟨by rw [hv.out]; rfl, rfl⟩
  have t1 : decide (up < 0) = false := decide_eq_false h1
  by_cases h2 : 30 < up
  · have t2 : decide (30 < up) = true := decide_eq_true h2
    rw [if_pos (.inr h2)] at hv
    replace hv := Lib.hid hv
    go_wp2
    go_ret2
    exact ⟨by rw [hv.out]; rfl, rfl⟩
  have t2 : decide (30 < up) = false := decide_eq_false h2
  rw [if_neg (by omega)] at hv
  replace hv := Lib.hid hv
  go_wp2_with fail
  refine (Kind19 b hb _).mono ?_
  rintro e _ ⟨rfl, rfl⟩
  by_cases h3 : 9218868437227405312 < rung b
  · have hk : kindB b = 0 := by unfold kindB; rw [if_pos h3]
    go_wp2
    go_ret2
    exact ⟨by rw [hv.out, if_pos h3]; rfl, rfl⟩
  by_cases h4 : rung b = 9218868437227405312 ∨ (rung b = 0 ∧ ng b = true)
  · have hk := kind_out h3 h4
    replace h4 := Lib.hid h4
    rcases hk with hk | hk | hk
    all_goals
      go_wp2
      go_ret2
      exact ⟨by rw [hv.out, if_neg h3, if_pos h4.out]; rfl, rfl⟩
  have hk : (kindB b == (0 : Int)) = false ∧ (kindB b == (1 : Int)) = false ∧ (kindB b == (2 : Int)) = false ∧ (kindB b == (4 : Int)) = false := by
    rcases kind_other h3 h4 with h | h | h <;> rw [h] <;> decide
  obtain ⟨k0, k1, k2, k4⟩ := hk
  replace h4 := Lib.hid h4
  go_wp2_with fail
  refine (Abs31 b hb _).mono ?_
  rintro e _ ⟨rfl, rfl⟩
  have hfin : FM.Fin b := by have h5 := h4.out; unfold FM.Fin; omega
  by_cases h5 : 4746794007248502784 < rung b
  · have t3 := w_gt (rung b) 4746794007248502784 true (rung_lt b) (by decide) (decide_eq_true ⟨h5, by omega⟩)
    have hbig : ∀ q : Nat, 1 ≤ q → mag b * q % U = 0 → 2147483648 < mag b * q / U := by
      intro q hq hm
      have h6 := mag_lt.1 h5
      rw [mag_bound] at h6
      have h7 : mag b * 1 ≤ mag b * q := Nat.mul_le_mul_left _ hq
      have h8 := Nat.div_add_mod (mag b * q) U
      rw [hm, Nat.mul_comm] at h8
      refine Nat.lt_of_mul_lt_mul_right (a := U) ?_
      omega
    go_wp2
    go_ret2
    refine ⟨?_, rfl⟩
    rw [hv.out, if_neg h3, if_neg h4.out, if_neg]
    · rfl
    · intro ⟨h6, h7⟩
      have h8 := hbig _ (Nat.two_pow_pos up.toNat) h6
      rw [coordB_iff] at h7
      unfold sg at h7
      split at h7 <;> omega
  have t3 := w_gt (rung b) 4746794007248502784 false (rung_lt b) (by decide) (decide_eq_false (by omega))
  have hl : lev (rung b) ≤ 1053 := by unfold lev; split <;> omega
  obtain ⟨u, hu⟩ : ∃ u : Nat, u = up.toNat := ⟨_, rfl⟩
  have hN := has_scaled (b := b) (u := u) hfin (by omega)
  have hle : mag b * 2 ^ u / U < 9223372036854775808 := by
    have h6 : mag b ≤ 2147483648 * U := by rw [← mag_bound]; exact magR_le (by omega)
    have h7 : 2 ^ u ≤ 2 ^ 30 := Nat.pow_le_pow_right (by decide) (by omega)
    have h8 : mag b * 2 ^ u ≤ 2147483648 * U * 2 ^ 30 := Nat.mul_le_mul h6 h7
    rw [Nat.mul_right_comm] at h8
    have h9 := Nat.div_le_div_right (c := U) h8
    rw [Nat.mul_div_cancel _ U_pos] at h9
    have : (2147483648 * 2 ^ 30 : Nat) < 9223372036854775808 := by decide
    omega
  go_wp2_with fail
  refine (Ldexp b hb hfin up (by omega) (by omega) (mag b * 2 ^ u) 0 u hN (by rw [Nat.pow_zero, Nat.mul_one]) (by omega) _).mono ?_
  rintro e _ ⟨rfl, rfl⟩
  obtain ⟨m1, m2, m3, m4⟩ := mag_wd (s := ng b) hN
  have hrz : rung (wd (ng b) (rungOf (mag b * 2 ^ u))) = 0 ↔ rung b = 0 := by
    rw [← mag_zero, m1, ← mag_zero, Nat.mul_eq_zero]
    exact or_iff_left (Nat.ne_of_gt (Nat.two_pow_pos _))
  generalize wd (ng b) (rungOf (mag b * 2 ^ u)) = y at *
  rw [← hu, ← m1] at hv
  rw [← m1] at hle
  go_wp2_with fail
  refine (Trunc33 y m3 _).mono ?_
  rintro e _ ⟨rfl, rfl⟩
  by_cases h6 : mag y % U = 0
  · have t4 := w_trunc y m3 true (decide_eq_true h6)
    obtain ⟨q, hq⟩ : ∃ q, q = sg (ng y) (mag y / U) := ⟨_, rfl⟩
    have hxq := x_int y m3 q hq hle
    rw [m2] at hq
    rw [← hq] at hv
    have hy0 : ((FloatKind.f64.format.order y 0 == some Ordering.eq) = true ∧ (FloatKind.f64.format.order b 0 != some Ordering.eq) = false) ∨ ((FloatKind.f64.format.order y 0 == some Ordering.eq) = false) := by
      by_cases h7 : rung b = 0
      · exact .inl ⟨w_zero y true (decide_eq_true (hrz.2 h7)), w_nonzero b true (decide_eq_true h7)⟩
      · exact .inr (w_zero y false (decide_eq_false fun hc => h7 (hrz.1 hc)))
    replace hq := Lib.hid hq
    rcases hy0 with ⟨y1, y2⟩ | y1
    all_goals
      go_wp2_with fail
      refine (coord34 q _).mono ?_
      rintro e _ ⟨rfl, rfl⟩
      cases hc : coordB q
      · go_wp2
        go_ret2
        refine ⟨?_, rfl⟩
        rw [hv.out, if_neg h3, if_neg h4.out, if_neg (fun h => by rw [hc] at h; cases h.2)]
        rfl
      · go_wp2
        go_ret2
        refine ⟨?_, rfl⟩
        rw [hv.out, if_neg h3, if_neg h4.out, if_pos ⟨h6, hc⟩]
        rfl
  · have t4 := w_trunc y m3 false (decide_eq_false h6)
    go_wp2
    go_ret2
    refine ⟨?_, rfl⟩
    rw [hv.out, if_neg h3, if_neg h4.out, if_neg (fun h => h6 h.1)]
    rfl
set_option maxRecDepth 100000 in
theorem Int15 (b : Nat) (hb : b < 2 ^ 64) (w : World) : Calls Try.prog 15 #[.float .f64 b] w fun e w' => e = .returned (.tuple #[.int .i64 (scaledB b 0).1, .int .i64 (scaledB b 0).2]) ∧ w' = w := by
  go_enter Try.func15, Try.ntmps15
  go_wp2_with fail
  refine (Scaled13 b hb 0 _).mono ?_
  rintro e _ ⟨rfl, rfl⟩
  go_wp2
  go_ret2
  exact ⟨rfl, rfl⟩

set_option maxRecDepth 100000 in
theorem Round17 (b : Nat) (hb : b < 2 ^ 64) (w : World) : Calls Try.prog 17 #[.float .f64 b] w fun e w' => e = .returned (.tuple #[.int .i64 (roundB b).1, .int .i64 (roundB b).2]) ∧ w' = w := by
  obtain ⟨v, hv⟩ : ∃ v, v = roundB b := ⟨_, rfl⟩
  rw [← hv]
  unfold roundB at hv
  replace hv := Lib.hid hv
  go_enter Try.func17, Try.ntmps17
  by_cases h3 : 9218868437227405312 < rung b
  · have t1 := w_self b true (decide_eq_true h3)
    go_wp2
    go_ret2
    exact ⟨by rw [hv.out, if_pos h3]; rfl, rfl⟩
  have t1 := w_self b false (decide_eq_false h3)
  by_cases h4 : rung b = 9218868437227405312
  · have hx := x38i b hb h4
    go_wp2_with fail
    refine (Abs31 b hb _).mono ?_
    rintro e _ ⟨rfl, rfl⟩
    have t3 := w_gt (rung b) 4746794007248502784 true (rung_lt b) (by decide) (decide_eq_true ⟨by omega, by omega⟩)
    go_wp2
    go_ret2
    exact ⟨by rw [hv.out, if_neg h3, if_pos h4]; rfl, rfl⟩
  have hfin : FM.Fin b := by unfold FM.Fin; omega
  have hx := x38 b hfin
  obtain ⟨m1, m2, m3, m4⟩ := mag_wd (s := ng b) (has_whole hfin).2
  have hy : evenB b = wd (ng b) (rungOf (rnd (mag b) U * U)) := rfl
  rw [← hy] at m1 m2 m3 m4
  replace hy := Lib.hid hy
  generalize evenB b = y at *
  have hq1 : mag y / U = rnd (mag b) U := by rw [m1, Nat.mul_div_cancel _ U_pos]
  go_wp2_with fail
  refine (Abs31 y m4 _).mono ?_
  rintro e _ ⟨rfl, rfl⟩
  by_cases h5 : 4746794007248502784 < rung y
  · have t3 := w_gt (rung y) 4746794007248502784 true (rung_lt y) (by decide) (decide_eq_true ⟨h5, Nat.le_of_lt m3⟩)
    go_wp2
    go_ret2
    refine ⟨?_, rfl⟩
    have h6 := mag_lt.1 h5
    rw [mag_bound, m1] at h6
    have h7 := Nat.lt_of_mul_lt_mul_right h6
    rw [hv.out, if_neg h3, if_neg h4, if_neg]
    · rfl
    · rw [coordB_iff]
      unfold sg
      split <;> omega
  have t3 := w_gt (rung y) 4746794007248502784 false (rung_lt y) (by decide) (decide_eq_false (by omega))
  have hle : mag y / U < 9223372036854775808 := by
    have h6 : mag y ≤ 2147483648 * U := by rw [← mag_bound]; exact magR_le (by omega)
    have h9 := Nat.div_le_div_right (c := U) h6
    rw [Nat.mul_div_cancel _ U_pos] at h9
    omega
  obtain ⟨q, hq⟩ : ∃ q, q = sg (ng y) (mag y / U) := ⟨_, rfl⟩
  have hxq := x_int y m3 q hq hle
  rw [m2, hq1] at hq
  rw [← hq] at hv
  replace hq := Lib.hid hq
  replace hq1 := Lib.hid hq1
  go_wp2_with fail
  refine (coord34 q _).mono ?_
  rintro e _ ⟨rfl, rfl⟩
  cases hc : coordB q
  · go_wp2
    go_ret2
    refine ⟨?_, rfl⟩
    rw [hv.out, if_neg h3, if_neg h4, if_neg (fun h => by rw [hc] at h; cases h)]
    rfl
  · go_wp2
    go_ret2
    refine ⟨?_, rfl⟩
    rw [hv.out, if_neg h3, if_neg h4, if_pos hc]
    rfl

theorem x_float (n : Int) (h : n.natAbs < 9007199254740992) (w : World) : (convert 3 23 (.int .i64 n)).run Try.prog w = .ok (.float .f64 (ofI n)) w := by
  rw [run_convert_int_float w 3 23 .i64 .f64 n (by rw [Try.underlying3]; rfl) Try.underlying23]
  congr 2
  exact ofI_enc h

set_option maxRecDepth 100000 in
theorem Float25 (n up : Int) (hn : -9223372036854775808 ≤ n) (hn2 : n ≤ 9223372036854775807) (w : World) : Calls Try.prog 25 #[.int .i64 n, .int .i64 up] w fun e w' => e = .returned (.tuple #[.float .f64 (floatB n up).1, .int .i64 (floatB n up).2]) ∧ w' = w := by
  obtain ⟨v, hv⟩ : ∃ v, v = floatB n up := ⟨_, rfl⟩
  rw [← hv]
  unfold floatB at hv
  replace hv := Lib.hid hv
  go_enter Try.func25, Try.ntmps25
  by_cases h1 : up < 0
  · have t1 : decide (up < 0) = true := decide_eq_true h1
    go_wp2
    go_ret2
    exact ⟨by rw [hv.out, if_pos (.inl h1)]; rfl, rfl⟩
  have t1 : decide (up < 0) = false := decide_eq_false h1
  by_cases h2 : 30 < up
  · have t2 : decide (30 < up) = true := decide_eq_true h2
    go_wp2
    go_ret2
    exact ⟨by rw [hv.out, if_pos (.inr (.inl h2))]; rfl, rfl⟩
  have t2 : decide (30 < up) = false := decide_eq_false h2
  go_wp2_with fail
  refine (coord34 n _).mono ?_
  rintro e _ ⟨rfl, rfl⟩
  cases hc : coordB n
  · go_wp2
    go_ret2
    refine ⟨by rw [hv.out, if_pos (.inr (.inr hc))]; rfl, rfl⟩
  have hc' := (coordB_iff n).1 hc
  have hx := x_float n (by omega)
  obtain ⟨f1, f2, f3, f4, f5⟩ := ofI_facts (n := n) (by omega)
  obtain ⟨u, hu⟩ : ∃ u : Nat, u = up.toNat := ⟨_, rfl⟩
  have hN := has_float (n := n.natAbs) (u := u) (by omega) (by omega)
  have hac : n.natAbs * U / 2 ^ u * 2 ^ u = mag (ofI n) * 2 ^ 0 := by
    rw [f3, U_div (by omega), Nat.pow_zero, Nat.mul_one, Nat.mul_assoc, ← U_cut (by omega)]
  have hL := Ldexp (ofI n) f5 f1 (-up) (by omega) (by omega) _ u 0 hN hac (by omega)
  rw [f2] at hL
  rw [← hu] at hv
  have hvv := hv.out
  rw [if_neg (by rw [hc]; intro h; rcases h with h | h | h; omega; omega; cases h)] at hvv
  replace hvv := Lib.hid hvv
  clear hv hac hN f1 f2 f3 f4 f5
  replace hu := Lib.hid hu
  generalize wd (decide (n < 0)) (rungOf (n.natAbs * U / 2 ^ u)) = y at *
  go_wp2_with fail
  refine (hL _).mono ?_
  rintro e _ ⟨rfl, rfl⟩
  go_wp2
  go_ret2
  exact ⟨by rw [hvv.out]; rfl, rfl⟩
end Go.Proofs.Ytpkcabpnehbmhaa.GW
