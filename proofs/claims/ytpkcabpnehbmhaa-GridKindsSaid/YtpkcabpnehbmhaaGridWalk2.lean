/- The walks of the floating functions: infinities, kinds, sameness. -/
import Derived.Test.YtpkcabpnehbmhaaGridWalk
namespace Go.Proofs.Ytpkcabpnehbmhaa.GW
open Go Go.RowKit Go.Proofs.Ytpkcabpnehbmhaa.Mem Go.Proofs.Ytpkcabpnehbmhaa.FM
set_option linter.unusedVariables false
set_option linter.unusedSimpArgs false

theorem plain_nan {x y : Nat} (hx : x < 9223372036854775808) (h : 9218868437227405312 < x) : Ieee.double.order x y = none :=
  order_nan (.inl (by unfold rung; rw [Nat.mod_eq_of_lt hx]; exact h))
theorem plain_lt {x y : Nat} (hx : x < 9223372036854775808) (hy : y ≤ 9218868437227405312) : (Ieee.double.order x y == some .lt) = decide (x < y) := by
  by_cases h : 9218868437227405312 < x
  · rw [plain_nan hx h, decide_eq_false (by omega)]; rfl
  · rw [order_plain (by omega) hy]
    rcases Nat.lt_trichotomy x y with h1 | h1 | h1
    · rw [Nat.compare_eq_lt.2 h1, decide_eq_true h1]; rfl
    · rw [Nat.compare_eq_eq.2 h1, decide_eq_false (by omega)]; rfl
    · rw [Nat.compare_eq_gt.2 h1, decide_eq_false (by omega)]; rfl
theorem plain_gt {x y : Nat} (hx : x < 9223372036854775808) (hy : y ≤ 9218868437227405312) : (Ieee.double.order x y == some .gt) = decide (y < x ∧ x ≤ 9218868437227405312) := by
  by_cases h : 9218868437227405312 < x
  · rw [plain_nan hx h, decide_eq_false (by omega)]; rfl
  · rw [order_plain (by omega) hy]
    rcases Nat.lt_trichotomy x y with h1 | h1 | h1
    · rw [Nat.compare_eq_lt.2 h1, decide_eq_false (by omega)]; rfl
    · rw [Nat.compare_eq_eq.2 h1, decide_eq_false (by omega)]; rfl
    · rw [Nat.compare_eq_gt.2 h1, decide_eq_true (by omega)]; rfl
theorem fin_zero : FM.Fin 0 := by unfold FM.Fin; decide
theorem V_zero : V 0 = 0 := by decide
theorem V_nought {b : Nat} : V b = 0 ↔ rung b = 0 := by
  rw [V_sg, ← mag_zero]
  unfold sg
  split <;> omega
theorem zero_eq (b : Nat) : (Ieee.double.order b 0 == some .eq) = decide (rung b = 0) := by
  rcases Nat.lt_trichotomy (rung b) 9218868437227405312 with h | h | h
  · rw [order_fin h fin_zero, V_zero]
    rcases Int.lt_trichotomy (V b) 0 with h1 | h1 | h1
    · rw [Int.compare_eq_lt.2 h1, decide_eq_false (fun hc => by have := V_nought.2 hc; omega)]; rfl
    · rw [Int.compare_eq_eq.2 h1, decide_eq_true (V_nought.1 h1)]; rfl
    · rw [Int.compare_eq_gt.2 h1, decide_eq_false (fun hc => by have := V_nought.2 hc; omega)]; rfl
  · rw [order_inf_l h fin_zero, decide_eq_false (by omega)]; cases ng b <;> rfl
  · rw [order_nan (.inl h), decide_eq_false (by omega)]; rfl
theorem fin_max : FM.Fin 9218868437227405311 := by unfold FM.Fin; decide
theorem ng_max : ng 9218868437227405311 = false := by decide
theorem rung_max : rung 9218868437227405311 = 9218868437227405311 := by decide
/-- Beyond the greatest number. -/
theorem gt_max (b : Nat) : (Ieee.double.order b 9218868437227405311 == some .gt) = decide (rung b = 9218868437227405312 ∧ ng b = false) := by
  rcases Nat.lt_trichotomy (rung b) 9218868437227405312 with h | h | h
  · rw [order_fin h fin_max, decide_eq_false (by omega)]
    have h1 : V b ≤ V 9218868437227405311 := by
      have h2 : mag b ≤ mag 9218868437227405311 := by
        unfold mag
        rw [rung_max]
        exact magR_le (by omega)
      rw [V_sg, V_sg, ng_max]
      unfold sg
      split <;> simp <;> omega
    rcases Int.lt_or_eq_of_le h1 with h2 | h2
    · rw [Int.compare_eq_lt.2 h2]; rfl
    · rw [Int.compare_eq_eq.2 h2]; rfl
  · rw [order_inf_l h fin_max]
    by_cases hn : ng b = true
    · rw [if_pos hn, decide_eq_false (by simp [hn])]; rfl
    · rw [if_neg hn, decide_eq_true ⟨h, by simpa using hn⟩]; rfl
  · rw [order_nan (.inl h), decide_eq_false (by omega)]; rfl

def infB (b : Nat) (s : Int) : Bool := decide (rung b = 9218868437227405312) && (decide (s = 0) || (decide (0 < s) && !ng b) || (decide (s < 0) && ng b))

def negb (b : Nat) : Nat := b ^^^ 9223372036854775808
theorem neg_facts (b : Nat) (hb : b < 18446744073709551616) : rung (negb b) = rung b ∧ ng (negb b) = !ng b := by
  have h1 := Nat.xor_mod_two_pow (a := b) (b := 9223372036854775808) (n := 63)
  have h2 := Nat.xor_div_two_pow (a := b) (b := 9223372036854775808) (n := 63)
  rw [show (2 : Nat) ^ 63 = 9223372036854775808 by decide] at h1 h2
  rw [show (9223372036854775808 % 9223372036854775808 : Nat) = 0 by decide, Nat.xor_zero] at h1
  rw [show (9223372036854775808 / 9223372036854775808 : Nat) = 1 by decide] at h2
  refine ⟨h1, ?_⟩
  show ((b ^^^ 9223372036854775808) / 9223372036854775808 % 2 == 1) = _
  rw [h2]
  have h3 : b / 9223372036854775808 < 2 := by omega
  unfold ng
  have : b / 9223372036854775808 = 0 ∨ b / 9223372036854775808 = 1 := by omega
  rcases this with h | h <;> rw [h] <;> rfl

theorem xneg (b : Nat) (w : World) : Sem.run Try.prog (Op.unary .neg (.float .f64 b)) w = .ok (.float .f64 (negb b)) w := rfl
theorem rung_rung (b : Nat) : rung (rung b) = rung b ∧ ng (rung b) = false := by
  have h := rung_lt b
  refine ⟨Nat.mod_eq_of_lt h, ?_⟩
  show (rung b / 9223372036854775808 % 2 == 1) = _
  rw [Nat.div_eq_of_lt h]
  rfl

set_option maxRecDepth 100000 in
theorem IsInf39 (b : Nat) (hb : b < 2 ^ 64) (s : Int) (w : World) : Calls Try.prog 39 #[.float .f64 b, .int .i64 s] w fun e w' => e = .returned (.bool (infB b s)) ∧ w' = w := by
  have hg := gt_max b
  have hgn := gt_max (negb b)
  have hn := xneg
  go_enter Try.func39, Try.ntmps39
  rcases Int.lt_trichotomy s 0 with h | h | h
  · have h0 : (s == 0) = false := beq_eq_false_iff_ne.2 (by omega)
    have h1 : decide (s < 0) = true := decide_eq_true h
    go_wp2
    go_ret
    refine ⟨?_, rfl⟩
    show Ending.returned (Value.bool (Ieee.double.order (negb b) 9218868437227405311 == some Ordering.gt)) = _
    rw [hgn, (neg_facts b hb).1, (neg_facts b hb).2]
    unfold infB
    rw [h1, decide_eq_false (show ¬ s = 0 by omega), decide_eq_false (show ¬ 0 < s by omega)]
    cases ng b <;> simp
  · subst h
    go_wp2_with fail
    refine (Abs31 b hb _).mono ?_
    rintro e _ ⟨rfl, rfl⟩
    have hg' := gt_max (rung b)
    go_wp2
    go_ret
    refine ⟨?_, rfl⟩
    show Ending.returned (Value.bool (Ieee.double.order (rung b) 9218868437227405311 == some Ordering.gt)) = _
    rw [hg', (rung_rung b).1, (rung_rung b).2]
    unfold infB
    simp
  · have h0 : (s == 0) = false := beq_eq_false_iff_ne.2 (by omega)
    have h1 : decide (s < 0) = false := decide_eq_false (by omega)
    go_wp2
    go_ret
    refine ⟨?_, rfl⟩
    show Ending.returned (Value.bool (Ieee.double.order b 9218868437227405311 == some Ordering.gt)) = _
    rw [hg]
    unfold infB
    rw [h1, decide_eq_false (show ¬ s = 0 by omega), decide_eq_true (show 0 < s by omega)]
    cases ng b <;> simp

/-- In the walk's own words. -/
theorem w_self (b : Nat) (p : Bool) (h : decide (9218868437227405312 < rung b) = p) : (FloatKind.f64.format.order b b != some Ordering.eq) = p := by
  show (!(Ieee.double.order b b == some .eq)) = p
  rw [self_order, ← h]
  by_cases h1 : 9218868437227405312 < rung b <;> simp [h1]
theorem w_zero (b : Nat) (p : Bool) (h : decide (rung b = 0) = p) : (FloatKind.f64.format.order b 0 == some Ordering.eq) = p := (zero_eq b).trans h
theorem w_lt (x y : Nat) (p : Bool) (hx : x < 9223372036854775808) (hy : y ≤ 9218868437227405312) (h : decide (x < y) = p) : (FloatKind.f64.format.order x y == some Ordering.lt) = p := (plain_lt hx hy).trans h
theorem w_gt (x y : Nat) (p : Bool) (hx : x < 9223372036854775808) (hy : y ≤ 9218868437227405312) (h : decide (y < x ∧ x ≤ 9218868437227405312) = p) : (FloatKind.f64.format.order x y == some Ordering.gt) = p := (plain_gt hx hy).trans h

set_option maxRecDepth 100000 in
theorem Kind19 (b : Nat) (hb : b < 2 ^ 64) (w : World) : Calls Try.prog 19 #[.float .f64 b] w fun e w' => e = .returned (.int .i64 (kindB b)) ∧ w' = w := by
  go_enter Try.func19, Try.ntmps19
  by_cases h1 : 9218868437227405312 < rung b
  · have hs := w_self b true (decide_eq_true h1)
    go_wp2
    go_ret
    exact ⟨by unfold kindB; rw [if_pos h1]; rfl, rfl⟩
  have hs := w_self b false (decide_eq_false h1)
  go_wp2_with fail
  refine (IsInf39 b hb _ _).mono ?_
  rintro e _ ⟨rfl, rfl⟩
  by_cases h2 : rung b = 9218868437227405312
  · cases h3 : ng b
    · have : infB b 1 = true := by unfold infB; rw [h3, h2]; rfl
      go_wp2
      go_ret
      exact ⟨by unfold kindB; rw [if_neg h1, if_pos h2, h3]; rfl, rfl⟩
    · have : infB b 1 = false := by unfold infB; rw [h3, h2]; rfl
      go_wp2_with fail
      refine (IsInf39 b hb _ _).mono ?_
      rintro e _ ⟨rfl, rfl⟩
      have : infB b (-1) = true := by unfold infB; rw [h3, h2]; rfl
      go_wp2
      go_ret
      exact ⟨by unfold kindB; rw [if_neg h1, if_pos h2, h3]; rfl, rfl⟩
  have hi : ∀ s, infB b s = false := fun s => by unfold infB; rw [decide_eq_false h2]; rfl
  have hi1 := hi 1
  have hi2 := hi (-1)
  go_wp2_with fail
  refine (IsInf39 b hb _ _).mono ?_
  rintro e _ ⟨rfl, rfl⟩
  by_cases h4 : rung b = 0
  · have hz := w_zero b true (decide_eq_true h4)
    go_wp2_with fail
    refine (Signbit40 b hb _).mono ?_
    rintro e _ ⟨rfl, rfl⟩
    cases h3 : ng b
    · go_wp2
      go_ret
      exact ⟨by unfold kindB; rw [if_neg h1, if_neg h2, if_pos h4, h3]; rfl, rfl⟩
    · go_wp2
      go_ret
      exact ⟨by unfold kindB; rw [if_neg h1, if_neg h2, if_pos h4, h3]; rfl, rfl⟩
  have hz := w_zero b false (decide_eq_false h4)
  go_wp2_with fail
  refine (Abs31 b hb _).mono ?_
  rintro e _ ⟨rfl, rfl⟩
  by_cases h5 : rung b < 4503599627370496
  · have hl := w_lt (rung b) 4503599627370496 true (rung_lt b) (by decide) (decide_eq_true h5)
    go_wp2
    go_ret
    exact ⟨by unfold kindB; rw [if_neg h1, if_neg h2, if_neg h4, if_pos h5]; rfl, rfl⟩
  · have hl := w_lt (rung b) 4503599627370496 false (rung_lt b) (by decide) (decide_eq_false h5)
    go_wp2
    go_ret
    exact ⟨by unfold kindB; rw [if_neg h1, if_neg h2, if_neg h4, if_neg h5]; rfl, rfl⟩

set_option maxRecDepth 100000 in
theorem Kind20 (b : Nat) (hb : b < 2 ^ 64) (w : World) : Calls Try.prog 20 #[.float .f64 b] w fun e w' => e = .returned (.int .i64 (kindB b)) ∧ w' = w := by
  go_enter Try.func20, Try.ntmps20
  go_wp2_with fail
  refine (parts35 b hb _).mono ?_
  rintro e _ ⟨rfl, rfl⟩
  have hr := rung_lt b
  by_cases h1 : 9218868437227405312 < rung b
  · have e1 : rung b / 4503599627370496 = 2047 := by omega
    have e2 : decide ((0 : Int) < (rung b : Int) % 4503599627370496) = true := decide_eq_true (by omega)
    go_wp2
    go_ret
    exact ⟨by unfold kindB; rw [if_pos h1]; rfl, rfl⟩
  by_cases h2 : rung b = 9218868437227405312
  · have e1 : rung b / 4503599627370496 = 2047 := by omega
    have e2 : rung b % 4503599627370496 = 0 := by omega
    cases h3 : ng b
    · skip
      go_wp2
      go_ret
      exact ⟨by unfold kindB; rw [if_neg h1, if_pos h2, h3]; rfl, rfl⟩
    · skip
      go_wp2
      go_ret
      exact ⟨by unfold kindB; rw [if_neg h1, if_pos h2, h3]; rfl, rfl⟩
  by_cases h4 : rung b = 0
  · have e1 : rung b / 4503599627370496 = 0 := by omega
    have e2 : rung b % 4503599627370496 = 0 := by omega
    cases h3 : ng b
    · skip
      go_wp2
      go_ret
      exact ⟨by unfold kindB; rw [if_neg h1, if_neg h2, if_pos h4, h3]; rfl, rfl⟩
    · skip
      go_wp2
      go_ret
      exact ⟨by unfold kindB; rw [if_neg h1, if_neg h2, if_pos h4, h3]; rfl, rfl⟩
  by_cases h5 : rung b < 4503599627370496
  · have e1 : rung b / 4503599627370496 = 0 := by omega
    have e2 : rung b % 4503599627370496 = rung b := by omega
    have e3 : ((rung b : Int) == 0) = false := beq_eq_false_iff_ne.2 (by omega)
    have e4 : (rung b == 0) = false := beq_eq_false_iff_ne.2 (by omega)
    go_wp2
    go_ret
    exact ⟨by unfold kindB; rw [if_neg h1, if_neg h2, if_neg h4, if_pos h5]; rfl, rfl⟩
  · have e1 : (((rung b : Int) / 4503599627370496) == 2047) = false := beq_eq_false_iff_ne.2 (by omega)
    have e2 : (((rung b : Int) / 4503599627370496) == 0) = false := beq_eq_false_iff_ne.2 (by omega)
    go_wp2
    go_ret
    exact ⟨by unfold kindB; rw [if_neg h1, if_neg h2, if_neg h4, if_neg h5]; rfl, rfl⟩

set_option maxRecDepth 100000 in
theorem Same21 (x y : Nat) (hx : x < 2 ^ 64) (hy : y < 2 ^ 64) (w : World) : Calls Try.prog 21 #[.float .f64 x, .float .f64 y] w fun e w' => e = .returned (.bool (sameB x y)) ∧ w' = w := by
  have h27 := x27
  go_enter Try.func21, Try.ntmps21
  by_cases h : x = y
  · subst h
    go_wp2
    go_ret
    exact ⟨by unfold sameB; rw [decide_eq_true rfl]; rfl, rfl⟩
  have h0 : ((x : Int) == (y : Int)) = false := beq_eq_false_iff_ne.2 (by omega)
  have h0' : (x == y) = false := beq_eq_false_iff_ne.2 h
  by_cases h1 : 9218868437227405312 < rung x
  · have hs := w_self x true (decide_eq_true h1)
    have hs2 := w_self y _ rfl
    go_wp2
    go_ret
    exact ⟨by unfold sameB; rw [decide_eq_false h, decide_eq_true h1]; rfl, rfl⟩
  · have hs := w_self x false (decide_eq_false h1)
    go_wp2
    go_ret
    exact ⟨by unfold sameB; rw [decide_eq_false h, decide_eq_false h1]; rfl, rfl⟩

theorem kind_nan (b : Nat) (p : Bool) (h : decide (9218868437227405312 < rung b) = p) : (kindB b == (0 : Int)) = p := by
  subst h
  unfold kindB
  by_cases h1 : 9218868437227405312 < rung b
  · rw [if_pos h1, decide_eq_true h1]; rfl
  · rw [if_neg h1, decide_eq_false h1]
    split
    · split <;> rfl
    · split
      · split <;> rfl
      · split <;> rfl
set_option maxRecDepth 100000 in
theorem Same22 (x y : Nat) (hx : x < 2 ^ 64) (hy : y < 2 ^ 64) (w : World) : Calls Try.prog 22 #[.float .f64 x, .float .f64 y] w fun e w' => e = .returned (.bool (sameB x y)) ∧ w' = w := by
  have h27 := x27
  go_enter Try.func22, Try.ntmps22
  by_cases h : x = y
  · subst h
    go_wp2
    go_ret
    exact ⟨by unfold sameB; rw [decide_eq_true rfl]; rfl, rfl⟩
  have h0 : ((x : Int) == (y : Int)) = false := beq_eq_false_iff_ne.2 (by omega)
  have h0' : (x == y) = false := beq_eq_false_iff_ne.2 h
  go_wp2_with fail
  refine (Kind20 x hx _).mono ?_
  rintro e _ ⟨rfl, rfl⟩
  by_cases h1 : 9218868437227405312 < rung x
  · have hs := kind_nan x true (decide_eq_true h1)
    go_wp2_with fail
    refine (Kind20 y hy _).mono ?_
    rintro e _ ⟨rfl, rfl⟩
    have hs2 := kind_nan y _ rfl
    go_wp2
    go_ret
    exact ⟨by unfold sameB; rw [decide_eq_false h, decide_eq_true h1]; rfl, rfl⟩
  · have hs := kind_nan x false (decide_eq_false h1)
    go_wp2
    go_ret
    exact ⟨by unfold sameB; rw [decide_eq_false h, decide_eq_false h1]; rfl, rfl⟩
end Go.Proofs.Ytpkcabpnehbmhaa.GW
