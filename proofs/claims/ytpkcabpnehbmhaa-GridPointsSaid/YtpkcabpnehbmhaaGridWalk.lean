/- The walks of the floating functions, each once. -/
import Derived.Test.YtpkcabpnehbmhaaMem
import Derived.Test.YtpkcabpnehbmhaaFloatMath3
import Derived.WalkLawsBesides
import Derived.Laws.Externs
import Derived.Laws.Cover2
import Derived.Laws.BitsAllLaws
namespace Go.Proofs.Ytpkcabpnehbmhaa.GW
open Go Go.RowKit Go.Proofs.Ytpkcabpnehbmhaa.Mem Go.Proofs.Ytpkcabpnehbmhaa.FM
set_option linter.unusedVariables false
set_option linter.unusedSimpArgs false

theorem x27 (b : Nat) (w : World) : (Sem.run Try.prog (callFunc 27 #[.float .f64 b]) w) = .ok (.value (.int .u64 b)) w := by
  rw [run_callFunc_extern (e := Extern.MathFloatBits.float64bits) Try.func27 (by kernel_rfl) (by kernel_rfl) (by kernel_rfl) (by kernel_rfl)]
  rfl
theorem x12 (n : Int) (w : World) : (Sem.run Try.prog (callFunc 12 #[.int .u64 n]) w) = .ok (.value (.float .f64 n.toNat)) w := by
  rw [run_callFunc_extern (e := Extern.MathFloatBits.float64frombits) Try.func12 (by kernel_rfl) (by kernel_rfl) (by kernel_rfl) (by kernel_rfl)]
  rfl

def sb (s : Bool) : Nat := if s then 9223372036854775808 else 0
theorem sb_lt (s : Bool) : sb s < 18446744073709551616 := by cases s <;> decide
theorem sb_mod (s : Bool) : sb s % 2 ^ 63 = 0 := by cases s <;> decide
theorem wd_sb (s : Bool) (r : Nat) : wd s r = sb s + r := by unfold wd sb; cases s <;> simp
theorem and_sign (b : Nat) (hb : b < 18446744073709551616) : b &&& 9223372036854775808 = sb (ng b) := by
  have h1 : (b &&& 9223372036854775808) / 9223372036854775808 = b / 9223372036854775808 % 2 := by
    have := Nat.and_div_two_pow (a := b) (b := 9223372036854775808) (n := 63)
    rw [show (2 : Nat) ^ 63 = 9223372036854775808 by decide, show (9223372036854775808 / 9223372036854775808 : Nat) = 1 by decide, Nat.and_one_is_mod] at this
    exact this
  have h2 : (b &&& 9223372036854775808) % 9223372036854775808 = 0 := by
    have := Nat.and_mod_two_pow (a := b) (b := 9223372036854775808) (n := 63)
    rw [show (2 : Nat) ^ 63 = 9223372036854775808 by decide, show (9223372036854775808 % 9223372036854775808 : Nat) = 0 by decide, Nat.and_zero] at this
    exact this
  unfold ng sb
  by_cases h : b / 9223372036854775808 % 2 = 1
  · rw [beq_iff_eq.2 h, if_pos rfl]; omega
  · rw [beq_eq_false_iff_ne.2 h, if_neg (by decide)]; omega
theorem and_low63 (b : Nat) : b &&& 9223372036854775807 = rung b := by
  have h := Nat.and_two_pow_sub_one_eq_mod b 63
  rw [show (2 : Nat) ^ 63 - 1 = 9223372036854775807 by decide, show (2 : Nat) ^ 63 = 9223372036854775808 by decide] at h
  exact h
theorem and_low52 (b : Nat) : b &&& 4503599627370495 = b % 4503599627370496 := by
  have h := Nat.and_two_pow_sub_one_eq_mod b 52
  rw [show (2 : Nat) ^ 52 - 1 = 4503599627370495 by decide, show (2 : Nat) ^ 52 = 4503599627370496 by decide] at h
  exact h
theorem clear_sign (b : Nat) (hb : b < 18446744073709551616) : bits .andNot .u64 (b : Int) 9223372036854775808 = ((rung b : Nat) : Int) := by
  have h := u64_andNot_nat b 9223372036854775808 hb (by decide)
  rw [show (18446744073709551615 - 9223372036854775808 : Nat) = 9223372036854775807 by decide, and_low63] at h
  exact h
theorem take_sign (b : Nat) (hb : b < 18446744073709551616) : bits .and .u64 (b : Int) 9223372036854775808 = ((sb (ng b) : Nat) : Int) := by
  have h := u64_and_nat b 9223372036854775808 hb (by decide)
  rw [and_sign b hb] at h
  exact h
theorem join_sign (b c : Nat) : bits .or .u64 ((rung b : Nat) : Int) ((sb (ng c) : Nat) : Int) = ((wd (ng c) (rung b) : Nat) : Int) := by
  have h1 := rung_lt b
  have h := u64_or_nat (rung b) (sb (ng c)) (by omega) (sb_lt _)
  rw [h, Nat.or_comm, nat_join 63 _ _ (sb_mod _) h1, wd_sb]
/-- The exponent out of the word. -/
theorem clear_exp (b : Nat) (hb : b < 18446744073709551616) : bits .andNot .u64 (b : Int) 9218868437227405312 = ((wd (ng b) (b % 4503599627370496) : Nat) : Int) := by
  have h := u64_andNot_nat b 9218868437227405312 hb (by decide)
  rw [show (18446744073709551615 - 9218868437227405312 : Nat) = 9223372036854775808 ||| 4503599627370495 by decide, Nat.and_or_distrib_left, and_sign b hb, and_low52, nat_join 63 _ _ (sb_mod _) (Nat.lt_trans (Nat.mod_lt _ (by decide)) (by decide)), ← wd_sb] at h
  exact h
/-- The new exponent in. -/
theorem put_exp (s : Bool) (m x : Nat) (hm : m < 4503599627370496) (hx : x < 2047) : bits .or .u64 ((wd s m : Nat) : Int) ((x * 4503599627370496 : Nat) : Int) = ((wd s (x * 4503599627370496 + m) : Nat) : Int) := by
  have h1 : wd s m < 18446744073709551616 := wd_lt (by omega)
  have h := u64_or_nat (wd s m) (x * 4503599627370496) h1 (by omega)
  rw [h]
  congr 1
  have hs : wd s m = sb s ||| m := by rw [nat_join 63 _ _ (sb_mod _) (Nat.lt_trans hm (by decide)), wd_sb]
  rw [hs, Nat.or_assoc, Nat.or_comm m, nat_join 52 _ m (Nat.mul_mod_left _ _) hm, nat_join 63 _ _ (sb_mod _) (show x * 4503599627370496 + m < 9223372036854775808 by omega), wd_sb]

set_option maxRecDepth 100000 in
theorem Abs31 (b : Nat) (hb : b < 2 ^ 64) (w : World) : Calls Try.prog 31 #[.float .f64 b] w fun e w' => e = .returned (.float .f64 (rung b)) ∧ w' = w := by
  have h27 := x27
  have h12 := x12
  have hc := clear_sign b hb
  go_enter Try.func31, Try.ntmps31
  go_wp2
  go_ret
  exact ⟨rfl, rfl⟩

set_option maxRecDepth 100000 in
theorem NaN37 (w : World) : Calls Try.prog 37 #[] w fun e w' => e = .returned (.float .f64 9221120237041090561) ∧ w' = w := by
  have h12 := x12
  go_enter Try.func37, Try.ntmps37
  go_wp2
  go_ret
  exact ⟨rfl, rfl⟩

theorem self_order (b : Nat) : (Ieee.double.order b b == some .eq) = decide (¬ 9218868437227405312 < rung b) := by
  rcases Nat.lt_trichotomy (rung b) 9218868437227405312 with h | h | h
  · rw [order_fin h h, show compare (V b) (V b) = .eq from Int.compare_eq_eq.2 rfl]; simp; omega
  · rw [order_inf h h, show compare (ng b).toNat (ng b).toNat = .eq from Nat.compare_eq_eq.2 rfl]; simp; omega
  · rw [order_nan (.inl h)]; simp; omega

set_option maxRecDepth 100000 in
theorem IsNaN45 (b : Nat) (w : World) : Calls Try.prog 45 #[.float .f64 b] w fun e w' => e = .returned (.bool (decide (9218868437227405312 < rung b))) ∧ w' = w := by
  have hs := self_order b
  go_enter Try.func45, Try.ntmps45
  go_wp2
  go_ret
  refine ⟨?_, rfl⟩
  show Ending.returned (Value.bool (!(Ieee.double.order b b == some Ordering.eq))) = _
  rw [hs]
  by_cases h : 9218868437227405312 < rung b
  · simp [h]
  · simp [h]

set_option maxRecDepth 100000 in
theorem Signbit40 (b : Nat) (hb : b < 2 ^ 64) (w : World) : Calls Try.prog 40 #[.float .f64 b] w fun e w' => e = .returned (.bool (ng b)) ∧ w' = w := by
  have h27 := x27
  go_enter Try.func40, Try.ntmps40
  go_wp2
  go_ret
  refine ⟨?_, rfl⟩
  show Ending.returned (Value.bool (decide (wrap64 b < 0))) = _
  congr 2
  unfold wrap64 ng
  by_cases h : b / 9223372036854775808 % 2 = 1
  · rw [h, decide_eq_true (by omega)]; rfl
  · rw [beq_eq_false_iff_ne.2 h, decide_eq_false (by omega)]

set_option maxRecDepth 100000 in
theorem Inf23 (s : Int) (w : World) : Calls Try.prog 23 #[.int .i64 s] w fun e w' => e = .returned (.float .f64 (wd (decide (s < 0)) 9218868437227405312)) ∧ w' = w := by
  have h12 := x12
  go_enter Try.func23, Try.ntmps23
  by_cases hs : s < 0
  · have hd : decide (0 ≤ s) = false := decide_eq_false (by omega)
    go_wp2
    go_ret
    refine ⟨?_, rfl⟩
    rw [decide_eq_true (show s < 0 by omega)]; rfl
  · have hd : decide (0 ≤ s) = true := decide_eq_true (by omega)
    go_wp2
    go_ret
    refine ⟨?_, rfl⟩
    rw [decide_eq_false (show ¬ s < 0 by omega)]; rfl

set_option maxRecDepth 100000 in
theorem Copysign24 (b c : Nat) (hb : b < 2 ^ 64) (hc0 : c < 2 ^ 64) (w : World) : Calls Try.prog 24 #[.float .f64 b, .float .f64 c] w fun e w' => e = .returned (.float .f64 (wd (ng c) (rung b))) ∧ w' = w := by
  have h27 := x27
  have h12 := x12
  have hc := clear_sign b hb
  have ht := take_sign c hc0
  have hj := join_sign b c
  go_enter Try.func24, Try.ntmps24
  go_wp2
  go_ret
  exact ⟨rfl, rfl⟩

set_option maxRecDepth 100000 in
theorem coord34 (n : Int) (w : World) : Calls Try.prog 34 #[.int .i64 n] w fun e w' => e = .returned (.bool (coordB n)) ∧ w' = w := by
  go_enter Try.func34, Try.ntmps34
  go_wp2
  all_goals
    go_ret
    refine ⟨?_, rfl⟩
    unfold coordB
    simp [*]
    try omega

set_option maxRecDepth 100000 in
theorem coord36 (n : Int) (w : World) : Calls Try.prog 36 #[.int .i64 n] w fun e w' => e = .returned (.bool (coordB n)) ∧ w' = w := by
  go_enter Try.func36, Try.ntmps36
  go_wp2
  all_goals
    go_ret
    refine ⟨?_, rfl⟩
    unfold coordB
    simp [*]
    try omega

set_option maxRecDepth 100000 in
theorem parts35 (b : Nat) (hb : b < 2 ^ 64) (w : World) : Calls Try.prog 35 #[.float .f64 b] w fun e w' => e = .returned (.tuple #[.bool (ng b), .int .i64 (rung b / 4503599627370496 : Nat), .int .u64 (rung b % 4503599627370496 : Nat)]) ∧ w' = w := by
  have h27 := x27
  go_enter Try.func35, Try.ntmps35
  go_wp2
  go_ret3
  refine ⟨?_, rfl⟩
  have e1 : (((b : Int) / 9223372036854775808 == 1) : Bool) = ng b := by
    unfold ng
    by_cases h : b / 9223372036854775808 % 2 = 1
    · rw [beq_iff_eq.2 h, beq_iff_eq.2 (by omega)]
    · rw [beq_eq_false_iff_ne.2 h, beq_eq_false_iff_ne.2 (by omega)]
  have e2 : (b : Int) / 4503599627370496 % 2048 = ((rung b / 4503599627370496 : Nat) : Int) := by unfold rung; omega
  have e3 : (b : Int) % 4503599627370496 = ((rung b % 4503599627370496 : Nat) : Int) := by unfold rung; omega
  rw [← e1, ← e2, ← e3]
  rfl
end Go.Proofs.Ytpkcabpnehbmhaa.GW
