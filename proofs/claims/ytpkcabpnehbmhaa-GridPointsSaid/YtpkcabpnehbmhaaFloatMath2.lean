/- Floating numbers of 64 bits: words, order, whole parts, exact products, differences and halves. -/
import Derived.Test.YtpkcabpnehbmhaaFloatMath
namespace Go.Proofs.Ytpkcabpnehbmhaa.FM
open Ieee
set_option linter.unusedVariables false
set_option linter.unusedSimpArgs false

def wd (s : Bool) (r : Nat) : Nat := if s then 9223372036854775808 + r else r
theorem word_wd (s : Bool) (r : Nat) : double.word s r = wd s r := word_eq s r
theorem wd_rung {s : Bool} {r : Nat} (h : r < 9223372036854775808) : rung (wd s r) = r := by unfold rung wd; split <;> omega
theorem wd_ng {s : Bool} {r : Nat} (h : r < 9223372036854775808) : ng (wd s r) = s := by
  unfold ng wd
  cases s
  · rw [if_neg (by decide), Nat.div_eq_of_lt h]; rfl
  · rw [if_pos rfl, show (9223372036854775808 + r) / 9223372036854775808 = 1 by omega]; rfl
theorem wd_lt {s : Bool} {r : Nat} (h : r < 9223372036854775808) : wd s r < 18446744073709551616 := by unfold wd; split <;> omega
theorem wd_self {b : Nat} (h : b < 18446744073709551616) : wd (ng b) (rung b) = b := by
  unfold ng wd rung
  by_cases h1 : b < 9223372036854775808
  · rw [Nat.div_eq_of_lt h1]; rw [if_neg (by decide)]; omega
  · rw [show b / 9223372036854775808 = 1 by omega, if_pos (by decide)]; omega
theorem rung_lt (b : Nat) : rung b < 9223372036854775808 := Nat.mod_lt _ (by decide)
theorem V_wd {s : Bool} {r : Nat} (h : r < 9223372036854775808) : V (wd s r) = if s then -(magR r : Int) else magR r := by
  unfold V mag; rw [wd_ng h, wd_rung h]

theorem lev_mono {r t : Nat} (h : r ≤ t) : lev r ≤ lev t := by
  unfold lev
  split
  · omega
  · rw [if_neg (by omega)]
    have := Nat.div_le_div_right (c := 4503599627370496) h
    omega
theorem magR_mono {r t : Nat} (h : r < t) : magR r < magR t := by
  have hl := lev_mono (Nat.le_of_lt h)
  have e1 := rung_lev_sig r
  have e2 := rung_lev_sig t
  unfold magR
  rcases Nat.lt_or_ge (lev r) (lev t) with hlt | hge
  · have h1 := sig_lt r
    have h2 := sig_ge (r := t) (by omega)
    have h3 : sig r * 2 ^ lev r < 9007199254740992 * 2 ^ lev r := Nat.mul_lt_mul_of_pos_right h1 (Nat.two_pow_pos _)
    have h4 : 9007199254740992 * 2 ^ lev r ≤ 4503599627370496 * 2 ^ lev t := by
      rw [pow_shift (i := lev t) (j := lev r + 1) hlt, Nat.pow_succ]
      have : 1 ≤ 2 ^ (lev t - (lev r + 1)) := Nat.two_pow_pos _
      calc 9007199254740992 * 2 ^ lev r = 4503599627370496 * (1 * (2 ^ lev r * 2)) := by omega
        _ ≤ 4503599627370496 * (2 ^ (lev t - (lev r + 1)) * (2 ^ lev r * 2)) := Nat.mul_le_mul_left _ (Nat.mul_le_mul_right _ this)
    have h5 : 4503599627370496 * 2 ^ lev t ≤ sig t * 2 ^ lev t := Nat.mul_le_mul_right _ h2
    omega
  · have : lev r = lev t := by omega
    rw [this] at e1 ⊢
    exact Nat.mul_lt_mul_of_pos_right (by omega) (Nat.two_pow_pos _)
theorem magR_le {r t : Nat} (h : r ≤ t) : magR r ≤ magR t := by
  rcases Nat.lt_or_ge r t with h1 | h1
  · exact Nat.le_of_lt (magR_mono h1)
  · rw [show r = t by omega]; exact Nat.le_refl _
theorem magR_inj {r t : Nat} (h : magR r = magR t) : r = t := by
  rcases Nat.lt_trichotomy r t with h1 | h1 | h1
  · have := magR_mono h1; omega
  · exact h1
  · have := magR_mono h1; omega
theorem magR_nought : magR 0 = 0 := by decide

/-- Of words without a sign the order is that of the rungs. -/
theorem order_plain {x y : Nat} (hx : x ≤ 9218868437227405312) (hy : y ≤ 9218868437227405312) : double.order x y = some (compare x y) := by
  have rx : rung x = x := Nat.mod_eq_of_lt (by omega)
  have ry : rung y = y := Nat.mod_eq_of_lt (by omega)
  have nx : ng x = false := by unfold ng; rw [Nat.div_eq_of_lt (by omega)]; rfl
  have ny : ng y = false := by unfold ng; rw [Nat.div_eq_of_lt (by omega)]; rfl
  by_cases h1 : x = 9218868437227405312
  · by_cases h2 : y = 9218868437227405312
    · rw [order_inf (rx.trans h1) (ry.trans h2), nx, ny, h1, h2]; rfl
    · rw [order_inf_l (rx.trans h1) (show rung y < 9218868437227405312 by omega), nx, Nat.compare_eq_gt.2 (by omega)]; rfl
  · by_cases h2 : y = 9218868437227405312
    · rw [order_inf_r (show rung x < 9218868437227405312 by omega) (ry.trans h2), ny, Nat.compare_eq_lt.2 (by omega)]; rfl
    · rw [order_fin (show rung x < 9218868437227405312 by omega) (show rung y < 9218868437227405312 by omega)]
      unfold V mag
      rw [nx, ny, rx, ry]
      congr 1
      rcases Nat.lt_trichotomy x y with h | h | h
      · rw [Nat.compare_eq_lt.2 h, if_neg (by decide), if_neg (by decide), Int.compare_eq_lt]; have := magR_mono h; omega
      · subst h; rw [Nat.compare_eq_eq.2 rfl, if_neg (by decide), Int.compare_eq_eq]
      · rw [Nat.compare_eq_gt.2 h, if_neg (by decide), if_neg (by decide), Int.compare_eq_gt]; have := magR_mono h; omega

theorem U_split {i : Nat} (h : i ≤ 1074) : U = 2 ^ (1074 - i) * 2 ^ i := by rw [← Nat.pow_add]; exact U_eq (by omega)
/-- The whole part of the worth, and its rounding, out of the significand. -/
theorem mag_div {b : Nat} : mag b / U = (if lev (rung b) ≤ 1074 then sig (rung b) / 2 ^ (1074 - lev (rung b)) else sig (rung b) * 2 ^ (lev (rung b) - 1074)) := by
  unfold mag magR
  split
  · rename_i h
    rw [U_split h, Nat.mul_div_mul_right _ _ (Nat.two_pow_pos _)]
  · rename_i h
    obtain ⟨k, hk⟩ : ∃ k : Nat, k = 1074 := ⟨_, rfl⟩
    rw [U_eq hk, ← hk, pow_shift (i := lev (rung b)) (j := k) (by omega), ← Nat.mul_assoc, Nat.mul_div_cancel _ (Nat.two_pow_pos _)]
theorem rnd_mul {n u k : Nat} (hk : 0 < k) : rnd (n * k) (u * k) = rnd n u := by
  unfold rnd
  rw [Nat.mul_div_mul_right _ _ hk, Nat.mul_mod_mul_right]
  congr 1
  have e1 : (u * k < 2 * (n % u * k)) ↔ u < 2 * (n % u) := by rw [← Nat.mul_assoc]; exact Nat.mul_lt_mul_right hk
  have e2 : (u * k = 2 * (n % u * k)) ↔ u = 2 * (n % u) := by rw [← Nat.mul_assoc]; exact ⟨fun h => Nat.eq_of_mul_eq_mul_right hk h, fun h => by rw [← h]⟩
  simp only [e1, e2]
theorem rnd_one {n u : Nat} (hu : 0 < u) : rnd (n * u) u = n := by
  unfold rnd
  rw [Nat.mul_mod_left, Nat.mul_div_cancel _ hu, if_neg (by omega)]
  rfl
theorem mag_rnd {b : Nat} : rnd (mag b) U = (if lev (rung b) ≤ 1074 then rnd (sig (rung b)) (2 ^ (1074 - lev (rung b))) else sig (rung b) * 2 ^ (lev (rung b) - 1074)) := by
  unfold mag magR
  split
  · rename_i h
    rw [U_split h, rnd_mul (Nat.two_pow_pos _)]
  · rename_i h
    obtain ⟨k, hk⟩ : ∃ k : Nat, k = 1074 := ⟨_, rfl⟩
    rw [← hk, pow_shift (i := lev (rung b)) (j := k) (by omega), ← Nat.mul_assoc, U_eq hk, rnd_one (Nat.two_pow_pos _)]

theorem integral_zero {b : Nat} (h : Fin b) : (double.read b).integral .zero = .number (ng b) (mag b / U) 0 := by
  rw [read_fin h, mag_div]
  unfold Datum.integral
  dsimp only
  rw [cut_zero]
  congr 1
  rw [Nat.shiftLeft_eq]
  split
  · rw [show (-1074 + (lev (rung b) : Int)).toNat = 0 by omega, show (-(-1074 + (lev (rung b) : Int))).toNat = 1074 - lev (rung b) by omega, Nat.pow_zero, Nat.mul_one]
  · rw [show (-1074 + (lev (rung b) : Int)).toNat = lev (rung b) - 1074 by omega, show (-(-1074 + (lev (rung b) : Int))).toNat = 0 by omega, Nat.pow_zero, Nat.div_one]
theorem integral_even {b : Nat} (h : Fin b) : (double.read b).integral .even = .number (ng b) (rnd (mag b) U) 0 := by
  rw [read_fin h, mag_rnd]
  unfold Datum.integral
  dsimp only
  rw [cut_even]
  congr 1
  rw [Nat.shiftLeft_eq]
  split
  · rw [show (-1074 + (lev (rung b) : Int)).toNat = 0 by omega, show (-(-1074 + (lev (rung b) : Int))).toNat = 1074 - lev (rung b) by omega, Nat.pow_zero, Nat.mul_one]
  · rw [show (-1074 + (lev (rung b) : Int)).toNat = lev (rung b) - 1074 by omega, show (-(-1074 + (lev (rung b) : Int))).toNat = 0 by omega, Nat.pow_zero]
    have := rnd_one (n := sig (rung b) * 2 ^ (lev (rung b) - 1074)) (u := 1) (by decide)
    rw [Nat.mul_one] at this
    exact this
theorem toInt_fin {b : Nat} (h : Fin b) : (double.read b).toInt .zero = some (if ng b then -((mag b / U : Nat) : Int) else ((mag b / U : Nat) : Int)) := by
  unfold Datum.toInt
  rw [integral_zero h]
  dsimp only
  unfold signed
  rw [Nat.shiftLeft_eq, Nat.pow_zero, Nat.mul_one]

/-- A whole number of units that a word stands for. -/
def Has (N : Nat) : Prop := ∃ r, r < 9218868437227405312 ∧ magR r = N
theorem Has.rungOf {N : Nat} (h : Has N) : magR (rungOf N) = N ∧ FM.rungOf N < 9218868437227405312 := by
  obtain ⟨r, hr, rfl⟩ := h
  have hl : lev r ≤ 2045 := by
    unfold lev
    split <;> omega
  exact magR_rungOf (sig_lt r) hl
theorem Has.of {k j : Nat} (hk : k < 9007199254740992) (hj : j ≤ 2045) : Has (k * 2 ^ j) := ⟨_, (magR_rungOf hk hj).2, (magR_rungOf hk hj).1⟩
theorem Has.self {b : Nat} (h : Fin b) : Has (mag b) := ⟨_, h, rfl⟩
theorem rungOf_magR {r : Nat} (h : r < 9218868437227405312) : rungOf (magR r) = r := magR_inj (Has.rungOf ⟨r, h, rfl⟩).1
theorem write_int {s : Bool} {k : Nat} (h : Has (k * U)) : double.nearest s k 0 = wd s (rungOf (k * U)) := by
  obtain ⟨j, hj⟩ : ∃ j : Nat, j = 1074 := ⟨_, rfl⟩
  rw [nearest_exact s (r := rungOf (k * U)) (Nat.le_of_lt h.rungOf.2) ⟨j, 0, by omega, by rw [h.rungOf.1, Nat.pow_zero, Nat.mul_one, U_eq hj]⟩, word_wd]
theorem has_whole {b : Nat} (h : Fin b) : Has (mag b / U * U) ∧ Has (rnd (mag b) U * U) := by
  rw [mag_div, mag_rnd]
  have hs := sig_lt (rung b)
  have hl : lev (rung b) ≤ 2045 := by
    have : rung b < 9218868437227405312 := h
    unfold lev
    split <;> omega
  split
  · rename_i hle
    have h1 : sig (rung b) / 2 ^ (1074 - lev (rung b)) < 9007199254740992 := Nat.lt_of_le_of_lt (Nat.div_le_self _ _) hs
    refine ⟨?_, ?_⟩
    · obtain ⟨k, hk⟩ : ∃ k : Nat, k = 1074 := ⟨_, rfl⟩
      rw [← hk, U_eq hk]; rw [← hk] at h1; exact Has.of h1 (by omega)
    · by_cases he : lev (rung b) = 1074
      · rw [he]
        have h2 : rnd (sig (rung b)) (2 ^ (1074 - 1074)) = sig (rung b) := by
          have := rnd_one (n := sig (rung b)) (u := 1) (by decide)
          rw [Nat.mul_one] at this
          exact this
        obtain ⟨k, hk⟩ : ∃ k : Nat, k = 1074 := ⟨_, rfl⟩
        rw [h2, U_eq hk]
        exact Has.of hs (by omega)
      · have h2 : sig (rung b) / 2 ^ (1074 - lev (rung b)) ≤ sig (rung b) / 2 := by
          have : 2 ≤ 2 ^ (1074 - lev (rung b)) := by
            have := Nat.pow_le_pow_right (n := 2) (by decide) (show 1 ≤ 1074 - lev (rung b) by omega)
            omega
          exact Nat.div_le_div_left this (by decide)
        have h3 : rnd (sig (rung b)) (2 ^ (1074 - lev (rung b))) < 9007199254740992 := by
          unfold rnd
          split <;> omega
        obtain ⟨k, hk⟩ : ∃ k : Nat, k = 1074 := ⟨_, rfl⟩
        rw [U_eq hk]
        exact Has.of h3 (by omega)
  · rename_i hle
    have h4 : sig (rung b) * 2 ^ (lev (rung b) - 1074) * U = sig (rung b) * 2 ^ (lev (rung b)) := by
      obtain ⟨k, hk⟩ : ∃ k : Nat, k = 1074 := ⟨_, rfl⟩
      rw [U_eq hk, Nat.mul_assoc, ← hk, ← pow_shift (i := lev (rung b)) (j := k) (by omega)]
    rw [h4]
    exact ⟨Has.of hs hl, Has.of hs hl⟩
theorem trunc_fin {b : Nat} (h : Fin b) : double.write ((double.read b).integral .zero) = wd (ng b) (rungOf (mag b / U * U)) := by
  rw [integral_zero h]
  exact write_int (has_whole h).1
theorem even_fin {b : Nat} (h : Fin b) : double.write ((double.read b).integral .even) = wd (ng b) (rungOf (rnd (mag b) U * U)) := by
  rw [integral_even h]
  exact write_int (has_whole h).2

theorem mul_exact {x y r : Nat} (hx : Fin x) (hy : Fin y) (hr : r < 9218868437227405312) (h : mag x * mag y = magR r * U) : double.mul x y = some (wd (ng x ^^ ng y) r) := by
  unfold Format.mul
  rw [read_fin hx, read_fin hy]
  unfold Datum.product
  dsimp only
  rw [Option.map_some]
  unfold Format.write
  dsimp only
  obtain ⟨k, hk⟩ : ∃ k : Nat, k = 1074 := ⟨_, rfl⟩
  rw [nearest_exact _ (r := r) (Nat.le_of_lt hr) ⟨lev (rung x) + lev (rung y), k, by omega, ?_⟩, word_wd]
  unfold mag magR at h
  unfold magR
  rw [U_eq hk] at h
  rw [Nat.pow_add, ← h]
  simp only [Nat.mul_assoc, Nat.mul_left_comm]

theorem sub_exact {x y r : Nat} (hx : Fin x) (hy : Fin y) (hr : r < 9218868437227405312) (h : (V x - V y).natAbs = magR r) :
    double.sub x y = some (wd (if V x - V y = 0 then ng x && !ng y else decide (V x - V y < 0)) r) := by
  unfold Format.sub
  rw [read_fin hx, read_fin hy]
  unfold Datum.opposite Datum.sum
  dsimp only
  rw [Option.map_some]
  unfold Format.write
  dsimp only
  generalize hmn : min (-1074 + (lev (rung x) : Int)) (-1074 + (lev (rung y) : Int)) = mn
  obtain ⟨k, hk⟩ : ∃ k : Nat, k = min (lev (rung x)) (lev (rung y)) := ⟨_, rfl⟩
  have hk' : mn = -1074 + (k : Int) := by omega
  subst hk'
  rw [show (-1074 + (lev (rung x) : Int) - (-1074 + (k : Int))).toNat = lev (rung x) - k by omega, show (-1074 + (lev (rung y) : Int) - (-1074 + (k : Int))).toNat = lev (rung y) - k by omega]
  have hT : (signed (ng x) (sig (rung x)) (lev (rung x) - k) + signed (!ng y) (sig (rung y)) (lev (rung y) - k)) * (2 ^ k : Nat) = V x - V y := by
    rw [Int.add_mul, signed_mul, signed_mul, show lev (rung x) - k + k = lev (rung x) by omega, show lev (rung y) - k + k = lev (rung y) by omega, V_signed, V_signed]
    have : signed (!ng y) (sig (rung y)) (lev (rung y)) = - signed (ng y) (sig (rung y)) (lev (rung y)) := by
      unfold signed
      cases ng y <;> simp
    rw [this]
    rfl
  generalize signed (ng x) (sig (rung x)) (lev (rung x) - k) + signed (!ng y) (sig (rung y)) (lev (rung y) - k) = T at *
  have hp : (0 : Int) < (2 ^ k : Nat) := by have := Nat.two_pow_pos k; omega
  rw [← hT] at h ⊢
  have hs : (if T * (2 ^ k : Nat) = 0 then ng x && !ng y else decide (T * (2 ^ k : Nat) < 0)) = (if T = 0 then ng x && !ng y else decide (T < 0)) := by
    by_cases h0 : T = 0
    · subst h0; rw [Int.zero_mul]
    · rw [if_neg h0, if_neg (Int.mul_ne_zero h0 (by omega))]
      congr 1
      refine propext ⟨fun hlt => ?_, fun hlt => Int.mul_neg_of_neg_of_pos hlt hp⟩
      rcases Int.lt_trichotomy T 0 with h1 | h1 | h1
      · exact h1
      · exact absurd h1 h0
      · have := Int.mul_pos h1 hp; omega
  rw [hs]
  rw [Int.natAbs_mul, Int.natAbs_natCast] at h
  rw [nearest_exact _ (r := r) (Nat.le_of_lt hr) ⟨k, 0, by omega, by rw [h, Nat.pow_zero, Nat.mul_one]⟩, word_wd]

theorem div_two {x r : Nat} (hx : Fin x) (hr : r < 9218868437227405312) (h : magR r * 2 = mag x) : double.div x 4611686018427387904 = some (wd (ng x) r) := by
  have h2 : double.read 4611686018427387904 = .number false 4503599627370496 (-51) := by decide +kernel
  unfold Format.div
  rw [read_fin hx, h2]
  unfold Datum.quotient
  dsimp only
  rw [if_neg (by decide), Option.map_some]
  unfold Format.write
  dsimp only
  have e1 : double.fractionBits + 2 + (4503599627370496 : Nat).log2 - (sig (rung x)).log2 = 52 + (54 - (sig (rung x)).log2) := by
    have h3 : (4503599627370496 : Nat).log2 = 52 := by decide +kernel
    have h4 : double.fractionBits = 52 := rfl
    rw [h3, h4]
    by_cases h0 : sig (rung x) = 0
    · rw [h0]; decide
    · have : (sig (rung x)).log2 < 53 := (Nat.log2_lt h0).2 (sig_lt _)
      omega
  rw [e1]
  generalize 54 - (sig (rung x)).log2 = a
  have e2 : sig (rung x) <<< (52 + a) = sig (rung x) * 2 ^ a * 4503599627370496 := by
    rw [Nat.shiftLeft_eq, Nat.pow_add, Nat.mul_assoc, Nat.mul_comm (2 ^ a)]
  rw [e2, Nat.mul_div_cancel _ (by decide), Nat.mul_mod_left]
  rw [nearest_exact _ (r := r) (Nat.le_of_lt hr) ⟨lev (rung x) + 50, 52 + a, by omega, ?_⟩, word_wd, Bool.xor_false]
  unfold mag at h
  have e3 : magR r * 2 ^ (52 + a) = magR r * 2 * (2 ^ 51 * 2 ^ a) := by
    rw [show 52 + a = 1 + 51 + a by omega, Nat.pow_add, Nat.pow_add]
    simp only [Nat.mul_assoc, Nat.pow_one]
  rw [e3, h]
  unfold magR
  have e4 : (0 != 0 : Bool).toNat = 0 := rfl
  rw [e4, Nat.add_zero, Nat.pow_add, show (2 : Nat) ^ 51 = 2 * 2 ^ 50 by decide]
  simp only [Nat.mul_assoc, Nat.mul_left_comm, Nat.mul_comm]
end Go.Proofs.Ytpkcabpnehbmhaa.FM
