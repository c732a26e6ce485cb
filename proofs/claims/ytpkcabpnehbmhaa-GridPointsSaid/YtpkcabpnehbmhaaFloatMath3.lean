/- Floating numbers of 64 bits: a power of two taken in; whole numbers; the pure answers of grid. -/
import Derived.Test.YtpkcabpnehbmhaaFloatMath2
namespace Go.Proofs.Ytpkcabpnehbmhaa.FM
open Ieee
set_option linter.unusedVariables false
set_option linter.unusedSimpArgs false

theorem rung_at (T : Nat) {m : Nat} (h1 : 4503599627370496 ≤ m) (h2 : m < 2 * 4503599627370496) : lev (T * 4503599627370496 + m) = T ∧ sig (T * 4503599627370496 + m) = m := by
  unfold lev sig
  by_cases h0 : T * 4503599627370496 + m < 4503599627370496
  · omega
  · rw [if_neg h0, if_neg h0]
    have hr : T * 4503599627370496 + m = (T + 1) * 4503599627370496 + (m - 4503599627370496) := by rw [Nat.add_mul, Nat.one_mul]; omega
    have hd : (T * 4503599627370496 + m) / 4503599627370496 = T + 1 := by rw [hr, Nat.mul_comm, Nat.mul_add_div (by decide)]; omega
    have hm : (T * 4503599627370496 + m) % 4503599627370496 = m - 4503599627370496 := by rw [hr, Nat.mul_comm, Nat.mul_add_mod]; exact Nat.mod_eq_of_lt (by omega)
    rw [hd, hm]
    omega
theorem magR_at (T : Nat) {m : Nat} (h1 : 4503599627370496 ≤ m) (h2 : m < 2 * 4503599627370496) : magR (T * 4503599627370496 + m) = m * 2 ^ T := by
  unfold magR
  rw [(rung_at T h1 h2).1, (rung_at T h1 h2).2]
theorem normal_sig {r : Nat} (h : 4503599627370496 ≤ r) : 4503599627370496 ≤ sig r := by unfold sig; rw [if_neg (by omega)]; omega

/-- What is m times 2^T, m with all its digits: its rung. -/
theorem rung_up {r m : Nat} {a c T : Nat} (hr : r < 9218868437227405312) (hm : 4503599627370496 ≤ m) (hm2 : m < 2 * 4503599627370496) (hT : T + a = c) (h : magR r * 2 ^ a = m * 2 ^ c) : r = T * 4503599627370496 + m ∧ T ≤ 2045 := by
  have h1 : magR r = m * 2 ^ T := by
    refine Nat.eq_of_mul_eq_mul_right (Nat.two_pow_pos a) ?_
    rw [h, Nat.mul_assoc, ← Nat.pow_add, hT]
  rw [← magR_at T hm hm2] at h1
  have h2 := magR_inj h1
  refine ⟨h2, ?_⟩
  by_cases h3 : T ≤ 2045
  · exact h3
  · have : 2046 * 4503599627370496 ≤ T * 4503599627370496 := Nat.mul_le_mul_right _ (by omega)
    omega
/-- Downwards: 53 places are given back by the last product. -/
theorem rung_down {r m : Nat} {a c T : Nat} (hr0 : magR r ≠ 0) (hm : 4503599627370496 ≤ m) (hm2 : m < 2 * 4503599627370496) (hT : c + T = a) (h : magR r * 2 ^ a = m * 2 ^ c) : T ≤ 52 ∧ ∀ j, j + T = 53 → magR (j * 4503599627370496 + m) = magR r * 2 ^ 53 := by
  have h1 : magR r * 2 ^ T = m := by
    refine Nat.eq_of_mul_eq_mul_right (Nat.two_pow_pos c) ?_
    rw [← h, Nat.mul_assoc, ← Nat.pow_add, Nat.add_comm T c, hT]
  have h2 : T ≤ 52 := by
    by_cases h3 : T ≤ 52
    · exact h3
    · have h4 : 2 ^ 53 ≤ 2 ^ T := Nat.pow_le_pow_right (by decide) (by omega)
      have h5 : 1 * 2 ^ T ≤ magR r * 2 ^ T := Nat.mul_le_mul_right _ (Nat.pos_of_ne_zero hr0)
      have : (2 : Nat) ^ 53 = 2 * 4503599627370496 := by decide
      omega
  refine ⟨h2, fun j hj => ?_⟩
  rw [magR_at j hm hm2, ← h1, Nat.mul_assoc, ← Nat.pow_add]
  congr 2
  omega

/-- Signed. -/
def sg (s : Bool) (n : Nat) : Int := if s then -(n : Int) else n
theorem V_sg (b : Nat) : V b = sg (ng b) (mag b) := rfl
theorem sg_abs (s : Bool) (n : Nat) : (sg s n).natAbs = n := by unfold sg; cases s <;> simp
theorem sg_zero (s : Bool) : sg s 0 = 0 := by cases s <;> rfl
theorem toInt_sg {b : Nat} (h : Fin b) : (double.read b).toInt .zero = some (sg (ng b) (mag b / U)) := toInt_fin h

def kindB (b : Nat) : Int :=
  if 9218868437227405312 < rung b then 0 else if rung b = 9218868437227405312 then (if ng b then 2 else 1) else if rung b = 0 then (if ng b then 4 else 3) else if rung b < 4503599627370496 then 5 else 6
def coordB (n : Int) : Bool := decide (-2147483648 ≤ n) && decide (n ≤ 2147483647)
theorem coordB_iff (n : Int) : coordB n = true ↔ -2147483648 ≤ n ∧ n ≤ 2147483647 := by unfold coordB; simp
theorem coordB_not (n : Int) : coordB n = false ↔ n < -2147483648 ∨ 2147483647 < n := by
  rw [← Bool.not_eq_true, coordB_iff]; omega
def scaledB (b : Nat) (up : Int) : Int × Int :=
  if up < 0 ∨ 30 < up then (0, 2)
  else if 9218868437227405312 < rung b then (0, 70)
  else if rung b = 9218868437227405312 ∨ (rung b = 0 ∧ ng b = true) then (0, 71)
  else if mag b * 2 ^ up.toNat % U = 0 ∧ coordB (sg (ng b) (mag b * 2 ^ up.toNat / U)) = true then (sg (ng b) (mag b * 2 ^ up.toNat / U), 0)
  else (0, 71)
def roundB (b : Nat) : Int × Int :=
  if 9218868437227405312 < rung b then (0, 70)
  else if rung b = 9218868437227405312 then (0, 3)
  else if coordB (sg (ng b) (rnd (mag b) U)) = true then (sg (ng b) (rnd (mag b) U), 0) else (0, 3)
def floatB (n up : Int) : Nat × Int :=
  if up < 0 ∨ 30 < up ∨ coordB n = false then (0, 2) else (wd (decide (n < 0)) (rungOf (n.natAbs * U / 2 ^ up.toNat)), 0)
def sameB (x y : Nat) : Bool := decide (x = y) || (decide (9218868437227405312 < rung x) && decide (9218868437227405312 < rung y))
/-- The word of a whole number. -/
def ofI (n : Int) : Nat := wd (decide (n < 0)) (rungOf (n.natAbs * U))

theorem U_cut {u : Nat} (hu : u ≤ 1074) : U = 2 ^ (1074 - u) * 2 ^ u := U_split hu
theorem U_div {u n : Nat} (hu : u ≤ 1074) : n * U / 2 ^ u = n * 2 ^ (1074 - u) := by
  rw [U_cut hu, ← Nat.mul_assoc, Nat.mul_div_cancel _ (Nat.two_pow_pos _)]
theorem has_float {n u : Nat} (hn : n < 9007199254740992) (hu : u ≤ 1074) : Has (n * U / 2 ^ u) := by
  rw [U_div hu]; exact Has.of hn (by omega)
theorem has_int {n : Nat} (hn : n < 9007199254740992) : Has (n * U) := by
  have := has_float (u := 0) hn (by omega)
  rwa [Nat.pow_zero, Nat.div_one] at this
theorem ofI_enc {n : Int} (h : n.natAbs < 9007199254740992) : double.nearest (decide (n < 0)) n.natAbs 0 = ofI n := write_int (has_int h)
theorem rungOf_lt {N : Nat} (h : Has N) : rungOf N < 9223372036854775808 := by have := h.rungOf.2; omega
theorem ofI_facts {n : Int} (h : n.natAbs < 9007199254740992) : Fin (ofI n) ∧ ng (ofI n) = decide (n < 0) ∧ mag (ofI n) = n.natAbs * U ∧ V (ofI n) = n * U ∧ ofI n < 18446744073709551616 := by
  have hh := has_int h
  have h1 := rungOf_lt hh
  have h2 : mag (ofI n) = n.natAbs * U := by unfold mag ofI; rw [wd_rung h1, hh.rungOf.1]
  have h3 : ng (ofI n) = decide (n < 0) := wd_ng h1
  refine ⟨?_, h3, h2, ?_, wd_lt h1⟩
  · unfold Fin ofI; rw [wd_rung h1]; exact hh.rungOf.2
  · unfold V; rw [h2, h3, Int.natCast_mul]
    by_cases h0 : n < 0
    · rw [if_pos (decide_eq_true h0), ← Int.neg_mul]; congr 1; omega
    · rw [if_neg (by simp [h0])]; congr 1; omega

theorem mag_zero {b : Nat} : mag b = 0 ↔ rung b = 0 := ⟨magR_zero, fun h => by unfold mag; rw [h]; decide⟩
/-- The rung of a word and of a bound: the order of worths. -/
theorem mag_lt {b r : Nat} : r < rung b ↔ magR r < mag b := by
  constructor
  · exact magR_mono
  · intro h
    rcases Nat.lt_or_ge r (rung b) with h1 | h1
    · exact h1
    · have := magR_le h1; unfold mag at h; omega

/-- Of a small number, scaled: there is a word. -/
theorem has_scaled {b u : Nat} (h : Fin b) (hu : lev (rung b) + u ≤ 2045) : Has (mag b * 2 ^ u) := by
  unfold mag magR
  rw [Nat.mul_assoc, ← Nat.pow_add]
  exact Has.of (sig_lt _) hu
theorem mag_wd {s : Bool} {N : Nat} (h : Has N) : mag (wd s (rungOf N)) = N ∧ ng (wd s (rungOf N)) = s ∧ Fin (wd s (rungOf N)) ∧ wd s (rungOf N) < 18446744073709551616 := by
  have h1 := rungOf_lt h
  refine ⟨by unfold mag; rw [wd_rung h1, h.rungOf.1], wd_ng h1, by unfold Fin; rw [wd_rung h1]; exact h.rungOf.2, wd_lt h1⟩
end Go.Proofs.Ytpkcabpnehbmhaa.FM
