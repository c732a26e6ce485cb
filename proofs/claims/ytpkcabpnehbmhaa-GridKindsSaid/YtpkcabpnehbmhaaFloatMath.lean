/- Floating numbers of 64 bits, in plain whole numbers: a word's worth in units of 2^-1074; what is exact. -/
import Derived.Laws.FloatArith
namespace Go.Proofs.Ytpkcabpnehbmhaa.FM
open Ieee
set_option linter.unusedVariables false
set_option linter.unusedSimpArgs false

/-- 2^52 and the rung of infinity. -/
def rung (b : Nat) : Nat := b % 9223372036854775808
def ng (b : Nat) : Bool := b / 9223372036854775808 % 2 == 1
/-- The worth of a rung. -/
def lev (r : Nat) : Nat := if r < 4503599627370496 then 0 else r / 4503599627370496 - 1
def sig (r : Nat) : Nat := if r < 4503599627370496 then r else 4503599627370496 + r % 4503599627370496
def magR (r : Nat) : Nat := sig r * 2 ^ lev r
def mag (b : Nat) : Nat := magR (rung b)
def V (b : Nat) : Int := if ng b then -(mag b : Int) else (mag b : Int)
/-- A word that stands for a number. -/
def Fin (b : Nat) : Prop := rung b < 9218868437227405312
/-- One, in units. -/
def pw (k : Nat) : Nat := 2 ^ k
def U : Nat := pw 1074
theorem U_eq {k : Nat} (h : k = 1074) : U = 2 ^ k := by
  have h1 : U = pw k := by rw [h]; rfl
  exact h1
theorem pw_pos (k : Nat) : 0 < pw k := Nat.two_pow_pos k
theorem U_pos : 0 < U := pw_pos 1074

theorem rung_lev_sig (r : Nat) : r = lev r * 4503599627370496 + sig r := by
  unfold lev sig
  split
  · omega
  · have := Nat.div_add_mod r 4503599627370496
    have h1 : 1 ≤ r / 4503599627370496 := by omega
    have h2 : (r / 4503599627370496 - 1) * 4503599627370496 = r / 4503599627370496 * 4503599627370496 - 4503599627370496 := by rw [Nat.sub_mul, Nat.one_mul]
    rw [h2]
    have h3 : 4503599627370496 * (r / 4503599627370496) = r / 4503599627370496 * 4503599627370496 := Nat.mul_comm _ _
    omega
theorem sig_lt (r : Nat) : sig r < 9007199254740992 := by
  unfold sig
  split <;> omega
theorem sig_ge {r : Nat} (h : lev r ≠ 0) : 4503599627370496 ≤ sig r := by
  unfold lev at h
  unfold sig
  split at h
  · omega
  · rw [if_neg (by assumption)]; omega
theorem sig_zero {r : Nat} (h : sig r = 0) : r = 0 := by
  have h1 := rung_lev_sig r
  have h2 : lev r = 0 := Decidable.byContradiction fun hc => by have := sig_ge hc; omega
  omega
theorem magR_zero {r : Nat} (h : magR r = 0) : r = 0 := by
  unfold magR at h
  rcases Nat.mul_eq_zero.1 h with h | h
  · exact sig_zero h
  · exact absurd h (Nat.ne_of_gt (Nat.two_pow_pos _))

theorem log2_mul_pow {m : Nat} (hm : m ≠ 0) (p : Nat) : (m * 2 ^ p).log2 = m.log2 + p := by
  have hp := Nat.two_pow_pos p
  have h0 : m * 2 ^ p ≠ 0 := Nat.mul_ne_zero hm (Nat.ne_of_gt hp)
  rw [Nat.log2_eq_iff h0]
  constructor
  · rw [Nat.pow_add]; exact Nat.mul_le_mul_right _ (Nat.log2_self_le hm)
  · have : 2 ^ (m.log2 + p + 1) = 2 ^ (m.log2 + 1) * 2 ^ p := by rw [← Nat.pow_add]; congr 1; omega
    rw [this]
    exact Nat.mul_lt_mul_of_pos_right Nat.lt_log2_self hp

theorem read_fin {b : Nat} (h : Fin b) : double.read b = .number (ng b) (sig (rung b)) (-1074 + (lev (rung b) : Nat)) := by
  have e1 : double.signWeight = 9223372036854775808 := by decide
  have e2 : double.binade = 4503599627370496 := by decide
  have e3 : double.infRung = 9218868437227405312 := by decide
  have e4 : double.leastPlace = -1074 := by decide
  have h' : b % 9223372036854775808 < 9218868437227405312 := h
  unfold Format.read
  rw [e1, e2, e3, e4]
  dsimp only
  unfold ng sig lev rung
  by_cases h1 : b % 9223372036854775808 < 4503599627370496
  · rw [if_pos h1, if_pos h1, if_pos h1]; rfl
  · rw [if_neg h1, if_pos h', if_neg h1, if_neg h1]

theorem read_inf {b : Nat} (h : rung b = 9218868437227405312) : double.read b = .infinity (ng b) := by
  have e1 : double.signWeight = 9223372036854775808 := by decide
  have e2 : double.binade = 4503599627370496 := by decide
  have e3 : double.infRung = 9218868437227405312 := by decide
  have h' : b % 9223372036854775808 = 9218868437227405312 := h
  unfold Format.read
  rw [e1, e2, e3]
  dsimp only
  rw [h', if_neg (by decide), if_neg (by decide), if_pos rfl]
  rfl
theorem read_nan {b : Nat} (h : 9218868437227405312 < rung b) : double.read b = .nan (ng b) (rung b - 9218868437227405312) := by
  have e1 : double.signWeight = 9223372036854775808 := by decide
  have e2 : double.binade = 4503599627370496 := by decide
  have e3 : double.infRung = 9218868437227405312 := by decide
  have h' : 9218868437227405312 < b % 9223372036854775808 := h
  unfold Format.read
  rw [e1, e2, e3]
  dsimp only
  rw [if_neg (by omega), if_neg (by omega), if_neg (by omega)]
  rfl

theorem gap_eq (drop n : Nat) : (1 <<< min drop (n.log2 + 2) : Nat) = 2 ^ min drop (n.log2 + 2) := by rw [Nat.shiftLeft_eq, Nat.one_mul]
/-- Past all digits the gap does not matter. -/
theorem gap_far {drop n : Nat} (h : n.log2 + 2 < drop) : 2 * n < 2 ^ (n.log2 + 2) ∧ 2 ^ (n.log2 + 2) < 2 ^ drop := by
  constructor
  · have h1 := @Nat.lt_log2_self n
    have : 2 ^ (n.log2 + 2) = 2 * 2 ^ (n.log2 + 1) := by rw [Nat.pow_succ]; omega
    omega
  · exact (Nat.pow_lt_pow_iff_right (by decide)).2 h
theorem cut_zero (s : Bool) (n drop : Nat) : Toward.zero.cut s n drop = n / 2 ^ drop := by
  unfold Toward.cut
  simp only [gap_eq]
  rcases Nat.lt_or_ge (n.log2 + 2) drop with h | h
  · obtain ⟨h1, h2⟩ := gap_far h
    rw [Nat.min_eq_right (by omega), Nat.div_eq_of_lt (by omega), Nat.div_eq_of_lt (by omega)]
    rfl
  · rw [Nat.min_eq_left h]
    simp
/-- Rounded to the nearest, to the even one between two. -/
def rnd (n u : Nat) : Nat := n / u + if u < 2 * (n % u) ∨ (u = 2 * (n % u) ∧ n / u % 2 = 1) then 1 else 0
theorem more_eq (g r q : Nat) : (decide (g < 2 * r) || (g == 2 * r && q % 2 == 1)).toNat = if g < 2 * r ∨ (g = 2 * r ∧ q % 2 = 1) then 1 else 0 := by
  by_cases h1 : g < 2 * r
  · rw [if_pos (.inl h1)]; simp [h1]
  · by_cases h2 : g = 2 * r
    · by_cases h3 : q % 2 = 1
      · rw [if_pos (.inr ⟨h2, h3⟩), h3, beq_iff_eq.2 h2]; simp
      · rw [if_neg (by omega), beq_eq_false_iff_ne.2 h3]; simp; omega
    · rw [if_neg (by omega), beq_eq_false_iff_ne.2 h2]; simp; omega
theorem cut_even (s : Bool) (n drop : Nat) : Toward.even.cut s n drop = rnd n (2 ^ drop) := by
  unfold Toward.cut rnd
  simp only [gap_eq]
  rcases Nat.lt_or_ge (n.log2 + 2) drop with h | h
  · obtain ⟨h1, h2⟩ := gap_far h
    rw [Nat.min_eq_right (by omega), Nat.div_eq_of_lt (show n < 2 ^ (n.log2 + 2) by omega), Nat.div_eq_of_lt (show n < 2 ^ drop by omega), Nat.mod_eq_of_lt (show n < 2 ^ (n.log2 + 2) by omega), Nat.mod_eq_of_lt (show n < 2 ^ drop by omega)]
    rw [if_neg (by omega)]
    simp
    omega
  · rw [Nat.min_eq_left h]
    congr 1
    exact more_eq _ _ _
theorem cut_exact (s : Bool) (k drop : Nat) : Toward.even.cut s (k * 2 ^ drop) drop = k := by
  rw [cut_even]
  unfold rnd
  have hp := Nat.two_pow_pos drop
  rw [Nat.mul_mod_left, Nat.mul_div_cancel _ hp, if_neg (by omega)]
  rfl

/-- 'm * 2^e' is N units. -/
def Is (m : Nat) (e : Int) (N : Nat) : Prop := ∃ p q : Nat, e + 1074 = (p : Int) - q ∧ m * 2 ^ p = N * 2 ^ q
theorem word_eq (s : Bool) (r : Nat) : double.word s r = if s then 9223372036854775808 + r else r := by
  have e1 : double.signWeight = 9223372036854775808 := by decide
  unfold Format.word
  rw [e1]

theorem nearest_exact (s : Bool) {m : Nat} {e : Int} {r : Nat} (hr : r ≤ 9218868437227405312) (h : Is m e (magR r)) : double.nearest s m e = double.word s r := by
  obtain ⟨p, q, hpq, hm⟩ := h
  have e2 : double.binade = 4503599627370496 := by decide
  have e3 : double.infRung = 9218868437227405312 := by decide
  have e4 : double.leastPlace = -1074 := by decide
  have e5 : (double.fractionBits : Int) = 52 := by decide
  unfold Format.nearest
  by_cases h0 : m = 0
  · subst h0
    rw [Nat.zero_mul] at hm
    have : magR r = 0 := by
      rcases Nat.mul_eq_zero.1 hm.symm with h | h
      · exact h
      · exact absurd h (Nat.ne_of_gt (Nat.two_pow_pos _))
    rw [if_pos rfl, magR_zero this]
  · rw [if_neg h0]
    have hN : sig r ≠ 0 := by
      intro hc
      unfold magR at hm
      rw [hc, Nat.zero_mul, Nat.zero_mul] at hm
      rcases Nat.mul_eq_zero.1 hm with h | h
      · exact h0 h
      · exact absurd h (Nat.ne_of_gt (Nat.two_pow_pos _))
    have hm2 : m * 2 ^ p = sig r * 2 ^ (lev r + q) := by rw [hm, magR, Nat.mul_assoc, ← Nat.pow_add]
    have hlog : m.log2 + p = (sig r).log2 + (lev r + q) := by rw [← log2_mul_pow h0, hm2, log2_mul_pow hN]
    have hK1 : (sig r).log2 ≤ 52 := by
      have : (sig r).log2 < 53 := (Nat.log2_lt hN).2 (sig_lt r)
      omega
    have hK2 : lev r ≠ 0 → (sig r).log2 = 52 := fun hl => by
      have : 52 ≤ (sig r).log2 := (Nat.le_log2 hN).2 (sig_ge hl)
      omega
    have hlast : max (e + (m.log2 : Nat) - double.fractionBits) double.leastPlace = -1074 + (lev r : Nat) := by
      rw [e4, e5]
      by_cases hl : lev r = 0
      · omega
      · have := hK2 hl
        omega
    dsimp only
    rw [hlast, e4, e2, e3]
    have hcut : m <<< (e - (-1074 + (lev r : Nat))).toNat = sig r * 2 ^ (-1074 + (lev r : Nat) - e).toNat := by
      rw [Nat.shiftLeft_eq]
      rcases Nat.lt_or_ge p (q + lev r) with hlt | hge
      · rw [show (e - (-1074 + (lev r : Nat))).toNat = 0 by omega, Nat.pow_zero, Nat.mul_one]
        have e6 : (-1074 + (lev r : Nat) - e).toNat = lev r + q - p := by omega
        rw [e6]
        refine Nat.eq_of_mul_eq_mul_right (Nat.two_pow_pos p) ?_
        rw [hm2, Nat.mul_assoc, ← Nat.pow_add]
        congr 2
        omega
      · rw [show (-1074 + (lev r : Nat) - e).toNat = 0 by omega, Nat.pow_zero, Nat.mul_one]
        have e6 : (e - (-1074 + (lev r : Nat))).toNat = p - (lev r + q) := by omega
        rw [e6]
        refine Nat.eq_of_mul_eq_mul_right (Nat.two_pow_pos (lev r + q)) ?_
        rw [← hm2, Nat.mul_assoc, ← Nat.pow_add]
        congr 2
        omega
    rw [hcut, cut_exact]
    have h1 := rung_lev_sig r
    rw [show (-1074 + (lev r : Nat) - -1074 : Int).toNat = lev r by omega, ← h1, Nat.min_eq_left hr]

theorem pow_shift {i j : Nat} (h : j ≤ i) : 2 ^ i = 2 ^ (i - j) * 2 ^ j := by rw [← Nat.pow_add]; congr 1; omega
theorem signed_mul (s : Bool) (m i k : Nat) : signed s m i * (2 ^ k : Nat) = signed s m (i + k) := by
  unfold signed
  rw [Nat.shiftLeft_eq, Nat.shiftLeft_eq, Nat.pow_add]
  split
  · rw [Int.neg_mul]; congr 1; rw [← Nat.mul_assoc]; exact (Int.natCast_mul _ _).symm
  · rw [← Nat.mul_assoc]; exact (Int.natCast_mul _ _).symm
theorem compare_mul {a b : Int} {k : Nat} (hk : 0 < k) : compare (a * k) (b * k) = compare a b := by
  have hk' : (0 : Int) < k := by omega
  rcases Int.lt_trichotomy a b with h | h | h
  · rw [Int.compare_eq_lt.2 h, Int.compare_eq_lt]; exact Int.mul_lt_mul_of_pos_right h hk'
  · subst h; rw [show compare (a * (k : Int)) (a * k) = .eq from Int.compare_eq_eq.2 rfl]; exact (Int.compare_eq_eq.2 rfl).symm
  · rw [Int.compare_eq_gt.2 h, Int.compare_eq_gt]; exact Int.mul_lt_mul_of_pos_right h hk'
theorem V_signed {b : Nat} : V b = signed (ng b) (sig (rung b)) (lev (rung b)) := by
  unfold V signed mag magR
  rw [Nat.shiftLeft_eq]
theorem order_fin {x y : Nat} (hx : Fin x) (hy : Fin y) : double.order x y = some (compare (V x) (V y)) := by
  unfold Format.order
  rw [read_fin hx, read_fin hy]
  unfold Datum.order
  dsimp only
  congr 1
  rw [V_signed, V_signed]
  generalize lev (rung x) = i
  generalize lev (rung y) = j
  have hk : 0 < 2 ^ min i j := Nat.two_pow_pos _
  rw [← compare_mul hk, signed_mul, signed_mul]
  congr 2 <;> omega
theorem order_nan {x y : Nat} (h : 9218868437227405312 < rung x ∨ 9218868437227405312 < rung y) : double.order x y = none := by
  unfold Format.order
  rcases h with h | h
  · rw [read_nan h]; rfl
  · rw [read_nan h]
    cases double.read x <;> rfl
theorem order_inf_l {x y : Nat} (hx : rung x = 9218868437227405312) (hy : Fin y) : double.order x y = some (if ng x then .lt else .gt) := by
  unfold Format.order
  rw [read_inf hx, read_fin hy]
  rfl
theorem order_inf_r {x y : Nat} (hx : Fin x) (hy : rung y = 9218868437227405312) : double.order x y = some (if ng y then .gt else .lt) := by
  unfold Format.order
  rw [read_inf hy, read_fin hx]
  rfl
theorem order_inf {x y : Nat} (hx : rung x = 9218868437227405312) (hy : rung y = 9218868437227405312) : double.order x y = some (compare (ng y).toNat (ng x).toNat) := by
  unfold Format.order
  rw [read_inf hy, read_inf hx]
  rfl

/-- Every number of 53 digits at most, of the format's size, has a rung. -/
def rungOf (N : Nat) : Nat := (N.log2 - 52) * 4503599627370496 + N / 2 ^ (N.log2 - 52)
theorem magR_rungOf {k j : Nat} (hk : k < 9007199254740992) (hj : j ≤ 2045) : magR (rungOf (k * 2 ^ j)) = k * 2 ^ j ∧ rungOf (k * 2 ^ j) < 9218868437227405312 := by
  by_cases h0 : k = 0
  · subst h0; rw [Nat.zero_mul]; decide
  have hl : (k * 2 ^ j).log2 = k.log2 + j := log2_mul_pow h0 j
  have hkl : k.log2 ≤ 52 := by
    have : k.log2 < 53 := (Nat.log2_lt h0).2 hk
    omega
  have hself := Nat.log2_self_le h0
  have hlt := @Nat.lt_log2_self k
  unfold rungOf
  rw [hl]
  by_cases hs : k.log2 + j ≤ 52
  · rw [show k.log2 + j - 52 = 0 by omega, Nat.pow_zero, Nat.div_one, Nat.zero_mul, Nat.zero_add]
    have hN : k * 2 ^ j < 9007199254740992 := by
      have h1 : k * 2 ^ j < 2 ^ (k.log2 + 1) * 2 ^ j := Nat.mul_lt_mul_of_pos_right hlt (Nat.two_pow_pos _)
      rw [← Nat.pow_add] at h1
      have h2 : 2 ^ (k.log2 + 1 + j) ≤ 2 ^ 53 := Nat.pow_le_pow_right (by decide) (by omega)
      have : (2 : Nat) ^ 53 = 9007199254740992 := by decide
      omega
    generalize k * 2 ^ j = N at *
    unfold magR sig lev
    constructor
    · split
      · simp
      · rw [show N / 4503599627370496 - 1 = 0 by omega]; omega
    · omega
  · generalize hL : k.log2 + j - 52 = L
    -- k * 2^j = K * 2^L with 4503599627370496 ≤ K < 2B
    have hjL : L ≤ j := by omega
    have hK : k * 2 ^ j / 2 ^ L = k * 2 ^ (j - L) := by
      rw [pow_shift hjL, ← Nat.mul_assoc, Nat.mul_div_cancel _ (Nat.two_pow_pos _)]
    rw [hK]
    have hK1 : 4503599627370496 ≤ k * 2 ^ (j - L) := by
      have h1 : 2 ^ k.log2 * 2 ^ (j - L) ≤ k * 2 ^ (j - L) := Nat.mul_le_mul_right _ hself
      rw [← Nat.pow_add] at h1
      have : k.log2 + (j - L) = 52 := by omega
      rw [this] at h1
      exact h1
    have hK2 : k * 2 ^ (j - L) < 9007199254740992 := by
      have h1 : k * 2 ^ (j - L) < 2 ^ (k.log2 + 1) * 2 ^ (j - L) := Nat.mul_lt_mul_of_pos_right hlt (Nat.two_pow_pos _)
      rw [← Nat.pow_add] at h1
      have : k.log2 + 1 + (j - L) = 53 := by omega
      rw [this] at h1
      exact h1
    have hbk : k * 2 ^ j = k * 2 ^ (j - L) * 2 ^ L := by rw [pow_shift hjL, ← Nat.mul_assoc]
    rw [hbk]
    generalize k * 2 ^ (j - L) = K at *
    have hr : L * 4503599627370496 + K = (L + 1) * 4503599627370496 + (K - 4503599627370496) := by rw [Nat.add_mul, Nat.one_mul]; omega
    have hd : (L * 4503599627370496 + K) / 4503599627370496 = L + 1 := by rw [hr, Nat.mul_comm, Nat.mul_add_div (by decide)]; omega
    have hm : (L * 4503599627370496 + K) % 4503599627370496 = K - 4503599627370496 := by rw [hr, Nat.mul_comm, Nat.mul_add_mod]; exact Nat.mod_eq_of_lt (by omega)
    unfold magR sig lev
    constructor
    · rw [if_neg (by omega), if_neg (by omega), hd, hm, show L + 1 - 1 = L from rfl, show 4503599627370496 + (K - 4503599627370496) = K by omega]
    · have : L ≤ 2045 := by omega
      omega
end Go.Proofs.Ytpkcabpnehbmhaa.FM
