/- The walks of the floating functions: ldexp. -/
import Derived.Test.YtpkcabpnehbmhaaGridWalk3
namespace Go.Proofs.Ytpkcabpnehbmhaa.GW
open Go Go.RowKit Go.Proofs.Ytpkcabpnehbmhaa.Mem Go.Proofs.Ytpkcabpnehbmhaa.FM
set_option linter.unusedVariables false
set_option linter.unusedSimpArgs false

theorem inf_fin (b : Nat) (h : FM.Fin b) (s : Int) : infB b s = false := by
  unfold infB
  rw [decide_eq_false (Nat.ne_of_lt h)]
  rfl
set_option maxRecDepth 100000 in
theorem ldexp42z (b : Nat) (h : rung b = 0) (k : Int) (w : World) : Calls Try.prog 42 #[.float .f64 b, .int .i64 k] w fun e w' => e = .returned (.float .f64 b) ∧ w' = w := by
  have hz := w_zero b true (decide_eq_true h)
  go_enter Try.func42, Try.ntmps42
  go_wp2
  go_ret
  exact ⟨rfl, rfl⟩

theorem exp_bits (y : Nat) (hy : y < 18446744073709551616) : bits .and .i64 ((y : Int) / 4503599627370496) 2047 = ((rung y / 4503599627370496 : Nat) : Int) := by
  have hx : y / 4503599627370496 &&& 2047 = rung y / 4503599627370496 := by
    have h2 := Nat.and_two_pow_sub_one_eq_mod (y / 4503599627370496) 11
    rw [show (2 : Nat) ^ 11 - 1 = 2047 by decide, show (2 : Nat) ^ 11 = 2048 by decide] at h2
    rw [h2]
    unfold rung
    omega
  have h3 : (y : Int) / 4503599627370496 = ((y / 4503599627370496 : Nat) : Int) := by omega
  rw [h3]
  show IntKind.i64.wrap ((BitVec.ofInt 64 ((y / 4503599627370496 : Nat) : Int) &&& BitVec.ofInt 64 ((2047 : Nat) : Int)).toNat : Int) = _
  rw [BitVec.toNat_and, ofInt_u64 _ (by omega), ofInt_u64 _ (by decide), hx, IntKind.wrap_i64]
  unfold rung
  omega

/-- Times one. -/
theorem mul_one_word (x : Nat) (r : Nat) (hx : FM.Fin x) (hr : rung x = r) : Ieee.double.mul 4607182418800017408 x = some (wd (ng x) r) := by
  subst hr
  have e1 : lev (rung 4607182418800017408) = 1022 := by decide
  have e2 : sig (rung 4607182418800017408) = 4503599627370496 := by decide
  have hf : FM.Fin 4607182418800017408 := by unfold FM.Fin; decide
  have hm := mul_exact (x := 4607182418800017408) (y := x) hf hx hx (by
    obtain ⟨k, hk⟩ : ∃ k : Nat, k = 1074 := ⟨_, rfl⟩
    obtain ⟨j, hj⟩ : ∃ j : Nat, j = 1022 := ⟨_, rfl⟩
    unfold mag
    conv => lhs; rw [show magR (rung 4607182418800017408) = sig (rung 4607182418800017408) * 2 ^ lev (rung 4607182418800017408) from rfl]
    rw [e1, e2, U_eq hk, ← hj, show k = 52 + j by omega, Nat.pow_add, Nat.mul_comm, show (4503599627370496 : Nat) = 2 ^ 52 by decide])
  rw [hm, show ng 4607182418800017408 = false by decide, Bool.false_xor]
/-- Times 2^-53. -/
theorem mul_down_word (x r : Nat) (hx : FM.Fin x) (hr : r < 9218868437227405312) (h : mag x = magR r * 2 ^ 53) : Ieee.double.mul 4368491638549381120 x = some (wd (ng x) r) := by
  have e1 : lev (rung 4368491638549381120) = 969 := by decide
  have e2 : sig (rung 4368491638549381120) = 4503599627370496 := by decide
  have hf : FM.Fin 4368491638549381120 := by unfold FM.Fin; decide
  have hm := mul_exact (x := 4368491638549381120) (y := x) hf hx hr (by
    obtain ⟨k, hk⟩ : ∃ k : Nat, k = 1074 := ⟨_, rfl⟩
    obtain ⟨j, hj⟩ : ∃ j : Nat, j = 969 := ⟨_, rfl⟩
    rw [h]
    conv => lhs; rw [show mag 4368491638549381120 = sig (rung 4368491638549381120) * 2 ^ lev (rung 4368491638549381120) from rfl]
    rw [e1, e2, U_eq hk, ← hj, show k = 53 + (52 + j) by omega, Nat.pow_add, Nat.pow_add, show (4503599627370496 : Nat) = 2 ^ 52 by decide]
    rw [Nat.mul_comm, Nat.mul_assoc])
  rw [hm, show ng 4368491638549381120 = false by decide, Bool.false_xor]

/-- What the walk needs of the numbers. -/
theorem plan {b y r a c : Nat} {k d : Int} (hy3 : 4503599627370496 ≤ rung y) (hyf : FM.Fin y) (hz : rung b ≠ 0) (hr : r < 9218868437227405312) (hac : magR r * 2 ^ a = mag b * 2 ^ c) (hk : k = c - a)
    (hd : (d = 0 ∧ mag y = mag b) ∨ (d = -52 ∧ mag y = mag b * 2 ^ 52)) :
    ∃ m : Nat, m < 4503599627370496 ∧ m = y % 4503599627370496 ∧ ∃ L : Nat, rung y / 4503599627370496 = L + 1 ∧
    ((∃ t : Nat, k + d + L = t ∧ t ≤ 2045 ∧ r = (t + 1) * 4503599627370496 + m) ∨
     (∃ j : Nat, 1 ≤ j ∧ j ≤ 52 ∧ k + d + L + 53 = j ∧ magR ((j + 1) * 4503599627370496 + m) = magR r * 2 ^ 53 ∧ (j + 1) * 4503599627370496 + m < 9218868437227405312)) := by
  have hs1 : sig (rung y) = 4503599627370496 + rung y % 4503599627370496 := by unfold sig; rw [if_neg (by omega)]
  have hs2 : rung y % 4503599627370496 = y % 4503599627370496 := by unfold rung; omega
  have hl : rung y / 4503599627370496 = lev (rung y) + 1 := by unfold lev; rw [if_neg (by omega)]; omega
  have hm : y % 4503599627370496 < 4503599627370496 := Nat.mod_lt _ (by decide)
  have hmag : mag y = sig (rung y) * 2 ^ lev (rung y) := rfl
  have hb0 : mag b ≠ 0 := fun h => hz (mag_zero.1 h)
  have hr0 : magR r ≠ 0 := by
    intro h
    rw [h, Nat.zero_mul] at hac
    rcases Nat.mul_eq_zero.1 hac.symm with h1 | h1
    · exact hb0 h1
    · exact absurd h1 (Nat.ne_of_gt (Nat.two_pow_pos _))
  obtain ⟨a', ha', hka⟩ : ∃ a' : Nat, magR r * 2 ^ a' = sig (rung y) * 2 ^ (lev (rung y) + c) ∧ k + d = (c : Int) - a' := by
    rcases hd with ⟨h1, h2⟩ | ⟨h1, h2⟩
    · refine ⟨a, ?_, by omega⟩
      rw [hac, ← h2, hmag, Nat.pow_add, Nat.mul_assoc]
    · refine ⟨a + 52, ?_, by omega⟩
      rw [Nat.pow_add, ← Nat.mul_assoc, hac, Nat.pow_add, ← Nat.mul_assoc, ← hmag, h2, Nat.mul_assoc, Nat.mul_assoc, Nat.mul_comm (2 ^ c)]
  refine ⟨y % 4503599627370496, hm, rfl, lev (rung y), hl, ?_⟩
  rw [hs1, hs2] at ha'
  clear hac hmag hd
  generalize y % 4503599627370496 = m at *
  generalize lev (rung y) = L at *
  rcases Nat.lt_or_ge (L + c) a' with hlt | hge
  · obtain ⟨t1, t2⟩ := rung_down (r := r) (m := 4503599627370496 + m) (a := a') (c := L + c) (T := a' - (L + c)) hr0 (by omega) (by omega) (by omega) ha'
    refine .inr ⟨53 - (a' - (L + c)), by omega, by omega, by omega, ?_, ?_⟩
    · have := t2 (53 - (a' - (L + c))) (by omega)
      have e : ∀ q : Nat, (q + 1) * 4503599627370496 + m = q * 4503599627370496 + (4503599627370496 + m) := fun q => by rw [Nat.add_mul, Nat.one_mul]; omega
      rw [e]
      exact this
    · have : (53 - (a' - (L + c)) + 1) * 4503599627370496 ≤ 53 * 4503599627370496 := Nat.mul_le_mul_right _ (by omega)
      omega
  · obtain ⟨t1, t2⟩ := rung_up (r := r) (m := 4503599627370496 + m) (a := a') (c := L + c) (T := L + c - a') hr (by omega) (by omega) (by omega) ha'
    refine .inl ⟨L + c - a', by omega, t2, ?_⟩
    rw [t1, Nat.add_mul, Nat.one_mul]
    omega

theorem put_exp' (s : Bool) (m x : Nat) (E : Int) (hm : m < 4503599627370496) (hx : x < 2047) (hE : E = x) : bits .or .u64 ((wd s m : Nat) : Int) (E * 4503599627370496) = ((wd s (x * 4503599627370496 + m) : Nat) : Int) := by
  subst hE
  rw [← put_exp s m x hm hx]
  congr 1
theorem clear_exp' (b m : Nat) (hb : b < 18446744073709551616) (hm : m = b % 4503599627370496) : bits .andNot .u64 (b : Int) 9218868437227405312 = ((wd (ng b) m : Nat) : Int) := by
  subst hm
  exact clear_exp b hb

set_option maxRecDepth 100000 in
theorem ldexp42 (b : Nat) (hb : b < 2 ^ 64) (h : FM.Fin b) (hz : rung b ≠ 0) (k : Int) (hk1 : -30 ≤ k) (hk2 : k ≤ 30) (r a c : Nat) (hr : r < 9218868437227405312) (hac : magR r * 2 ^ a = mag b * 2 ^ c) (hk : k = c - a) (w : World) :
    Calls Try.prog 42 #[.float .f64 b, .int .i64 k] w fun e w' => e = .returned (.float .f64 (wd (ng b) r)) ∧ w' = w := by
  have hz' := w_zero b false (decide_eq_false hz)
  have hi := inf_fin b h 0
  have hn : decide (9218868437227405312 < rung b) = false := decide_eq_false (by have : rung b < 9218868437227405312 := h; omega)
  have h27 := x27
  have h12 := x12
  replace hac := Lib.hid hac
  replace hk := Lib.hid hk
  go_enter Try.func42, Try.ntmps42
  go_wp2_with fail
  refine (IsInf39 b hb _ _).mono ?_
  rintro e _ ⟨rfl, rfl⟩
  go_wp2_with fail
  refine (IsNaN45 b _).mono ?_
  rintro e _ ⟨rfl, rfl⟩
  go_wp2_with fail
  refine (normalize46 b hb h hz _).mono ?_
  rintro e _ ⟨rfl, y, d, rfl, hy1, hy2, hy3, hy4, hd⟩
  obtain ⟨m, hm1, hm2, L, hL, hp⟩ := plan hy3 hy2 hz hr hac.out hk.out hd
  have hd' : d = 0 ∨ d = -52 := hd.imp (·.1) (·.1)
  have he := exp_bits y hy1
  rw [hL] at he
  have hL2 : L < 2046 := by have : rung y < 9218868437227405312 := hy2; omega
  obtain ⟨x, hx⟩ : ∃ x : Int, x = ((L + 1 : Nat) : Int) := ⟨_, rfl⟩
  rw [← hx] at he
  have hx0 : x = L + 1 := by omega
  have w1 : wrap64 (x - 1023) = x - 1023 := by unfold wrap64; omega
  obtain ⟨E, hE⟩ : ∃ E : Int, E = k + d + (x - 1023) := ⟨_, rfl⟩
  have w2 : wrap64 (k + d + (x - 1023)) = E := by unfold wrap64; omega
  have ha := clear_exp' y m hy1 hm2
  rw [hy4] at ha
  replace hd := Lib.hid hd
  replace hE := Lib.hid hE
  replace hx := Lib.hid hx
  replace hx0 := Lib.hid hx0
  replace hL := Lib.hid hL
  replace hm2 := Lib.hid hm2
  rcases hp with ⟨t, ht1, ht2, ht3⟩ | ⟨j, hj1, hj2, hj3, hj4, hj5⟩
  · have q1 : decide (E < -1075) = false := decide_eq_false (by have := hE.out; have := hx0.out; omega)
    have q2 : decide (1023 < E) = false := decide_eq_false (by have := hE.out; have := hx0.out; omega)
    have q3 : decide (E < -1022) = false := decide_eq_false (by have := hE.out; have := hx0.out; omega)
    have ho := put_exp' (ng b) m (t + 1) (E + 1023) hm1 (by omega) (by have := hE.out; have := hx0.out; omega)
    rw [← ht3] at ho
    have hf : FM.Fin (wd (ng b) r) := by unfold FM.Fin; rw [wd_rung (by omega)]; exact hr
    have hmul := mul_one_word (wd (ng b) r) r hf (wd_rung (by omega))
    rw [wd_ng (by omega)] at hmul
    have hm' := fun w => run_float_arith (P := Try.prog) w .mul 23 .f64 _ _ _ hmul
    replace ht1 := Lib.hid ht1
    replace ht3 := Lib.hid ht3
    replace ht2 := Lib.hid ht2
    have b1 : -1022 ≤ E := by have := of_decide_eq_false q3; omega
    have b2 : E ≤ 1023 := by have := of_decide_eq_false q2; omega
    go_wp2
    go_ret
    exact ⟨rfl, rfl⟩
  · have q1 : decide (E < -1075) = false := decide_eq_false (by have := hE.out; have := hx0.out; omega)
    have q2 : decide (1023 < E) = false := decide_eq_false (by have := hE.out; have := hx0.out; omega)
    have q3 : decide (E < -1022) = true := decide_eq_true (by have := hE.out; have := hx0.out; omega)
    have ho := put_exp' (ng b) m (j + 1) (E + 53 + 1023) hm1 (by omega) (by have := hE.out; have := hx0.out; omega)
    generalize (j + 1) * 4503599627370496 + m = q at *
    have hf : FM.Fin (wd (ng b) q) := by unfold FM.Fin; rw [wd_rung (by omega)]; exact hj5
    have hmul := mul_down_word (wd (ng b) q) r hf hr (by unfold mag; rw [wd_rung (by omega)]; exact hj4)
    rw [wd_ng (by omega)] at hmul
    have hm' := fun w => run_float_arith (P := Try.prog) w .mul 23 .f64 _ _ _ hmul
    replace hj3 := Lib.hid hj3
    replace hj4 := Lib.hid hj4
    have b1 : -1075 ≤ E := by have := of_decide_eq_false q1; omega
    have b2 : E < -1022 := of_decide_eq_true q3
    go_wp2
    go_ret
    exact ⟨rfl, rfl⟩

set_option maxRecDepth 100000 in
theorem Ldexp32z (b : Nat) (h : rung b = 0) (k : Int) (w : World) : Calls Try.prog 32 #[.float .f64 b, .int .i64 k] w fun e w' => e = .returned (.float .f64 b) ∧ w' = w := by
  go_enter Try.func32, Try.ntmps32
  go_wp2_with fail
  refine (ldexp42z b h k _).mono ?_
  rintro e _ ⟨rfl, rfl⟩
  go_wp2
  go_ret
  exact ⟨rfl, rfl⟩
set_option maxRecDepth 100000 in
theorem Ldexp32 (b : Nat) (hb : b < 2 ^ 64) (h : FM.Fin b) (hz : rung b ≠ 0) (k : Int) (hk1 : -30 ≤ k) (hk2 : k ≤ 30) (r a c : Nat) (hr : r < 9218868437227405312) (hac : magR r * 2 ^ a = mag b * 2 ^ c) (hk : k = c - a) (w : World) :
    Calls Try.prog 32 #[.float .f64 b, .int .i64 k] w fun e w' => e = .returned (.float .f64 (wd (ng b) r)) ∧ w' = w := by
  replace hac := Lib.hid hac
  replace hk := Lib.hid hk
  go_enter Try.func32, Try.ntmps32
  go_wp2_with fail
  refine (ldexp42 b hb h hz k hk1 hk2 r a c hr hac.out hk.out _).mono ?_
  rintro e _ ⟨rfl, rfl⟩
  go_wp2
  go_ret
  exact ⟨rfl, rfl⟩
end Go.Proofs.Ytpkcabpnehbmhaa.GW
