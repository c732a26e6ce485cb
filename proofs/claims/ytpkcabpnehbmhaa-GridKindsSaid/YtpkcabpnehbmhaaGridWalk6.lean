/- The walks of the document's functions: Float, Scaled. -/
import Derived.Test.YtpkcabpnehbmhaaGridWalk5
namespace Go.Proofs.Ytpkcabpnehbmhaa.GW
open Go Go.RowKit Go.Proofs.Ytpkcabpnehbmhaa.Mem Go.Proofs.Ytpkcabpnehbmhaa.FM
set_option linter.unusedVariables false
set_option linter.unusedSimpArgs false

def intOf : Value → Int
  | .int _ n => n
  | _ => 0

/-- The word of n over 2^i. -/
def flo (s : Bool) (n i : Nat) : Nat := wd s (rungOf (n * U / 2 ^ i))
theorem x_half (n u i : Nat) (s : Bool) (hn : n < 9007199254740992) (hi : i + 1 ≤ u) (hu : u ≤ 30) (w : World) :
    (binOp .quo 23 (.float .f64 (flo s n i)) (.float .f64 4611686018427387904)).run Try.prog w = .ok (.float .f64 (flo s n (i + 1))) w := by
  have h1 := has_float (n := n) (u := i) hn (by omega)
  have h2 := has_float (n := n) (u := i + 1) hn (by omega)
  obtain ⟨m1, m2, m3, m4⟩ := mag_wd (s := s) h1
  refine run_float_arith (P := Try.prog) w .quo 23 .f64 _ _ _ ?_
  have h3 := div_two (x := wd s (rungOf (n * U / 2 ^ i))) (r := rungOf (n * U / 2 ^ (i + 1))) m3 h2.rungOf.2 (by
    rw [h2.rungOf.1, m1, U_div (by omega), U_div (by omega), Nat.mul_assoc, ← Nat.pow_succ]
    congr 2
    omega)
  rw [m2] at h3
  exact h3

set_option maxRecDepth 100000 in
theorem Float26 (n up : Int) (hn : -9223372036854775808 ≤ n) (hn2 : n ≤ 9223372036854775807) (w : World) : Calls Try.prog 26 #[.int .i64 n, .int .i64 up] w fun e w' => e = .returned (.tuple #[.float .f64 (floatB n up).1, .int .i64 (floatB n up).2]) ∧ w' = w := by
  obtain ⟨v, hv⟩ : ∃ v, v = floatB n up := ⟨_, rfl⟩
  rw [← hv]
  unfold floatB at hv
  replace hv := Lib.hid hv
  go_enter Try.func26, Try.ntmps26
  by_cases h1 : up < 0
  · have t1 : decide (up < 0) = true := decide_eq_true h1
    go_wp2
    go_ret2
    exact ⟨by rw [hv.out, if_pos (.inl h1)]; rfl, rfl⟩
  have t1 : decide (up < 0) = false := decide_eq_false h1
  by_cases h2 : 30 < up
  · have t2 : decide (30 < up) = true := decide_eq_true h2
    go_wp2
    go_ret2
    exact ⟨by rw [hv.out, if_pos (.inr (.inl h2))]; rfl, rfl⟩
  have t2 : decide (30 < up) = false := decide_eq_false h2
  go_wp2_with fail
  refine (coord36 n _).mono ?_
  rintro e w1 ⟨rfl, rfl⟩
  cases hc : coordB n
  · go_wp2
    go_ret2
    refine ⟨by rw [hv.out, if_pos (.inr (.inr hc))]; rfl, rfl⟩
  have hc' := (coordB_iff n).1 hc
  have hx := x_float n (by omega)
  obtain ⟨u, hu⟩ : ∃ u : Nat, u = up.toNat := ⟨_, rfl⟩
  have hup : up = (u : Int) := by omega
  rw [← hu] at hv
  have hvv := hv.out
  rw [if_neg (by rw [hc]; intro h; rcases h with h | h | h; omega; omega; cases h)] at hvv
  replace hvv := Lib.hid hvv
  have hof : ofI n = flo (decide (n < 0)) n.natAbs 0 := by unfold flo; rw [Nat.pow_zero, Nat.div_one]; rfl
  have hh := x_half n.natAbs u
  have hu30 : u ≤ 30 := by omega
  have hlt : n.natAbs < 9007199254740992 := by omega
  subst hup
  clear hu hv
  rw [hof] at hx
  replace hof := Lib.hid hof
  generalize hs : decide (n < 0) = s at *
  generalize n.natAbs = N at *
  go_wp2_with fail
  go_loopw [6, 7] (fun vx vi wr => ∃ i : Nat, vx = .float .f64 (flo s N i) ∧ vi = .int .i64 i ∧ i ≤ u ∧ wr = w1) (fun _ vi _ => u - (intOf vi).toNat)
  case atStart => exact ⟨0, rfl, rfl, Nat.zero_le _, rfl⟩
  case round =>
    obtain ⟨i, rfl, rfl, hi, rfl⟩ := hrel
    by_cases hlt2 : i < u
    · have d1 : decide ((i : Int) < (u : Int)) = true := decide_eq_true (by omega)
      have hq := hh i s hlt (by omega) hu30
      have hni : i + 1 ≤ u := hlt2
      go_wp2_with fail
      go_roundw
      case rel => exact ⟨i + 1, rfl, by go_num, hni, trivial⟩
      case measure => simp [intOf]; omega
    · have d1 : decide ((i : Int) < (u : Int)) = false := decide_eq_false (by omega)
      have he : i = u := by omega
      subst he
      go_wp2
      go_ret2
      exact ⟨by rw [hvv.out]; rfl, rfl⟩

theorem sub_scaled {b u : Nat} (h5 : rung b < 4503599627370496) (h0 : rung b ≠ 0) (hu : u ≤ 30) : mag b * 2 ^ u % U ≠ 0 := by
  have h1 : mag b = rung b := by unfold mag magR lev sig; rw [if_pos h5, if_pos h5, Nat.pow_zero, Nat.mul_one]
  rw [h1]
  have h2 : 2 ^ u ≤ 2 ^ 30 := Nat.pow_le_pow_right (by decide) hu
  have h3 : rung b * 2 ^ u ≤ 4503599627370496 * 2 ^ 30 := Nat.mul_le_mul (by omega) h2
  have h4 : 4503599627370496 * 2 ^ 30 < U := by
    obtain ⟨k, hk⟩ : ∃ k : Nat, k = 1074 := ⟨_, rfl⟩
    rw [U_eq hk, show (4503599627370496 : Nat) = 2 ^ 52 by decide, ← Nat.pow_add]
    exact (Nat.pow_lt_pow_iff_right (by decide)).2 (by omega)
  rw [Nat.mod_eq_of_lt (by omega)]
  exact Nat.mul_ne_zero h0 (Nat.ne_of_gt (Nat.two_pow_pos _))
/-- An odd number, and places behind the point: not whole. -/
theorem not_whole {M m p q : Nat} (h : M * 2 ^ q = m * 2 ^ p * U) (hpq : p < q) (hm : m % 2 = 1) : M % U ≠ 0 := by
  intro hc
  have h1 := Nat.div_add_mod M U
  rw [hc, Nat.add_zero] at h1
  have h2 : M / U * 2 ^ (q - p) = m := by
    refine Nat.eq_of_mul_eq_mul_right (Nat.mul_pos (Nat.two_pow_pos p) U_pos) ?_
    rw [← Nat.mul_assoc m, ← h, ← h1]
    rw [Nat.mul_div_cancel_left _ U_pos]
    have : 2 ^ q = 2 ^ (q - p) * 2 ^ p := by rw [← Nat.pow_add]; congr 1; omega
    rw [this]
    generalize M / U = K
    generalize 2 ^ (q - p) = X
    generalize 2 ^ p = Y
    simp only [Nat.mul_assoc, Nat.mul_comm, Nat.mul_left_comm]
  have h3 : 2 ^ (q - p) = 2 ^ (q - p - 1) * 2 := by rw [← Nat.pow_succ]; congr 1; omega
  rw [h3, ← Nat.mul_assoc] at h2
  omega
theorem whole_at {M m p q S : Nat} (h : M * 2 ^ q = m * 2 ^ p * U) (hS : p = S + q) : M = m * 2 ^ S * U := by
  refine Nat.eq_of_mul_eq_mul_right (Nat.two_pow_pos q) ?_
  rw [h, hS, Nat.pow_add]
  simp only [Nat.mul_assoc, Nat.mul_comm, Nat.mul_left_comm]
/-- The exponent, halved out, and doubled in. -/
def Sh (M : Nat) (m : Nat) (s : Int) : Prop := ∃ p q : Nat, s = (p : Int) - q ∧ M * 2 ^ q = m * 2 ^ p * U
theorem Sh.halve {M m : Nat} {s : Int} (h : Sh M m s) (hm : m % 2 = 0) : Sh M (m / 2) (s + 1) := by
  obtain ⟨p, q, h1, h2⟩ := h
  refine ⟨p + 1, q, by omega, ?_⟩
  rw [h2, Nat.pow_succ, show m = m / 2 * 2 by omega]
  rw [Nat.mul_div_cancel _ (by decide)]
  simp only [Nat.mul_assoc, Nat.mul_comm, Nat.mul_left_comm]
theorem Sh.start {b u : Nat} : Sh (mag b * 2 ^ u) (sig (rung b)) ((lev (rung b) : Int) - 1074 + u) := by
  obtain ⟨k, hk⟩ : ∃ k : Nat, k = 1074 := ⟨_, rfl⟩
  refine ⟨lev (rung b) + u, k, by omega, ?_⟩
  rw [U_eq hk, Nat.pow_add]
  unfold mag magR
  simp only [Nat.mul_assoc, Nat.mul_comm, Nat.mul_left_comm]
theorem Sh.odd {M m : Nat} {s : Int} (h : Sh M m s) (hs : s < 0) (hm : m % 2 = 1) : M % U ≠ 0 := by
  obtain ⟨p, q, h1, h2⟩ := h
  exact not_whole h2 (by omega) hm
theorem Sh.whole {M m : Nat} {s : Int} (h : Sh M m s) (hs : 0 ≤ s) : M = m * 2 ^ s.toNat * U := by
  obtain ⟨p, q, h1, h2⟩ := h
  exact whole_at h2 (by omega)
theorem Sh.double {M m : Nat} {s : Int} (h : Sh M m s) : Sh M (m * 2) (s - 1) := by
  obtain ⟨p, q, h1, h2⟩ := h
  refine ⟨p, q + 1, by omega, ?_⟩
  rw [Nat.pow_succ, ← Nat.mul_assoc, h2]
  simp only [Nat.mul_assoc, Nat.mul_comm, Nat.mul_left_comm]

set_option maxRecDepth 100000 in
theorem Scaled14 (b : Nat) (hb : b < 2 ^ 64) (up : Int) (w : World) : Calls Try.prog 14 #[.float .f64 b, .int .i64 up] w fun e w' => e = .returned (.tuple #[.int .i64 (scaledB b up).1, .int .i64 (scaledB b up).2]) ∧ w' = w := by
  obtain ⟨v, hv⟩ : ∃ v, v = scaledB b up := ⟨_, rfl⟩
  rw [← hv]
  unfold scaledB at hv
  replace hv := Lib.hid hv
  go_enter Try.func14, Try.ntmps14
  by_cases h1 : up < 0
  · have t1 : decide (up < 0) = true := decide_eq_true h1
    go_wp2
    go_ret2
    exact ⟨by rw [hv.out, if_pos (.inl h1)]; rfl, rfl⟩
  have t1 : decide (up < 0) = false := decide_eq_false h1
  by_cases h2 : 30 < up
  · have t2 : decide (30 < up) = true := decide_eq_true h2
    go_wp2
    go_ret2
    exact ⟨by rw [hv.out, if_pos (.inr h2)]; rfl, rfl⟩
  have t2 : decide (30 < up) = false := decide_eq_false h2
  have hv1 := hv.out
  rw [if_neg (by omega)] at hv1
  replace hv1 := Lib.hid hv1
  clear hv
  go_wp2_with fail
  refine (Kind20 b hb _).mono ?_
  rintro e w1 ⟨rfl, rfl⟩
  by_cases h3 : 9218868437227405312 < rung b
  · have hk : kindB b = 0 := by unfold kindB; rw [if_pos h3]
    go_wp2
    go_ret2
    exact ⟨by rw [hv1.out, if_pos h3]; rfl, rfl⟩
  by_cases h4 : rung b = 9218868437227405312 ∨ (rung b = 0 ∧ ng b = true)
  · have hk := kind_out h3 h4
    replace h4 := Lib.hid h4
    rcases hk with hk | hk | hk
    all_goals
      go_wp2
      go_ret2
      exact ⟨by rw [hv1.out, if_neg h3, if_pos h4.out]; rfl, rfl⟩
  have hv2 := hv1.out
  rw [if_neg h3, if_neg h4] at hv2
  obtain ⟨u, hu⟩ : ∃ u : Nat, u = up.toNat := ⟨_, rfl⟩
  have hup : up = (u : Int) := by omega
  have hu30 : u ≤ 30 := by omega
  rw [← hu] at hv2
  clear hv1 hu
  have hni : rung b ≠ 9218868437227405312 := fun h => h4 (.inl h)
  by_cases h0 : rung b = 0
  · have hk : kindB b = 3 := by unfold kindB; rw [if_neg h3, if_neg (by omega), if_pos h0, if_neg (fun h => h4 (.inr ⟨h0, h⟩))]
    rw [mag_zero.2 h0, Nat.zero_mul, Nat.zero_mod, Nat.zero_div, sg_zero, if_pos ⟨rfl, by decide⟩] at hv2
    replace h4 := Lib.hid h4
    replace hv2 := Lib.hid hv2
    go_wp2
    go_ret2
    exact ⟨by rw [hv2.out]; rfl, rfl⟩
  by_cases h5 : rung b < 4503599627370496
  · have hk : kindB b = 5 := by unfold kindB; rw [if_neg h3, if_neg (by omega), if_neg h0, if_pos h5]
    rw [if_neg (fun h => sub_scaled h5 h0 hu30 h.1)] at hv2
    replace h4 := Lib.hid h4
    replace hv2 := Lib.hid hv2
    go_wp2
    go_ret2
    exact ⟨by rw [hv2.out]; rfl, rfl⟩
  have hk : kindB b = 6 := by unfold kindB; rw [if_neg h3, if_neg (by omega), if_neg h0, if_neg h5]
  have hS := Sh.start (b := b) (u := u)
  have hr := rung_lt b
  have hl : lev (rung b) = rung b / 4503599627370496 - 1 := by unfold lev; rw [if_neg h5]
  have hsg : sig (rung b) = 4503599627370496 + rung b % 4503599627370496 := by unfold sig; rw [if_neg h5]
  generalize mag b * 2 ^ u = M at *
  have hs1 := sig_lt (rung b)
  obtain ⟨E, hE⟩ : ∃ E : Nat, E = rung b / 4503599627370496 := ⟨_, rfl⟩
  obtain ⟨m0, hm0⟩ : ∃ m0 : Nat, m0 = rung b % 4503599627370496 := ⟨_, rfl⟩
  have hE1 : 1 ≤ E ∧ E ≤ 2047 := by omega
  have hS' : Sh M (m0 + 4503599627370496) ((E : Int) - 1075 + u) := by
    rw [hsg, hl, ← hm0, ← hE, Nat.add_comm] at hS
    have : (((E - 1 : Nat) : Int) - 1074 + u) = (E : Int) - 1075 + u := by omega
    rw [this] at hS
    exact hS
  have hm1 : m0 < 4503599627370496 := by omega
  clear hS hsg hl hs1
  replace h4 := Lib.hid h4
  replace hv2 := Lib.hid hv2
  subst hup
  go_wp2_with fail
  refine (parts35 b hb _).mono ?_
  rintro e w2 ⟨rfl, rfl⟩
  rw [← hE, ← hm0]
  replace hE := Lib.hid hE
  replace hm0 := Lib.hid hm0
  go_wp2_with fail
  go_loopw [9, 10] (fun vm vs wr => ∃ (m : Nat) (s : Int), vm = .int .u64 m ∧ vs = .int .i64 s ∧ 1 ≤ m ∧ m < 9007199254740992 ∧ -1074 ≤ s ∧ s ≤ 1002 ∧ Sh M m s ∧ wr = w2) (fun _ vs _ => (-(intOf vs)).toNat)
  case atStart => exact ⟨m0 + 4503599627370496, (E : Int) - 1075 + u, by go_num, by go_num, by omega, by omega, by omega, by omega, hS', rfl⟩
  case round =>
    obtain ⟨m, s, rfl, rfl, hm1, hm2, hs1, hs2, hSh, rfl⟩ := hrel
    clear hS'
    by_cases c1 : s < 0 ∧ m % 2 = 0
    · have d1 : decide (s < 0) = true := decide_eq_true c1.1
      have d2 : ((m : Int) % 2 == 0) = true := beq_iff_eq.2 (by omega)
      have d3 : decide ((0 : Int) < m) = true := decide_eq_true (by omega)
      have hn := hSh.halve c1.2
      have e1 : ((m / 2 : Nat) : Int) = (m : Int) / 2 := by omega
      have b1 : 1 ≤ m / 2 := by omega
      have b2 : m / 2 < 9007199254740992 := by omega
      have c2 := c1.1
      clear c1
      go_wp2_with fail
      go_roundw
      case rel => exact ⟨m / 2, s + 1, by go_num, by go_num, b1, b2, by omega, by omega, hn, trivial⟩
      case measure => simp [intOf]; omega
    · have dd : (decide (s < 0) = true ∧ ((m : Int) % 2 == 0) = false ∧ s < 0 ∧ m % 2 = 1) ∨ (decide (s < 0) = false ∧ 0 ≤ s) := by
        by_cases c2 : s < 0
        · have : m % 2 = 1 := by omega
          exact .inl ⟨decide_eq_true c2, beq_eq_false_iff_ne.2 (by omega), c2, this⟩
        · exact .inr ⟨decide_eq_false c2, by omega⟩
      clear c1
      rcases dd with ⟨d1, d2, c1, c2⟩ | ⟨d1, c1⟩
      · have hno := hSh.odd c1 c2
        go_wp2
        go_ret2
        exact ⟨by rw [hv2.out, if_neg (fun h => hno h.1)]; rfl, rfl⟩
      go_wp2_with fail
      go_loopw [9, 10] (fun vm vs wr2 => ∃ (m : Nat) (s : Int), vm = .int .u64 m ∧ vs = .int .i64 s ∧ 1 ≤ m ∧ m < 18014398509481984 ∧ 0 ≤ s ∧ s ≤ 1002 ∧ Sh M m s ∧ wr2 = wr) (fun _ vs _ => (intOf vs).toNat)
      case atStart => exact ⟨m, s, rfl, rfl, hm1, by omega, c1, hs2, hSh, rfl⟩
      case round =>
        clear hSh
        obtain ⟨m, s, rfl, rfl, hm1, hm2, hs1, hs2, hSh, rfl⟩ := hrel
        have hW := hSh.whole hs1
        have hMU : M / U = m * 2 ^ s.toNat := by rw [hW, Nat.mul_div_cancel _ U_pos]
        have hMod : M % U = 0 := by rw [hW, Nat.mul_mod_left]
        replace hW := Lib.hid hW
        by_cases c1 : 0 < s ∧ m < 8589934592
        · have d1 : decide (0 < s) = true := decide_eq_true c1.1
          have d2 : decide ((m : Int) < 8589934592) = true := decide_eq_true (by omega)
          have hn := hSh.double
          have b2 : m * 2 < 18014398509481984 := by omega
          have b1 : 1 ≤ m * 2 := by omega
          have c2 := c1.1
          have c3 := c1.2
          clear c1
          replace hMU := Lib.hid hMU
          go_wp2_with fail
          go_roundw
          case rel => exact ⟨m * 2, s - 1, by go_num, by go_num, b1, b2, by omega, by omega, hn, trivial⟩
          case measure => simp [intOf]; omega
        · have dd : (decide (0 < s) = true ∧ decide ((m : Int) < 8589934592) = false ∧ 2147483648 < M / U) ∨ (decide (0 < s) = false ∧ decide ((2147483648 : Int) < m) = true ∧ 2147483648 < M / U) ∨ (decide (0 < s) = false ∧ decide ((2147483648 : Int) < m) = false ∧ m ≤ 2147483648 ∧ M / U = m) := by
            by_cases c2 : 0 < s
            · refine .inl ⟨decide_eq_true c2, decide_eq_false (by omega), ?_⟩
              have h7 : m * 1 ≤ m * 2 ^ s.toNat := Nat.mul_le_mul_left _ (Nat.two_pow_pos _)
              omega
            · have hs0 : s.toNat = 0 := by omega
              rw [hs0, Nat.pow_zero, Nat.mul_one] at hMU
              by_cases c3 : 2147483648 < m
              · exact .inr (.inl ⟨decide_eq_false c2, decide_eq_true (by omega), by omega⟩)
              · exact .inr (.inr ⟨decide_eq_false c2, decide_eq_false (by omega), by omega, hMU⟩)
          clear c1
          have hbig : 2147483648 < M / U → v = (0, 71) := by
            intro hb2
            rw [hv2.out, if_neg]
            intro h
            have h7 := (coordB_iff _).1 h.2
            unfold sg at h7
            split at h7 <;> omega
          replace hMU := Lib.hid hMU
          rcases dd with ⟨d1, d2, d3⟩ | ⟨d1, d2, d3⟩ | ⟨d1, d2, d4, d3⟩
          · have hv3 := Lib.hid (hbig d3)
            replace d3 := Lib.hid d3
            go_wp2
            go_ret2
            exact ⟨by rw [hv3.out]; rfl, rfl⟩
          · have hv3 := Lib.hid (hbig d3)
            replace d3 := Lib.hid d3
            go_wp2
            go_ret2
            exact ⟨by rw [hv3.out]; rfl, rfl⟩
          · have hv3 := hv2.out
            rw [d3] at hv3
            replace hv3 := Lib.hid hv3
            replace d3 := Lib.hid d3
            cases hng : ng b
            · go_wp2_with fail
              refine (coord36 (m : Int) _).mono ?_
              rintro e w3 ⟨rfl, rfl⟩
              have hv4 := hv3.out
              rw [hng] at hv4
              have hsg : sg false m = m := rfl
              rw [hsg] at hv4
              replace hv4 := Lib.hid hv4
              cases hc : coordB (m : Int)
              · go_wp2
                go_ret2
                exact ⟨by rw [hv4.out, if_neg (fun h => by rw [hc] at h; cases h.2)]; rfl, rfl⟩
              · go_wp2
                go_ret2
                exact ⟨by rw [hv4.out, if_pos ⟨hMod, hc⟩]; rfl, rfl⟩
            · go_wp2_with fail
              refine (coord36 (-(m : Int)) _).mono ?_
              rintro e w3 ⟨rfl, rfl⟩
              have hv4 := hv3.out
              rw [hng] at hv4
              have hsg : sg true m = -(m : Int) := rfl
              rw [hsg] at hv4
              replace hv4 := Lib.hid hv4
              cases hc : coordB (-(m : Int))
              · go_wp2
                go_ret2
                exact ⟨by rw [hv4.out, if_neg (fun h => by rw [hc] at h; cases h.2)]; rfl, rfl⟩
              · go_wp2
                go_ret2
                exact ⟨by rw [hv4.out, if_pos ⟨hMod, hc⟩]; rfl, rfl⟩
end Go.Proofs.Ytpkcabpnehbmhaa.GW
