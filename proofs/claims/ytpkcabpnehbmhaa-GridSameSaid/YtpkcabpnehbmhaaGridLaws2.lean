/- The statements of grid: edges, there and back, nearness. -/
import Derived.Test.YtpkcabpnehbmhaaGridLaws
namespace Go.Proofs.Ytpkcabpnehbmhaa.GW
open Go Go.RowKit Go.Proofs.Ytpkcabpnehbmhaa.Mem Go.Proofs.Ytpkcabpnehbmhaa.FM
set_option linter.unusedVariables false
set_option linter.unusedSimpArgs false

theorem sg_int (n : Int) : sg (decide (n < 0)) n.natAbs = n := by
  unfold sg
  by_cases h : n < 0
  · rw [decide_eq_true h, if_pos rfl]; omega
  · rw [decide_eq_false h, if_neg (by decide)]; omega
theorem rnd_whole (n : Nat) : rnd (n * U) U = n := rnd_one U_pos
theorem round_int (n : Int) (h : coordB n = true) : roundB (ofI n) = (n, 0) := by
  have hc := (coordB_iff n).1 h
  obtain ⟨f1, f2, f3, f4, f5⟩ := ofI_facts (n := n) (by omega)
  have f1' : rung (ofI n) < 9218868437227405312 := f1
  unfold roundB
  rw [if_neg (by omega), if_neg (by omega), f2, f3, rnd_whole, sg_int, if_pos h]

theorem scaled_zero (b : Nat) (k : Int) : (scaledB b k).2 = 0 ∨ ((scaledB b k).1 = 0 ∧ (scaledB b k).2 ≠ 0) := by
  unfold scaledB
  split
  · exact .inr ⟨rfl, by decide⟩
  · split
    · exact .inr ⟨rfl, by decide⟩
    · split
      · exact .inr ⟨rfl, by decide⟩
      · split
        · exact .inl rfl
        · exact .inr ⟨rfl, by decide⟩
theorem round_zero (b : Nat) : ((roundB b).2 = 0 ∧ FM.Fin b ∧ (roundB b).1 = sg (ng b) (rnd (mag b) U) ∧ coordB (roundB b).1 = true) ∨ ((roundB b).1 = 0 ∧ (roundB b).2 ≠ 0) := by
  unfold roundB
  split
  · exact .inr ⟨rfl, by decide⟩
  · split
    · exact .inr ⟨rfl, by decide⟩
    · split
      · exact .inl ⟨rfl, by unfold FM.Fin; omega, rfl, by assumption⟩
      · exact .inr ⟨rfl, by decide⟩
theorem float_back (n k : Int) (hn : coordB n = true) (h0 : 0 ≤ k) (h1 : k ≤ 30) : (floatB n k).2 = 0 ∧ scaledB (floatB n k).1 k = (n, 0) := by
  have hc := (coordB_iff n).1 hn
  unfold floatB
  rw [if_neg (by rw [hn]; intro h; rcases h with h | h | h; omega; omega; cases h)]
  refine ⟨rfl, ?_⟩
  have hN := has_float (n := n.natAbs) (u := k.toNat) (by omega) (by omega)
  obtain ⟨m1, m2, m3, m4⟩ := mag_wd (s := decide (n < 0)) hN
  show scaledB (wd (decide (n < 0)) (rungOf (n.natAbs * U / 2 ^ k.toNat))) k = (n, 0)
  have hM : n.natAbs * U / 2 ^ k.toNat * 2 ^ k.toNat = n.natAbs * U := by
    rw [U_div (by omega), Nat.mul_assoc, ← U_cut (by omega)]
  have hz : rung (wd (decide (n < 0)) (rungOf (n.natAbs * U / 2 ^ k.toNat))) = 0 → n = 0 := by
    intro h
    rw [← mag_zero, m1] at h
    rw [h, Nat.zero_mul] at hM
    rcases Nat.mul_eq_zero.1 hM.symm with h2 | h2
    · omega
    · exact absurd h2 (Nat.ne_of_gt U_pos)
  generalize wd (decide (n < 0)) (rungOf (n.natAbs * U / 2 ^ k.toNat)) = x at *
  have m3' : rung x < 9218868437227405312 := m3
  unfold scaledB
  rw [if_neg (by omega), if_neg (by omega), if_neg, m1, m2, hM, Nat.mul_mod_left, Nat.mul_div_cancel _ U_pos, sg_int, if_pos ⟨rfl, hn⟩]
  intro h
  rcases h with h | ⟨h, h2⟩
  · omega
  · have := hz h
    rw [m2, this] at h2
    cases h2
theorem scaled_back (b : Nat) (k : Int) (hb : b < 18446744073709551616) (h0 : 0 ≤ k) (h1 : k ≤ 30) (h : (scaledB b k).2 = 0) : coordB (scaledB b k).1 = true ∧ floatB (scaledB b k).1 k = (b, 0) := by
  unfold scaledB at h ⊢
  rw [if_neg (by omega)] at h ⊢
  by_cases h2 : 9218868437227405312 < rung b
  · rw [if_pos h2] at h; exact absurd h (by decide)
  rw [if_neg h2] at h ⊢
  by_cases h3 : rung b = 9218868437227405312 ∨ (rung b = 0 ∧ ng b = true)
  · rw [if_pos h3] at h; exact absurd h (by decide)
  rw [if_neg h3] at h ⊢
  by_cases h4 : mag b * 2 ^ k.toNat % U = 0 ∧ coordB (sg (ng b) (mag b * 2 ^ k.toNat / U)) = true
  · rw [if_pos h4]
    refine ⟨h4.2, ?_⟩
    show floatB (sg (ng b) (mag b * 2 ^ k.toNat / U)) k = (b, 0)
    unfold floatB
    rw [if_neg (by rw [h4.2]; intro h; rcases h with h | h | h; omega; omega; cases h), sg_abs]
    have hdm := Nat.div_add_mod (mag b * 2 ^ k.toNat) U
    rw [h4.1, Nat.add_zero, Nat.mul_comm] at hdm
    rw [hdm, Nat.mul_div_cancel _ (Nat.two_pow_pos _)]
    have hf : rung b < 9218868437227405312 := by omega
    have h5 : rungOf (mag b) = rung b := rungOf_magR hf
    rw [h5]
    have h6 : decide (sg (ng b) (mag b * 2 ^ k.toNat / U) < 0) = ng b := by
      cases hs : ng b
      · refine decide_eq_false ?_
        generalize mag b * 2 ^ k.toNat / U = Z at *
        unfold sg
        rw [if_neg (by decide)]
        omega
      · refine decide_eq_true ?_
        have h7 : mag b * 2 ^ k.toNat / U ≠ 0 := by
          intro hc
          rw [hc, Nat.zero_mul] at hdm
          rcases Nat.mul_eq_zero.1 hdm.symm with h8 | h8
          · exact h3 (.inr ⟨mag_zero.1 h8, hs⟩)
          · exact absurd h8 (Nat.ne_of_gt (Nat.two_pow_pos _))
        generalize mag b * 2 ^ k.toNat / U = Z at *
        unfold sg; rw [if_pos rfl]; omega
    rw [h6, wd_self hb]
  · rw [if_neg h4] at h; exact absurd h (by decide)

/-- Their edges. -/
theorem nan_bits (r : Nat) (hr : r < 18446744073709551616) : ∃ c : Nat, bits .or .u64 9218868437227405313 (r : Int) = (c : Int) ∧ c < 18446744073709551616 ∧ 9218868437227405312 < rung c := by
  have h := u64_or_nat 9218868437227405313 r (by decide) hr
  refine ⟨9218868437227405313 ||| r, h, Nat.or_lt_two_pow (n := 64) (by decide) hr, ?_⟩
  have h1 := Nat.or_mod_two_pow (a := 9218868437227405313) (b := r) (n := 63)
  rw [show (2 : Nat) ^ 63 = 9223372036854775808 by decide, show (9218868437227405313 % 9223372036854775808 : Nat) = 9218868437227405313 by decide] at h1
  have h2 : 9218868437227405313 ≤ 9218868437227405313 ||| (r % 9223372036854775808) := Nat.left_le_or
  unfold rung
  rw [h1]
  omega
theorem edge_nan (c : Nat) (k : Int) (h : 9218868437227405312 < rung c) (h0 : 0 ≤ k) (h1 : k ≤ 30) : scaledB c k = (0, 70) ∧ roundB c = (0, 70) ∧ kindB c = 0 := by
  refine ⟨?_, ?_, ?_⟩
  · unfold scaledB; rw [if_neg (by omega), if_pos h]
  · unfold roundB; rw [if_pos h]
  · unfold kindB; rw [if_pos h]
theorem edge_inf (s : Bool) (k : Int) (h0 : 0 ≤ k) (h1 : k ≤ 30) : scaledB (wd s 9218868437227405312) k = (0, 71) := by
  unfold scaledB
  rw [if_neg (by omega), wd_rung (by decide), if_neg (by decide), if_pos (.inl rfl)]
theorem edge_minus (k : Int) (h0 : 0 ≤ k) (h1 : k ≤ 30) : scaledB 9223372036854775808 k = (0, 71) := by
  unfold scaledB
  rw [if_neg (by omega), if_neg (by decide), if_pos (.inr ⟨by decide, by decide⟩)]
theorem edge_zero (k : Int) (h0 : 0 ≤ k) (h1 : k ≤ 30) : scaledB 0 k = (0, 0) := by
  have e1 : mag 0 = 0 := by decide
  have e2 : ng 0 = false := by decide
  unfold scaledB
  rw [if_neg (by omega), if_neg (by decide), if_neg (by decide), e1, Nat.zero_mul, Nat.zero_mod, Nat.zero_div, sg_zero, if_pos ⟨rfl, by decide⟩]
theorem edge_rinf : roundB (wd false 9218868437227405312) = (0, 3) := by decide
theorem edge_rminus : roundB 9223372036854775808 = (0, 0) := by decide +kernel
theorem edge_same : sameB 0 9223372036854775808 = false := by decide

theorem mod31 {u : Int} (h : (Lit.int .u8 u).wf = true) : ∃ k : Int, u % 31 = k ∧ 0 ≤ k ∧ k ≤ 30 := ⟨u % 31, rfl, by have := wf_u8 h; omega, by omega⟩

set_option maxRecDepth 100000 in
theorem edges8 (W : World) (a : Int) (ha : (Lit.int .u64 a).wf = true) (u : Int) (hu : (Lit.int .u8 u).wf = true) : Calls Try.prog 8 #[.int .u64 a, .int .u8 u] W fun e W' => e = .returned (.bool true) ∧ Below W.heap.size W W' := by
  obtain ⟨b, rfl, hb⟩ := wf_u64 ha
  have hu8 := wf_u8 hu
  clear ha hu
  have h12 := x12
  obtain ⟨c, hc, hc1, hc2⟩ := nan_bits b hb
  have q0 : 0 ≤ u % 31 := by omega
  have q1 : u % 31 ≤ 30 := by omega
  obtain ⟨n1, n2, n3⟩ := edge_nan c (u % 31) hc2 q0 q1
  have n4 := edge_inf false (u % 31) q0 q1
  have n5 := edge_inf true (u % 31) q0 q1
  have n6 := edge_minus (u % 31) q0 q1
  have n7 := edge_zero (u % 31) q0 q1
  have w0 : ∀ s, wd s 9218868437227405312 < 2 ^ 64 := fun s => by cases s <;> decide
  have z1 : decide ((1 : Int) < 0) = false := by decide
  have z2 : decide ((-1 : Int) < 0) = true := by decide
  go_enter Try.func8, Try.ntmps8
  go_wp2_with fail
  refine (Scaled13 c hc1 _ _).mono ?_
  rintro e _ ⟨rfl, rfl⟩
  rw [n1]
  go_wp2_with fail
  refine (Inf23 _ _).mono ?_
  rintro e _ ⟨rfl, rfl⟩
  rw [z1]
  go_wp2_with fail
  refine (Scaled13 _ (w0 _) _ _).mono ?_
  rintro e _ ⟨rfl, rfl⟩
  rw [n4]
  go_wp2_with fail
  refine (Inf23 _ _).mono ?_
  rintro e _ ⟨rfl, rfl⟩
  rw [z2]
  go_wp2_with fail
  refine (Scaled13 _ (w0 _) _ _).mono ?_
  rintro e _ ⟨rfl, rfl⟩
  rw [n5]
  go_wp2_with fail
  refine (Copysign24 _ _ (by decide) (by decide) _).mono ?_
  rintro e _ ⟨rfl, rfl⟩
  rw [k7]
  go_wp2_with fail
  refine (Scaled13 _ (by decide) _ _).mono ?_
  rintro e _ ⟨rfl, rfl⟩
  rw [n6]
  go_wp2_with fail
  refine (Round17 c hc1 _).mono ?_
  rintro e _ ⟨rfl, rfl⟩
  rw [n2]
  go_wp2_with fail
  refine (Inf23 _ _).mono ?_
  rintro e _ ⟨rfl, rfl⟩
  rw [z1]
  go_wp2_with fail
  refine (Round17 _ (w0 _) _).mono ?_
  rintro e _ ⟨rfl, rfl⟩
  rw [edge_rinf]
  go_wp2_with fail
  refine (Copysign24 _ _ (by decide) (by decide) _).mono ?_
  rintro e _ ⟨rfl, rfl⟩
  rw [k7]
  go_wp2_with fail
  refine (Round17 _ (by decide) _).mono ?_
  rintro e _ ⟨rfl, rfl⟩
  rw [edge_rminus]
  go_wp2_with fail
  refine (Scaled13 _ (by decide) _ _).mono ?_
  rintro e _ ⟨rfl, rfl⟩
  rw [n7]
  go_wp2_with fail
  refine (Kind19 c hc1 _).mono ?_
  rintro e _ ⟨rfl, rfl⟩
  rw [n3]
  go_wp2_with fail
  refine (Copysign24 _ _ (by decide) (by decide) _).mono ?_
  rintro e _ ⟨rfl, rfl⟩
  rw [k7]
  go_wp2_with fail
  refine (Same21 _ _ (by decide) (by decide) _).mono ?_
  rintro e _ ⟨rfl, rfl⟩
  rw [edge_same]
  go_wp2_with fail
  refine (known16 _).mono ?_
  rintro e _ ⟨rfl, rfl⟩
  go_wp2
  go_ret
  exact ⟨rfl, good⟩

theorem i32_coord {n : Int} (h : (Lit.int .i32 n).wf = true) : coordB n = true := (coordB_iff n).2 (wf_i32 h)

set_option maxRecDepth 100000 in
theorem back9 (W : World) (n : Int) (hn : (Lit.int .i32 n).wf = true) (u : Int) (hu : (Lit.int .u8 u).wf = true) (a : Int) (ha : (Lit.int .u64 a).wf = true) : Calls Try.prog 9 #[.int .i32 n, .int .u8 u, .int .u64 a] W fun e W' => e = .returned (.bool true) ∧ Below W.heap.size W W' := by
  obtain ⟨b, rfl, hb⟩ := wf_u64 ha
  have hu8 := wf_u8 hu
  have hn' := wf_i32 hn
  have hnc := i32_coord hn
  clear ha hu hn
  have h12 := x12
  have h27 := x27
  have q0 : 0 ≤ u % 31 := by omega
  have q1 : u % 31 ≤ 30 := by omega
  obtain ⟨p1, p2⟩ := float_back n (u % 31) hnc q0 q1
  have hw := float_word n (u % 31)
  have hz := scaled_zero b (u % 31)
  have hs := scaled_back b (u % 31) hb q0 q1
  go_enter Try.func9, Try.ntmps9
  go_wp2_with fail
  refine (Float25 n _ (by omega) (by omega) _).mono ?_
  rintro e _ ⟨rfl, rfl⟩
  rw [p1]
  generalize hx : (floatB n (u % 31)).1 = x at *
  go_wp2_with fail
  refine (Scaled13 x hw _ _).mono ?_
  rintro e _ ⟨rfl, rfl⟩
  rw [p2]
  go_wp2_with fail
  refine (Float26 n _ (by omega) (by omega) _).mono ?_
  rintro e _ ⟨rfl, rfl⟩
  rw [hx, p1]
  go_wp2_with fail
  refine (Same21 x x hw hw _).mono ?_
  rintro e _ ⟨rfl, rfl⟩
  rw [same_self]
  go_wp2_with fail
  refine (Scaled13 b hb _ _).mono ?_
  rintro e _ ⟨rfl, rfl⟩
  rcases hz with hz | ⟨hz, hz2⟩
  · obtain ⟨r1, r2⟩ := hs hz
    generalize (scaledB b (u % 31)).1 = j at *
    rw [hz]
    clear hs
    have hj := (coordB_iff j).1 r1
    go_wp2_with fail
    refine (Float25 j _ (by omega) (by omega) _).mono ?_
    rintro e _ ⟨rfl, rfl⟩
    rw [r2]
    go_wp2_with fail
    refine (known16 _).mono ?_
    rintro e _ ⟨rfl, rfl⟩
    go_wp2
    go_ret
    exact ⟨rfl, good⟩
  · rw [hz]
    clear hs hz
    generalize (scaledB b (u % 31)).2 = j at *
    have hj : (j != (0 : Int)) = true := bne_iff_ne.2 hz2
    replace hz2 := Lib.hid hz2
    go_wp2_with fail
    refine (known16 _).mono ?_
    rintro e _ ⟨rfl, rfl⟩
    go_wp2
    go_ret
    exact ⟨rfl, good⟩

theorem sub_V (x y : Nat) (hx : FM.Fin x) (hy : FM.Fin y) (hh : Has (V x - V y).natAbs) : ∃ d : Nat, Ieee.double.sub x y = some d ∧ FM.Fin d ∧ V d = V x - V y := by
  have hs := sub_exact (x := x) (y := y) hx hy hh.rungOf.2 hh.rungOf.1.symm
  refine ⟨_, hs, ?_⟩
  obtain ⟨m1, m2, m3, m4⟩ := mag_wd (s := (if V x - V y = 0 then ng x && !ng y else decide (V x - V y < 0))) hh
  refine ⟨m3, ?_⟩
  rw [V_sg, m1, m2]
  generalize V x - V y = D
  by_cases h0 : D = 0
  · subst h0; exact sg_zero _
  · rw [if_neg h0, sg_int]
theorem has_rest {b : Nat} (h : FM.Fin b) (hf : Hf ≤ mag b % U) : Has (U - mag b % U) := by
  have hs := sig_lt (rung b)
  have hH := Hf_pos
  have hU := U_half
  have hml := Nat.mod_lt (mag b) U_pos
  obtain ⟨k, hk⟩ : ∃ k : Nat, k = 1074 := ⟨_, rfl⟩
  have hge : Hf ≤ mag b := Nat.le_trans hf (Nat.mod_le _ _)
  have hl : 1021 ≤ lev (rung b) := by
    rcases Nat.lt_or_ge (lev (rung b)) 1021 with h1 | h1
    · exfalso
      have h2 : 2 ^ lev (rung b) ≤ 2 ^ (k - 54) := Nat.pow_le_pow_right (by decide) (by omega)
      have h3 : U = 18014398509481984 * 2 ^ (k - 54) := by
        rw [U_eq hk, show k = 54 + (k - 54) by omega, Nat.pow_add, show 54 + (k - 54) - 54 = k - 54 by omega, show (2 : Nat) ^ 54 = 18014398509481984 by decide]
      have h4 : mag b ≤ sig (rung b) * 2 ^ (k - 54) := Nat.mul_le_mul_left _ h2
      have h5 : sig (rung b) * 2 ^ (k - 54) < 9007199254740992 * 2 ^ (k - 54) := Nat.mul_lt_mul_of_pos_right hs (Nat.two_pow_pos _)
      omega
    · exact h1
  by_cases h1 : lev (rung b) ≤ 1074
  · have h2 : mag b % U = sig (rung b) % 2 ^ (1074 - lev (rung b)) * 2 ^ lev (rung b) := by
      rw [U_split h1]; exact Nat.mul_mod_mul_right ..
    have h3 : U - mag b % U = (2 ^ (1074 - lev (rung b)) - sig (rung b) % 2 ^ (1074 - lev (rung b))) * 2 ^ lev (rung b) := by
      rw [h2, U_split h1, Nat.sub_mul]
    rw [h3]
    refine Has.of ?_ (by omega)
    have h5 : 2 ^ (1074 - lev (rung b)) ≤ 2 ^ 53 := Nat.pow_le_pow_right (by decide) (by omega)
    have h6 : sig (rung b) % 2 ^ (1074 - lev (rung b)) ≠ 0 := by
      intro hc
      rw [h2, hc, Nat.zero_mul] at hf
      omega
    have : (2 : Nat) ^ 53 = 9007199254740992 := by decide
    omega
  · exfalso
    have h2 : mag b % U = 0 := by
      have : mag b = sig (rung b) * 2 ^ (lev (rung b) - k) * U := by
        rw [U_eq hk, Nat.mul_assoc, ← pow_shift (i := lev (rung b)) (j := k) (by omega)]; rfl
      rw [this, Nat.mul_mod_left]
    omega
theorem rnd_half (m u h : Nat) (hu : u = 2 * h) : rnd m u = m / u + if h < m % u ∨ (h = m % u ∧ m / u % 2 = 1) then 1 else 0 := by
  unfold rnd
  by_cases hc : h < m % u ∨ (h = m % u ∧ m / u % 2 = 1)
  · rw [if_pos hc, if_pos (by omega)]
  · rw [if_neg hc, if_neg (by omega)]
/-- What is rounded: how far. -/
theorem near_V (b : Nat) (h : FM.Fin b) (hc : coordB (sg (ng b) (rnd (mag b) U)) = true) :
    ∃ d : Nat, Ieee.double.sub b (ofI (sg (ng b) (rnd (mag b) U))) = some d ∧ FM.Fin d ∧ V d ≤ Hf ∧ -(Hf : Int) ≤ V d ∧ (V d = Hf ∨ V d = -(Hf : Int) → rnd (mag b) U % 2 = 0) := by
  have hc' := (coordB_iff _).1 hc
  have habs : (sg (ng b) (rnd (mag b) U)).natAbs = rnd (mag b) U := sg_abs _ _
  obtain ⟨f1, f2, f3, f4, f5⟩ := ofI_facts (n := sg (ng b) (rnd (mag b) U)) (by omega)
  have hdm := Nat.div_add_mod (mag b) U
  have hml := Nat.mod_lt (mag b) U_pos
  have hU := U_half
  have hH := Hf_pos
  have hfr := has_frac h
  have hrs := has_rest h
  have hr : rnd (mag b) U = mag b / U + if Hf < mag b % U ∨ (Hf = mag b % U ∧ mag b / U % 2 = 1) then 1 else 0 := rnd_half _ _ _ hU
  have hVb : V b = sg (ng b) (mag b) := rfl
  have key : ∃ D : Int, V b - V (ofI (sg (ng b) (rnd (mag b) U))) = D ∧ Has D.natAbs ∧ D ≤ Hf ∧ -(Hf : Int) ≤ D ∧ (D = Hf ∨ D = -(Hf : Int) → rnd (mag b) U % 2 = 0) := by
    rw [f4, hVb]
    clear f1 f2 f3 f4 f5 habs hc hc' hVb
    have hdm' : ((mag b : Nat) : Int) = (U : Int) * (mag b / U : Nat) + (mag b % U : Nat) := by rw [← Int.natCast_mul, ← Int.natCast_add, hdm]
    by_cases hup : Hf < mag b % U ∨ (Hf = mag b % U ∧ mag b / U % 2 = 1)
    · rw [if_pos hup] at hr
      have hhas := hrs (by omega)
      have e1 : ((mag b / U + 1 : Nat) : Int) * (U : Int) = (U : Int) * (mag b / U : Nat) + U := by rw [Int.natCast_add, Int.add_mul, Int.mul_comm]; simp
      have e2 : -((mag b / U + 1 : Nat) : Int) * (U : Int) = -((U : Int) * (mag b / U : Nat) + U) := by rw [Int.neg_mul, e1]
      have hpar : Hf = mag b % U → (mag b / U + 1) % 2 = 0 := by omega
      rw [hr]
      generalize (U : Int) * (mag b / U : Nat) = P at *
      generalize mag b % U = f at *
      generalize mag b / U = Q at *
      cases ng b
      · refine ⟨-((U - f : Nat) : Int), ?_, ?_, by omega, by omega, fun hD => hpar (by omega)⟩
        · show (mag b : Int) - ((Q + 1 : Nat) : Int) * (U : Int) = _
          rw [e1]; omega
        · rw [Int.natAbs_neg]; exact hhas
      · refine ⟨((U - f : Nat) : Int), ?_, hhas, by omega, by omega, fun hD => hpar (by omega)⟩
        show -(mag b : Int) - -((Q + 1 : Nat) : Int) * (U : Int) = _
        rw [e2]; omega
    · rw [if_neg hup, Nat.add_zero] at hr
      have e1 : ((mag b / U : Nat) : Int) * (U : Int) = (U : Int) * (mag b / U : Nat) := Int.mul_comm _ _
      have e2 : -((mag b / U : Nat) : Int) * (U : Int) = -((U : Int) * (mag b / U : Nat)) := by rw [Int.neg_mul, e1]
      have hpar : Hf = mag b % U → (mag b / U) % 2 = 0 := by omega
      rw [hr]
      generalize (U : Int) * (mag b / U : Nat) = P at *
      generalize mag b % U = f at *
      generalize mag b / U = Q at *
      cases ng b
      · refine ⟨((f : Nat) : Int), ?_, hfr, by omega, by omega, fun hD => hpar (by omega)⟩
        show (mag b : Int) - (Q : Int) * (U : Int) = _
        rw [e1]; omega
      · refine ⟨-((f : Nat) : Int), ?_, ?_, by omega, by omega, fun hD => hpar (by omega)⟩
        · show -(mag b : Int) - -(Q : Int) * (U : Int) = _
          rw [e2]; omega
        · rw [Int.natAbs_neg]; exact hfr
  obtain ⟨D, k1, k2, k3, k4, k5⟩ := key
  obtain ⟨d, d1, d2, d3⟩ := sub_V b _ h f1 (by rw [k1]; exact k2)
  refine ⟨d, d1, d2, ?_⟩
  rw [d3, k1]
  exact ⟨k3, k4, k5⟩

theorem x_float32 (n : Int) (h : n.natAbs < 9007199254740992) (w : World) : (convert 21 23 (.int .i32 n)).run Try.prog w = .ok (.float .f64 (ofI n)) w := by
  rw [run_convert_int_float w 21 23 .i32 .f64 n (by rw [Try.underlying21]; rfl) Try.underlying23]
  congr 2
  exact ofI_enc h

set_option maxRecDepth 100000 in
theorem near6 (W : World) (n : Int) (hn : (Lit.int .i32 n).wf = true) (a : Int) (ha : (Lit.int .u64 a).wf = true) : Calls Try.prog 6 #[.int .i32 n, .int .u64 a] W fun e W' => e = .returned (.bool true) ∧ Below W.heap.size W W' := by
  obtain ⟨b, rfl, hb⟩ := wf_u64 ha
  have hn' := wf_i32 hn
  have hnc := i32_coord hn
  clear ha hn
  have h12 := x12
  have hri := round_int n hnc
  have hx32 := x_float32 n (by omega)
  obtain ⟨f1, f2, f3, f4, f5⟩ := ofI_facts (n := n) (by omega)
  have hrz := round_zero b
  clear f1 f2 f3 f4
  go_enter Try.func6, Try.ntmps6
  go_wp2_with fail
  refine (Round17 b hb _).mono ?_
  rintro e _ ⟨rfl, rfl⟩
  go_wp2_with fail
  refine (Round17 (ofI n) f5 _).mono ?_
  rintro e _ ⟨rfl, rfl⟩
  rw [hri]
  rcases hrz with ⟨hz, hf, hq, hc⟩ | ⟨hz, hz2⟩
  · rw [hq] at hc
    obtain ⟨d, d1, d2, d3, d4, d5⟩ := near_V b hf hc
    rw [hz]
    rw [← hq] at d1 hc
    have hpar : ∀ p, decide (rnd (mag b) U % 2 = 1) = p → ((roundB b).1.tmod 2 != 0) = p := by
      intro p hp
      rw [hq]
      unfold sg
      split
      · exact tmod_neg _ p hp
      · exact tmod_nat _ p hp
    generalize (roundB b).1 = k at *
    have hc' := (coordB_iff k).1 hc
    have hxk := x_float k (by omega)
    have hxd := fun w => run_float_arith (P := Try.prog) w .sub 23 .f64 _ _ _ d1
    have o1 : ∀ o, compare (V d) (Hf : Int) = o → FloatKind.f64.format.order d 4602678819172646912 = some o := fun o h => by rw [← h, ← V_half.1]; exact order_fin d2 V_half.2
    have o2 : ∀ o, compare (V d) (-(Hf : Int)) = o → FloatKind.f64.format.order d 13826050856027422720 = some o := fun o h => by rw [← h, ← V_mhalf.1]; exact order_fin d2 V_mhalf.2
    have hH := Hf_pos
    replace hq := Lib.hid hq
    have hcase : (FloatKind.f64.format.order d 4602678819172646912 = some .eq ∧ FloatKind.f64.format.order d 13826050856027422720 = some .gt ∧ (k.tmod 2 == 0) = true) ∨ (FloatKind.f64.format.order d 4602678819172646912 = some .lt ∧ FloatKind.f64.format.order d 13826050856027422720 = some .eq ∧ (k.tmod 2 == 0) = true) ∨ (FloatKind.f64.format.order d 4602678819172646912 = some .lt ∧ FloatKind.f64.format.order d 13826050856027422720 = some .gt) := by
      have hm : (V d = Hf ∨ V d = -(Hf : Int)) → (k.tmod 2 == 0) = true := fun h => by
        have h1 := hpar false (decide_eq_false (by have := d5 h; omega))
        rw [bne_eq_false_iff_eq] at h1
        exact beq_iff_eq.2 h1
      by_cases g1 : V d = Hf
      · exact .inl ⟨o1 _ (Int.compare_eq_eq.2 g1), o2 _ (Int.compare_eq_gt.2 (by omega)), hm (.inl g1)⟩
      · by_cases g2 : V d = -(Hf : Int)
        · exact .inr (.inl ⟨o1 _ (Int.compare_eq_lt.2 (by omega)), o2 _ (Int.compare_eq_eq.2 g2), hm (.inr g2)⟩)
        · exact .inr (.inr ⟨o1 _ (Int.compare_eq_lt.2 (by omega)), o2 _ (Int.compare_eq_gt.2 (by omega))⟩)
    clear o1 o2 hpar d3 d4 d5 hH
    rcases hcase with ⟨t1, t2, t3⟩ | ⟨t1, t2, t3⟩ | ⟨t1, t2⟩
    all_goals
      go_wp2_with fail
      refine (known16 _).mono ?_
      rintro e _ ⟨rfl, rfl⟩
      go_wp2
      go_ret
      exact ⟨rfl, good⟩
  · rw [hz]
    clear hz
    generalize (roundB b).2 = j at *
    have hj : (j != (0 : Int)) = true := bne_iff_ne.2 hz2
    replace hz2 := Lib.hid hz2
    go_wp2_with fail
    refine (known16 _).mono ?_
    rintro e _ ⟨rfl, rfl⟩
    go_wp2
    go_ret
    exact ⟨rfl, good⟩
end Go.Proofs.Ytpkcabpnehbmhaa.GW
