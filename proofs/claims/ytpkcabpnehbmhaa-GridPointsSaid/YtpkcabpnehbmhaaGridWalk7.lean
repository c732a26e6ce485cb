/- The walk of the document's Round. -/
import Derived.Test.YtpkcabpnehbmhaaGridWalk6
namespace Go.Proofs.Ytpkcabpnehbmhaa.GW
open Go Go.RowKit Go.Proofs.Ytpkcabpnehbmhaa.Mem Go.Proofs.Ytpkcabpnehbmhaa.FM
set_option linter.unusedVariables false
set_option linter.unusedSimpArgs false

theorem has_frac {b : Nat} (h : FM.Fin b) : Has (mag b % U) := by
  rcases Nat.lt_or_ge (mag b) U with hlt | hge
  · rw [Nat.mod_eq_of_lt hlt]; exact Has.self h
  · have hs := sig_lt (rung b)
    obtain ⟨k, hk⟩ : ∃ k : Nat, k = 1074 := ⟨_, rfl⟩
    have hl : 1022 ≤ lev (rung b) := by
      rcases Nat.lt_or_ge (lev (rung b)) 1022 with h1 | h1
      · exfalso
        have h2 : 2 ^ lev (rung b) ≤ 2 ^ (k - 53) := Nat.pow_le_pow_right (by decide) (by omega)
        have h3 : U = 9007199254740992 * 2 ^ (k - 53) := by
          rw [U_eq hk, show k = 53 + (k - 53) by omega, Nat.pow_add, show 53 + (k - 53) - 53 = k - 53 by omega, show (2 : Nat) ^ 53 = 9007199254740992 by decide]
        have h4 : mag b ≤ sig (rung b) * 2 ^ (k - 53) := Nat.mul_le_mul_left _ h2
        have h5 : sig (rung b) * 2 ^ (k - 53) < 9007199254740992 * 2 ^ (k - 53) := Nat.mul_lt_mul_of_pos_right hs (Nat.two_pow_pos _)
        omega
      · exact h1
    by_cases h1 : lev (rung b) ≤ 1074
    · have h2 : mag b % U = sig (rung b) % 2 ^ (1074 - lev (rung b)) * 2 ^ lev (rung b) := by
        rw [U_split h1]; exact Nat.mul_mod_mul_right ..
      rw [h2]
      refine Has.of ?_ (by omega)
      have h3 : 2 ^ (1074 - lev (rung b)) ≤ 2 ^ 52 := Nat.pow_le_pow_right (by decide) (by omega)
      have h4 := Nat.mod_lt (sig (rung b)) (Nat.two_pow_pos (1074 - lev (rung b)))
      have : (2 : Nat) ^ 52 = 4503599627370496 := by decide
      omega
    · have h2 : mag b % U = 0 := by
        have : mag b = sig (rung b) * 2 ^ (lev (rung b) - k) * U := by
          rw [U_eq hk, Nat.mul_assoc, ← pow_shift (i := lev (rung b)) (j := k) (by omega)]; rfl
        rw [this, Nat.mul_mod_left]
      rw [h2]
      exact ⟨0, by decide, by decide⟩

theorem w_cmp (x y : Nat) (hx : FM.Fin x) (hy : FM.Fin y) (o : Ordering) (p : Bool) (h : decide (compare (V x) (V y) = o) = p) : (FloatKind.f64.format.order x y == some o) = p := by
  show (Ieee.double.order x y == some o) = p
  rw [order_fin hx hy, ← h]
  cases compare (V x) (V y) <;> cases o <;> rfl
theorem cmp_gt (a c : Int) (p : Bool) (h : decide (c < a) = p) : decide (compare a c = .gt) = p := by
  rw [← h]; congr 1; exact propext Int.compare_eq_gt
theorem cmp_lt (a c : Int) (p : Bool) (h : decide (a < c) = p) : decide (compare a c = .lt) = p := by
  rw [← h]; congr 1; exact propext Int.compare_eq_lt
theorem cmp_eq (a c : Int) (p : Bool) (h : decide (a = c) = p) : decide (compare a c = .eq) = p := by
  rw [← h]; congr 1; exact propext Int.compare_eq_eq

def Hf : Nat := pw 1073
theorem U_half : U = 2 * Hf := by
  obtain ⟨k, hk⟩ : ∃ k : Nat, k = 1073 := ⟨_, rfl⟩
  have h1 : Hf = 2 ^ k := by unfold Hf; rw [← hk]; rfl
  rw [h1, U_eq (k := k + 1) (by omega), Nat.pow_succ, Nat.mul_comm]
theorem Hf_pos : 0 < Hf := pw_pos 1073
theorem word_at (r : Nat) (m l : Nat) (h1 : sig r = m) (h2 : lev r = l) : magR r = m * 2 ^ l := by unfold magR; rw [h1, h2]
theorem V_half : V 4602678819172646912 = (Hf : Int) ∧ FM.Fin 4602678819172646912 := by
  refine ⟨?_, by unfold FM.Fin; decide⟩
  have e0 : ng 4602678819172646912 = false := by decide
  have e1 := word_at (rung 4602678819172646912) 4503599627370496 1021 (by decide) (by decide)
  obtain ⟨k, hk⟩ : ∃ k : Nat, k = 1073 := ⟨_, rfl⟩
  obtain ⟨j, hj⟩ : ∃ j : Nat, j = 1021 := ⟨_, rfl⟩
  rw [V_sg, e0]
  show ((magR (rung 4602678819172646912) : Nat) : Int) = _
  have h1 : Hf = 2 ^ k := by unfold Hf; rw [← hk]; rfl
  have h2 : magR (rung 4602678819172646912) = Hf := by
    rw [e1, h1, ← hj, show k = 52 + j by omega, Nat.pow_add, show (4503599627370496 : Nat) = 2 ^ 52 by decide]
  rw [h2]
theorem V_mhalf : V 13826050856027422720 = -(Hf : Int) ∧ FM.Fin 13826050856027422720 := by
  have e0 : ng 13826050856027422720 = true := by decide
  have e1 : rung 13826050856027422720 = rung 4602678819172646912 := by decide
  have e2 : ng 4602678819172646912 = false := by decide
  refine ⟨?_, by unfold FM.Fin; decide⟩
  have h := V_half.1
  rw [V_sg, e2] at h
  have h' : ((mag 4602678819172646912 : Nat) : Int) = Hf := h
  rw [V_sg, e0]
  show -((magR (rung 13826050856027422720) : Nat) : Int) = _
  rw [e1]
  show -((mag 4602678819172646912 : Nat) : Int) = _
  rw [h']
theorem V_2p32 : V 4751297606875873280 = 4294967296 * (U : Int) ∧ FM.Fin 4751297606875873280 := by
  refine ⟨?_, by unfold FM.Fin; decide⟩
  have e0 : ng 4751297606875873280 = false := by decide
  have e1 := word_at (rung 4751297606875873280) 4503599627370496 1054 (by decide) (by decide)
  obtain ⟨k, hk⟩ : ∃ k : Nat, k = 1074 := ⟨_, rfl⟩
  obtain ⟨j, hj⟩ : ∃ j : Nat, j = 1054 := ⟨_, rfl⟩
  rw [V_sg, e0]
  show ((magR (rung 4751297606875873280) : Nat) : Int) = _
  have : magR (rung 4751297606875873280) = 4294967296 * U := by
    rw [e1, U_eq hk, ← hj, show k = 20 + j by omega, Nat.pow_add, ← Nat.mul_assoc]
  rw [this, Int.natCast_mul]
  rfl
theorem V_m2p32 : V 13974669643730649088 = -(4294967296 * (U : Int)) ∧ FM.Fin 13974669643730649088 := by
  have e0 : ng 13974669643730649088 = true := by decide
  have e1 : rung 13974669643730649088 = rung 4751297606875873280 := by decide
  have e2 : ng 4751297606875873280 = false := by decide
  refine ⟨?_, by unfold FM.Fin; decide⟩
  have h := V_2p32.1
  rw [V_sg, e2] at h
  have h' : ((mag 4751297606875873280 : Nat) : Int) = 4294967296 * (U : Int) := h
  rw [V_sg, e0]
  show -((magR (rung 13974669643730649088) : Nat) : Int) = _
  rw [e1]
  show -((mag 4751297606875873280 : Nat) : Int) = _
  rw [h']

/-- What is behind the whole part. -/
theorem frac_sub (b : Nat) (h : FM.Fin b) (hQ : mag b / U < 9007199254740992) : ∃ d : Nat, Ieee.double.sub b (ofI (sg (ng b) (mag b / U))) = some d ∧ FM.Fin d ∧ V d = sg (ng b) (mag b % U) := by
  obtain ⟨f1, f2, f3, f4, f5⟩ := ofI_facts (n := sg (ng b) (mag b / U)) (by rw [sg_abs]; exact hQ)
  have hdm := Nat.div_add_mod (mag b) U
  have hh := has_frac h
  have hdiff : V b - V (ofI (sg (ng b) (mag b / U))) = sg (ng b) (mag b % U) := by
    rw [f4, V_sg]
    have h1 : ((mag b : Nat) : Int) = (U : Int) * (mag b / U : Nat) + (mag b % U : Nat) := by rw [← Int.natCast_mul, ← Int.natCast_add, hdm]
    unfold sg
    split
    · rw [Int.neg_mul, Int.mul_comm ((mag b / U : Nat) : Int)]; omega
    · rw [Int.mul_comm ((mag b / U : Nat) : Int)]; omega
  have hs := sub_exact (x := b) (y := ofI (sg (ng b) (mag b / U))) h f1 hh.rungOf.2 (by rw [hdiff, sg_abs, hh.rungOf.1])
  refine ⟨_, hs, ?_⟩
  obtain ⟨m1, m2, m3, m4⟩ := mag_wd (s := (if V b - V (ofI (sg (ng b) (mag b / U))) = 0 then ng b && !ng (ofI (sg (ng b) (mag b / U))) else decide (V b - V (ofI (sg (ng b) (mag b / U))) < 0))) hh
  refine ⟨m3, ?_⟩
  rw [V_sg, m1, m2, hdiff]
  by_cases h0 : mag b % U = 0
  · rw [h0, sg_zero, sg_zero]
  · rw [if_neg (by unfold sg; split <;> omega)]
    congr 1
    generalize mag b % U = f at *
    unfold sg
    cases ng b
    · exact decide_eq_false (by simp)
    · exact decide_eq_true (by simp; omega)

theorem kind_of (b : Nat) (h : FM.Fin b) : (kindB b == (0 : Int)) = false ∧ (kindB b == (1 : Int)) = false ∧ (kindB b == (2 : Int)) = false := by
  have h' : rung b < 9218868437227405312 := h
  unfold kindB
  rw [if_neg (by omega), if_neg (by omega)]
  split
  · split <;> decide
  · split <;> decide

theorem tmod_nat (Q : Nat) (p : Bool) (h : decide (Q % 2 = 1) = p) : ((Q : Int).tmod 2 != 0) = p := by
  rw [← h, show (Q : Int).tmod 2 = ((Q % 2 : Nat) : Int) from rfl]
  by_cases h1 : Q % 2 = 1
  · rw [decide_eq_true h1, bne_iff_ne]; omega
  · rw [decide_eq_false h1, bne_eq_false_iff_eq]; omega
theorem tmod_neg (Q : Nat) (p : Bool) (h : decide (Q % 2 = 1) = p) : ((-(Q : Int)).tmod 2 != 0) = p := by
  rw [← h, Int.neg_tmod, show (Q : Int).tmod 2 = ((Q % 2 : Nat) : Int) from rfl]
  by_cases h1 : Q % 2 = 1
  · rw [decide_eq_true h1, bne_iff_ne]; omega
  · rw [decide_eq_false h1, bne_eq_false_iff_eq]; omega

set_option maxRecDepth 100000 in
theorem Round18 (b : Nat) (hb : b < 2 ^ 64) (w : World) : Calls Try.prog 18 #[.float .f64 b] w fun e w' => e = .returned (.tuple #[.int .i64 (roundB b).1, .int .i64 (roundB b).2]) ∧ w' = w := by
  obtain ⟨v, hv⟩ : ∃ v, v = roundB b := ⟨_, rfl⟩
  rw [← hv]
  unfold roundB at hv
  replace hv := Lib.hid hv
  go_enter Try.func18, Try.ntmps18
  go_wp2_with fail
  refine (Kind20 b hb _).mono ?_
  rintro e w1 ⟨rfl, rfl⟩
  by_cases h3 : 9218868437227405312 < rung b
  · have hk : kindB b = 0 := by unfold kindB; rw [if_pos h3]
    go_wp2
    go_ret2
    exact ⟨by rw [hv.out, if_pos h3]; rfl, rfl⟩
  by_cases h4 : rung b = 9218868437227405312
  · have hk : kindB b = 1 ∨ kindB b = 2 := by
      unfold kindB; rw [if_neg h3, if_pos h4]; split
      · exact .inr rfl
      · exact .inl rfl
    rcases hk with hk | hk
    all_goals
      go_wp2
      go_ret2
      exact ⟨by rw [hv.out, if_neg h3, if_pos h4]; rfl, rfl⟩
  have hf : FM.Fin b := by unfold FM.Fin; omega
  obtain ⟨k0, k1, k2⟩ := kind_of b hf
  have hv1 := hv.out
  rw [if_neg h3, if_neg h4] at hv1
  clear hv
  have hdm := Nat.div_add_mod (mag b) U
  have hml := Nat.mod_lt (mag b) U_pos
  have hfar : 4294967296 * U < mag b → v = (0, 3) := by
    intro h5
    have h6 : 4294967296 ≤ mag b / U := (Nat.le_div_iff_mul_le U_pos).2 (by omega)
    rw [hv1, if_neg]
    rw [coordB_iff]
    have h7 : mag b / U ≤ rnd (mag b) U := by unfold rnd; omega
    unfold sg
    split <;> omega
  have hVs : V b = sg (ng b) (mag b) := rfl
  have hP : (4294967296 * (U : Int)) = ((4294967296 * U : Nat) : Int) := by rw [Int.natCast_mul]; rfl
  by_cases hg : 4294967296 * (U : Int) < V b
  · have t1 := w_cmp b _ hf V_2p32.2 .gt true (cmp_gt _ _ _ (by rw [V_2p32.1]; exact decide_eq_true hg))
    have hv2 := Lib.hid (hfar (by rw [hVs, hP] at hg; unfold sg at hg; split at hg <;> omega))
    replace hv1 := Lib.hid hv1
    replace hP := Lib.hid hP
    replace hdm := Lib.hid hdm
    go_wp2
    go_ret2
    exact ⟨by rw [hv2.out]; rfl, rfl⟩
  have t1 := w_cmp b _ hf V_2p32.2 .gt false (cmp_gt _ _ _ (by rw [V_2p32.1]; exact decide_eq_false hg))
  by_cases hl : V b < -(4294967296 * (U : Int))
  · have t2 := w_cmp b _ hf V_m2p32.2 .lt true (cmp_lt _ _ _ (by rw [V_m2p32.1]; exact decide_eq_true hl))
    have hv2 := Lib.hid (hfar (by rw [hVs, hP] at hl; unfold sg at hl; split at hl <;> omega))
    replace hv1 := Lib.hid hv1
    replace hP := Lib.hid hP
    replace hdm := Lib.hid hdm
    go_wp2
    go_ret2
    exact ⟨by rw [hv2.out]; rfl, rfl⟩
  have t2 := w_cmp b _ hf V_m2p32.2 .lt false (cmp_lt _ _ _ (by rw [V_m2p32.1]; exact decide_eq_false hl))
  have hle : mag b ≤ 4294967296 * U := by
    rw [hVs, hP] at hg hl
    unfold sg at hg hl
    split at hg <;> simp_all <;> omega
  have hQ : mag b / U ≤ 4294967296 := by
    have h9 := Nat.div_le_div_right (c := U) hle
    rwa [Nat.mul_div_cancel _ U_pos] at h9
  obtain ⟨q, hq⟩ : ∃ q, q = sg (ng b) (mag b / U) := ⟨_, rfl⟩
  have hxq := x_int b hf q hq (by omega)
  obtain ⟨d, hd1, hd2, hd3⟩ := frac_sub b hf (by omega)
  rw [← hq] at hd1
  have hxf := x_float q (by rw [hq, sg_abs]; omega)
  have hxd := fun w => run_float_arith (P := Try.prog) w .sub 23 .f64 _ _ _ hd1
  have hrn : rnd (mag b) U = mag b / U + if Hf < mag b % U ∨ (Hf = mag b % U ∧ mag b / U % 2 = 1) then 1 else 0 := by
    unfold rnd
    congr 1
    have hU := U_half
    by_cases hc : Hf < mag b % U ∨ (Hf = mag b % U ∧ mag b / U % 2 = 1)
    · rw [if_pos hc, if_pos (by omega)]
    · rw [if_neg hc, if_neg (by omega)]
  rw [hrn] at hv1
  clear hrn hfar hle hdm hml hP hg hl
  replace hd1 := Lib.hid hd1
  have hH := Hf_pos
  generalize mag b / U = Q at *
  generalize mag b % U = f at *
  have G := fun p h => w_cmp d _ hd2 V_half.2 .gt p (cmp_gt _ _ _ (by rw [V_half.1, hd3]; exact h))
  have E := fun p h => w_cmp d _ hd2 V_half.2 .eq p (cmp_eq _ _ _ (by rw [V_half.1, hd3]; exact h))
  have L := fun p h => w_cmp d _ hd2 V_mhalf.2 .lt p (cmp_lt _ _ _ (by rw [V_mhalf.1, hd3]; exact h))
  have E2 := fun p h => w_cmp d _ hd2 V_mhalf.2 .eq p (cmp_eq _ _ _ (by rw [V_mhalf.1, hd3]; exact h))
  clear hd3
  have hq2 := hq
  replace hq := Lib.hid hq
  obtain ⟨N, hN⟩ : ∃ N, N = sg (ng b) (Q + if Hf < f ∨ (Hf = f ∧ Q % 2 = 1) then 1 else 0) := ⟨_, rfl⟩
  rw [← hN] at hv1
  replace hv1 := Lib.hid hv1
  cases hng : ng b
  · have e1 : ∀ z : Nat, sg false z = (z : Int) := fun z => rfl
    simp only [hng, e1] at hN hq2 G E L E2
    subst hq2
    rcases Nat.lt_trichotomy Hf f with hf1 | hf1 | hf1
    · skip
      have g1 := G true (decide_eq_true (by omega))
      have g2 := E false (decide_eq_false (by omega))
      have g3 := L false (decide_eq_false (by omega))
      have g4 := E2 false (decide_eq_false (by omega))
      have hN1 : N = (Q : Int) + 1 := by rw [hN, if_pos (by omega)]; rfl
      clear G E L E2 hN
      subst hN1
      go_wp2_with fail
      refine (coord36 _ _).mono ?_
      rintro e w2 ⟨rfl, rfl⟩
      cases hc : coordB ((Q : Int) + 1)
      · go_wp2
        go_ret2
        exact ⟨by rw [hv1.out, if_neg (fun h => by rw [hc] at h; cases h)]; rfl, rfl⟩
      · go_wp2
        go_ret2
        exact ⟨by rw [hv1.out, if_pos hc]; rfl, rfl⟩
    · by_cases ho : Q % 2 = 1
      · skip
        have g1 := G false (decide_eq_false (by omega))
        have g2 := E true (decide_eq_true (by omega))
        have g3 := L false (decide_eq_false (by omega))
        have g4 := E2 false (decide_eq_false (by omega))
        have g5 := tmod_nat Q true (decide_eq_true (by omega))
        have hN1 : N = (Q : Int) + 1 := by rw [hN, if_pos (by omega)]; rfl
        clear G E L E2 hN
        subst hN1
        go_wp2_with fail
        refine (coord36 _ _).mono ?_
        rintro e w2 ⟨rfl, rfl⟩
        cases hc : coordB ((Q : Int) + 1)
        · go_wp2
          go_ret2
          exact ⟨by rw [hv1.out, if_neg (fun h => by rw [hc] at h; cases h)]; rfl, rfl⟩
        · go_wp2
          go_ret2
          exact ⟨by rw [hv1.out, if_pos hc]; rfl, rfl⟩
      · skip
        have g1 := G false (decide_eq_false (by omega))
        have g2 := E true (decide_eq_true (by omega))
        have g3 := L false (decide_eq_false (by omega))
        have g4 := E2 false (decide_eq_false (by omega))
        have g5 := tmod_nat Q false (decide_eq_false (by omega))
        have hN1 : N = (Q : Int) := by rw [hN, if_neg (by omega)]; rfl
        clear G E L E2 hN
        subst hN1
        go_wp2_with fail
        refine (coord36 _ _).mono ?_
        rintro e w2 ⟨rfl, rfl⟩
        cases hc : coordB ((Q : Int))
        · go_wp2
          go_ret2
          exact ⟨by rw [hv1.out, if_neg (fun h => by rw [hc] at h; cases h)]; rfl, rfl⟩
        · go_wp2
          go_ret2
          exact ⟨by rw [hv1.out, if_pos hc]; rfl, rfl⟩
    · skip
      have g1 := G false (decide_eq_false (by omega))
      have g2 := E false (decide_eq_false (by omega))
      have g3 := L false (decide_eq_false (by omega))
      have g4 := E2 false (decide_eq_false (by omega))
      have hN1 : N = (Q : Int) := by rw [hN, if_neg (by omega)]; rfl
      clear G E L E2 hN
      subst hN1
      go_wp2_with fail
      refine (coord36 _ _).mono ?_
      rintro e w2 ⟨rfl, rfl⟩
      cases hc : coordB ((Q : Int))
      · go_wp2
        go_ret2
        exact ⟨by rw [hv1.out, if_neg (fun h => by rw [hc] at h; cases h)]; rfl, rfl⟩
      · go_wp2
        go_ret2
        exact ⟨by rw [hv1.out, if_pos hc]; rfl, rfl⟩
  · have e1 : ∀ z : Nat, sg true z = -(z : Int) := fun z => rfl
    simp only [hng, e1] at hN hq2 G E L E2
    subst hq2
    rcases Nat.lt_trichotomy Hf f with hf1 | hf1 | hf1
    · skip
      have g1 := G false (decide_eq_false (by omega))
      have g2 := E false (decide_eq_false (by omega))
      have g3 := L true (decide_eq_true (by omega))
      have g4 := E2 false (decide_eq_false (by omega))
      have hN1 : N = -(Q : Int) - 1 := by rw [hN, if_pos (by omega)]; simp; try omega
      clear G E L E2 hN
      subst hN1
      go_wp2_with fail
      refine (coord36 _ _).mono ?_
      rintro e w2 ⟨rfl, rfl⟩
      cases hc : coordB (-(Q : Int) - 1)
      · go_wp2
        go_ret2
        exact ⟨by rw [hv1.out, if_neg (fun h => by rw [hc] at h; cases h)]; rfl, rfl⟩
      · go_wp2
        go_ret2
        exact ⟨by rw [hv1.out, if_pos hc]; rfl, rfl⟩
    · by_cases ho : Q % 2 = 1
      · skip
        have g1 := G false (decide_eq_false (by omega))
        have g2 := E false (decide_eq_false (by omega))
        have g3 := L false (decide_eq_false (by omega))
        have g4 := E2 true (decide_eq_true (by omega))
        have g5 := tmod_neg Q true (decide_eq_true (by omega))
        have hN1 : N = -(Q : Int) - 1 := by rw [hN, if_pos (by omega)]; simp; try omega
        clear G E L E2 hN
        subst hN1
        go_wp2_with fail
        refine (coord36 _ _).mono ?_
        rintro e w2 ⟨rfl, rfl⟩
        cases hc : coordB (-(Q : Int) - 1)
        · go_wp2
          go_ret2
          exact ⟨by rw [hv1.out, if_neg (fun h => by rw [hc] at h; cases h)]; rfl, rfl⟩
        · go_wp2
          go_ret2
          exact ⟨by rw [hv1.out, if_pos hc]; rfl, rfl⟩
      · skip
        have g1 := G false (decide_eq_false (by omega))
        have g2 := E false (decide_eq_false (by omega))
        have g3 := L false (decide_eq_false (by omega))
        have g4 := E2 true (decide_eq_true (by omega))
        have g5 := tmod_neg Q false (decide_eq_false (by omega))
        have hN1 : N = -(Q : Int) := by rw [hN, if_neg (by omega)]; simp; try omega
        clear G E L E2 hN
        subst hN1
        go_wp2_with fail
        refine (coord36 _ _).mono ?_
        rintro e w2 ⟨rfl, rfl⟩
        cases hc : coordB (-(Q : Int))
        · go_wp2
          go_ret2
          exact ⟨by rw [hv1.out, if_neg (fun h => by rw [hc] at h; cases h)]; rfl, rfl⟩
        · go_wp2
          go_ret2
          exact ⟨by rw [hv1.out, if_pos hc]; rfl, rfl⟩
    · skip
      have g1 := G false (decide_eq_false (by omega))
      have g2 := E false (decide_eq_false (by omega))
      have g3 := L false (decide_eq_false (by omega))
      have g4 := E2 false (decide_eq_false (by omega))
      have hN1 : N = -(Q : Int) := by rw [hN, if_neg (by omega)]; simp; try omega
      clear G E L E2 hN
      subst hN1
      go_wp2_with fail
      refine (coord36 _ _).mono ?_
      rintro e w2 ⟨rfl, rfl⟩
      cases hc : coordB (-(Q : Int))
      · go_wp2
        go_ret2
        exact ⟨by rw [hv1.out, if_neg (fun h => by rw [hc] at h; cases h)]; rfl, rfl⟩
      · go_wp2
        go_ret2
        exact ⟨by rw [hv1.out, if_pos hc]; rfl, rfl⟩
end Go.Proofs.Ytpkcabpnehbmhaa.GW
