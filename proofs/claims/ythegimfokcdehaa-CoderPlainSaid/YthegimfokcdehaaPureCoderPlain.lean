/- One plain symbol of so many bits is read as it was, and of any two that are not the same the bytes are not. -/
import Derived.Test.YthegimfokcdehaaPCodx13
import Derived.Test.YthegimfokcdehaaCoderLaws2
import Derived.OpenShut
namespace Go.Proofs.Ythegimfokcdehaa.Pure
open Go Go.RowKit Go.Proofs.Ythegimfokcdehaa.CM Go.Proofs.Ythegimfokcdehaa.CW Go.Proofs.Ythegimfokcdehaa.CL Go.Proofs.Ythegimfokcdehaa.PCod Go.Proofs.YthegimfokcdehaaW.PrintWords Go.Proofs.YthegimfokcdehaaW.PrintLast
set_option linter.unusedVariables false
set_option linter.unusedSimpArgs false
theorem shl_bits {k : Int} (h0 : 1 ≤ k) (h1 : k ≤ 16) : shl .i64 1 k = CM.bits (-k) := by
  have : k = 1 ∨ k = 2 ∨ k = 3 ∨ k = 4 ∨ k = 5 ∨ k = 6 ∨ k = 7 ∨ k = 8 ∨ k = 9 ∨ k = 10 ∨ k = 11 ∨ k = 12 ∨ k = 13 ∨ k = 14 ∨ k = 15 ∨ k = 16 := by omega
  rcases this with rfl | rfl | rfl | rfl | rfl | rfl | rfl | rfl | rfl | rfl | rfl | rfl | rfl | rfl | rfl | rfl <;> decide
theorem sameC_l0 (a : List S41) (ha : a.length ≤ 1000) : ∀ (d i : Nat), a.length - i = d → i ≤ a.length → Ev (fun k => lapidaryref06_Same.l0 k a a (i : Int)) true := by
  intro d
  induction d with
  | zero =>
    intro i h hi
    refine Ev.step (f := fun _ => some true) (fun k => ?_) (Ev.now _)
    simp only [lapidaryref06_Same.l0]
    rw [if_neg (by omega)]
  | succ d ih =>
    intro i h hi
    refine Ev.step (fun k => ?_) (ih (i + 1) (by omega) (by omega))
    simp only [lapidaryref06_Same.l0]
    rw [if_pos (by omega), if_pos (by omega), if_pos (by omega), if_neg (by simp), w64' (x := (i : Int) + 1) (by omega) (by omega)]
    rfl
theorem sameC_refl (a : List S41) (ha : a.length ≤ 1000) : Ev (fun k => lapidaryref06_Same.f k a a) true := by
  unfold lapidaryref06_Same.f
  simp only [if_true]
  exact sameC_l0 a ha _ 0 rfl (by omega)
/-- One symbol of k bits: its bytes, and what is read from them. -/
theorem one_end (k s : Int) (h0 : 1 ≤ k) (h1 : k ≤ 16) (hs0 : 0 ≤ s) (hs1 : s < shl .i64 1 k) : ∃ u, encS [] [(⟨-k, s⟩ : S41)] = (digs u.L u.V, 0) ∧ decS [] [-k] (digs u.L u.V) = ([(⟨-k, s⟩ : S41)], 0) ∧ u.L ≤ 7 ∧ SInv u := by
  have hb := bits_bound (k := -k) (by omega) (by omega)
  obtain ⟨u, hu⟩ := run_total (pairs [(⟨-k, s⟩ : S41)]) (st0 (freshC [])) (by
    intro x hx
    obtain rfl : x = (-k, s) := by simpa [pairs] using hx
    refine .inl ⟨⟨by show -k < 0; omega, by show -16 ≤ -k; omega⟩, hs0, ?_⟩
    show s < CM.bits (-k)
    rw [← shl_bits h0 h1]; exact hs1)
  have hdec := dec_enc sizes0 hu
  have hL := run_len sizes0 hu
  rw [pairs_length] at hL
  exact ⟨u, enc_run sizes0 hu, hdec, by simpa using hL, run_inv sizes0 hu⟩
theorem CoderPlain : lapidarylaw06_CoderPlain.Pure := by
  intro a0 a1 a2 h0 h1 h2
  have hab := bounds_u8 h0
  have hw1 := bounds_u16 h1
  have hw2 := bounds_u16 h2
  refine Ev.rounds ?_
  unfold lapidarylaw06_CoderPlain.f
  have hk : wrap64 (1 + wrap64 (Int.tmod a0 16)) = 1 + a0 % 16 := by
    rw [Int.tmod_eq_emod_of_nonneg hab.1, w64' (x := a0 % 16) (by omega) (by omega), w64' (by omega) (by omega)]
  rw [hk, w64' (x := a1) (by omega) (by omega), w64' (x := a2) (by omega) (by omega)]
  obtain ⟨k, hkk, hk0, hk1⟩ : ∃ k : Int, 1 + a0 % 16 = k ∧ 1 ≤ k ∧ k ≤ 16 := ⟨_, rfl, by omega, by omega⟩
  rw [hkk, w64' (x := -k) (by omega) (by omega)]
  have hb := bits_bound (k := -k) (by omega) (by omega)
  have hs := shl_bits hk0 hk1
  have x0 : 0 ≤ Int.tmod a1 (shl .i64 1 k) := Int.tmod_nonneg _ (by omega)
  have x1 : Int.tmod a1 (shl .i64 1 k) < shl .i64 1 k := Int.tmod_lt_of_pos _ (by rw [hs]; omega)
  have y0 : 0 ≤ Int.tmod a2 (shl .i64 1 k) := Int.tmod_nonneg _ (by omega)
  have y1 : Int.tmod a2 (shl .i64 1 k) < shl .i64 1 k := Int.tmod_lt_of_pos _ (by rw [hs]; omega)
  simp only [if_pos (show (0 : Int) ≤ k by omega), if_neg (show ¬ shl .i64 1 k = 0 by rw [hs]; omega)]
  generalize Int.tmod a1 (shl .i64 1 k) = x at *
  generalize Int.tmod a2 (shl .i64 1 k) = y at *
  obtain ⟨u, hu1, hu2, hu3, hu4⟩ := one_end k x hk0 hk1 x0 x1
  obtain ⟨v, hv1, hv2, hv3, hv4⟩ := one_end k y hk0 hk1 y0 y1
  have hwf : ∀ s : Int, 0 ≤ s → s < shl .i64 1 k → ∀ z ∈ [(⟨-k, s⟩ : S41)], wfC z := by
    intro s hs0 hs1 z hz
    obtain rfl : z = ⟨-k, s⟩ := by simpa using hz
    rw [hs] at hs1
    unfold wfC
    simp only
    omega
  have g1 : coder_Encode.f [] [(⟨-k, x⟩ : S41)] = some (digs u.L u.V, 0) := by rw [enc_f (by decide) (by simp) i0 (hwf x x0 x1), hu1]
  have g2 : coder_Encode.f [] [(⟨-k, y⟩ : S41)] = some (digs v.L v.V, 0) := by rw [enc_f (by decide) (by simp) i0 (hwf y y0 y1), hv1]
  have g3 : coder_Decode.f [] [-k] (digs u.L u.V) = some ([(⟨-k, x⟩ : S41)], 0) := by
    rw [dec_f (by decide) (by simp) (by rw [digs_length]; omega) i0 (fun n hn => by rw [List.mem_singleton] at hn; omega) (digs_dig _ _), hu2]
  simp only [g1, g2, g3, Option.bind_some, if_true]
  refine Ev.bind (sameC_refl _ (by simp)) ?_
  have e : (decide (digs u.L u.V = digs v.L v.V) == (x == y)) = true := by
    by_cases hxy : x = y
    · subst hxy
      have : digs u.L u.V = digs v.L v.V := by rw [hu1] at hv1; exact congrArg Prod.fst hv1
      simp [this]
    · have : ¬ digs u.L u.V = digs v.L v.V := by
        intro hd
        rw [← hd, hu2] at hv2
        have := congrArg Prod.fst hv2
        simp only [List.cons.injEq, S41.mk.injEq, true_and, and_true] at this
        exact hxy this
      simp [this, hxy]
  simp only [if_true, same_ev (digs_dig u.L u.V) (digs_dig v.L v.V), Option.bind_some, e]
  exact Ev.bind known_ev (Ev.now _)
end Go.Proofs.Ythegimfokcdehaa.Pure
