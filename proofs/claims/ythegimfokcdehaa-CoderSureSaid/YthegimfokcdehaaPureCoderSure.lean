/- A symbol that is the only one of its model is read as often as it came, and takes no byte, up to 499 times. -/
import Derived.Test.YthegimfokcdehaaPCodx23
import Derived.Test.YthegimfokcdehaaCoderLaws3
import Derived.OpenShut
namespace Go.Proofs.Ythegimfokcdehaa.Pure
open Go Go.RowKit Go.Proofs.Ythegimfokcdehaa.CM Go.Proofs.Ythegimfokcdehaa.CW Go.Proofs.Ythegimfokcdehaa.CL Go.Proofs.Ythegimfokcdehaa.PCod Go.Proofs.YthegimfokcdehaaW.PrintWords Go.Proofs.YthegimfokcdehaaW.PrintLast
set_option linter.unusedVariables false
set_option linter.unusedSimpArgs false
theorem sizes1 : Sizes [1] := ⟨by decide, fun n hn => by rw [List.mem_singleton] at hn; subst hn; decide⟩
theorem i1 : i64s [1] := fun n hn => by rw [List.mem_singleton] at hn; subst hn; decide
theorem wf0 (n : Nat) : ∀ x ∈ List.replicate n (⟨0, 0⟩ : S41), wfC x := fun x hx => by rw [List.eq_of_mem_replicate hx]; unfold wfC; decide
theorem sure_l0 (n : Nat) (hn : n ≤ 499) : ∀ (d i : Nat), n - i = d → i ≤ n → Ev (fun k => lapidarylaw06_CoderSure.l0 k (List.replicate i (⟨0, 0⟩ : S41)) (List.replicate n 0) (i : Int)) true := by
  intro d
  induction d with
  | zero =>
    intro i h hi
    obtain rfl : i = n := by omega
    obtain ⟨u, hr, hL, _, hI, _⟩ := sure_run i (by omega)
    have henc := enc_run sizes1 hr
    have hdec := dec_enc sizes1 hr
    have hf0 : (List.replicate i (⟨0, 0⟩ : S41)).map S41.f0 = List.replicate i 0 := by rw [List.map_replicate]
    rw [hf0] at hdec
    have hnil : encS [1] [] = (digs 5 0, 0) := enc_run sizes1 (u := st0 (freshC [1])) rfl
    refine Ev.step (f := fun k => (lapidaryref06_Same.f k (List.replicate i (⟨0, 0⟩ : S41)) (List.replicate i (⟨0, 0⟩ : S41))).bind fun t341 => if t341 = true then (lapidarylaw06_known.f k).bind fun t => some t else some false) (fun k => ?_) (Ev.bind (sameC_ev _ (by rw [List.length_replicate]; omega)) (by simp only [if_true]; exact Ev.bind known_ev (Ev.now _)))
    simp only [lapidarylaw06_CoderSure.l0]
    rw [if_neg (by rw [List.length_replicate]; omega), enc_f (by decide) (by rw [List.length_replicate]; omega) i1 (wf0 i), henc, Option.bind_some, dec_f (by decide) (by rw [List.length_replicate]; omega) (by rw [digs_length]; omega) i1 (irep i) (digs_dig _ _), hdec, Option.bind_some, renc_f (by decide) (by decide) (fun x hx => by simp at hx), hnil, Option.bind_some]
    simp only [if_true, digs_length, hL]
    rfl
  | succ d ih =>
    intro i h hi
    refine Ev.step (fun k => ?_) (ih (i + 1) (by omega) (by omega))
    simp only [lapidarylaw06_CoderSure.l0]
    rw [if_pos (by rw [List.length_replicate]; omega), if_pos (by rw [List.length_replicate]; omega), w64' (x := (i : Int) + 1) (by omega) (by omega), List.replicate_succ']
    rfl
theorem CoderSure : lapidarylaw06_CoderSure.Pure := by
  intro a0 h0
  have hab := bounds_u16 h0
  refine Ev.rounds ?_
  unfold lapidarylaw06_CoderSure.f
  have hk : wrap64 (Int.tmod a0 500) = a0 % 500 := by rw [Int.tmod_eq_emod_of_nonneg (by omega), w64' (by omega) (by omega)]
  rw [hk]
  simp only [if_pos (show 0 ≤ a0 % 500 by omega), if_pos (show (a0 % 500).toNat ≤ 35184372088832 by omega)]
  exact sure_l0 (a0 % 500).toNat (by omega) _ 0 rfl (by omega)
end Go.Proofs.Ythegimfokcdehaa.Pure
