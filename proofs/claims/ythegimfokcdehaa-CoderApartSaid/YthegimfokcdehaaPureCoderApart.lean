/- Bytes that are packed are unpacked as they were; of two rows of as many bytes that are not the same what is packed is not. -/
import Derived.Test.YthegimfokcdehaaPCodx11
import Derived.Test.YthegimfokcdehaaCoderLaws2
import Derived.OpenShut
namespace Go.Proofs.Ythegimfokcdehaa.Pure
open Go Go.RowKit Go.Proofs.Ythegimfokcdehaa.CM Go.Proofs.Ythegimfokcdehaa.CW Go.Proofs.Ythegimfokcdehaa.CL Go.Proofs.Ythegimfokcdehaa.PCod Go.Proofs.YthegimfokcdehaaW.PrintWords Go.Proofs.YthegimfokcdehaaW.PrintLast
set_option linter.unusedVariables false
set_option linter.unusedSimpArgs false
theorem wf_u8 {x : Int} (h : (Lit.int .u8 x).wf = true) : 0 ≤ x ∧ x < 256 := by
  have := bounds_u8 h
  omega
theorem dig_wf {l : List Int} (h : ∀ x ∈ l, (Lit.int .u8 x).wf = true) : Dig l := fun x hx => wf_u8 (h x hx)
theorem dig_take {l : List Int} (h : Dig l) (n : Nat) : Dig (l.take n) := fun x hx => h x (List.mem_of_mem_take hx)
theorem codes_inj {a b : List Int} (h : codes a = codes b) : a = b := by
  unfold codes at h
  induction a generalizing b with
  | nil =>
    cases b with
    | nil => rfl
    | cons y b => simp at h
  | cons x a ih =>
    cases b with
    | nil => simp at h
    | cons y b =>
      rw [List.map_cons, List.map_cons] at h
      injection h with e1 e2
      injection e1 with _ e1
      rw [e1, ih e2]
theorem CoderApart : lapidarylaw06_CoderApart.Pure := by
  intro l0 l1 _ _ h0 _ _ h1
  obtain ⟨N, hN⟩ : ∃ N : Nat, mn (l0.length : Int) (l1.length : Int) = (N : Int) ∧ N ≤ l0.length ∧ N ≤ l1.length := by
    unfold mn
    split
    · exact ⟨l1.length, rfl, by omega, by omega⟩
    · exact ⟨l0.length, rfl, by omega, by omega⟩
  obtain ⟨hN, hN0, hN1⟩ := hN
  refine Ev.rounds ?_
  unfold lapidarylaw06_CoderApart.f
  rw [hN]
  by_cases hbig : (N : Int) > 150
  · simp only [if_pos hbig]
    exact Ev.bind known_ev (Ev.now _)
  · simp only [if_neg hbig, if_pos (show (0 : Int) ≤ (N : Int) by omega), if_pos (show (N : Int) ≤ (l0.length : Int) by omega), if_pos (show (N : Int) ≤ (l1.length : Int) by omega), Int.toNat_natCast]
    have da := dig_take (dig_wf h0) N
    have db := dig_take (dig_wf h1) N
    have la : (l0.take N).length = N := by rw [List.length_take]; omega
    have lb : (l1.take N).length = N := by rw [List.length_take]; omega
    generalize l0.take N = a at *
    generalize l1.take N = b at *
    obtain ⟨u, hu1, hu2, hu3, hu4, hu5⟩ := unp_pack da (by omega)
    obtain ⟨v, hv1, hv2, hv3, hv4, hv5⟩ := unp_pack db (by omega)
    refine Ev.bind (pack_ev da (by omega)) ?_
    refine Ev.bind (pack_ev db (by omega)) ?_
    rw [hu1, hv1]
    have hun := unpack_ev (n := (N : Int)) (b := digs u.L u.V) (digs_dig _ _) (by rw [digs_length]; omega) (.inl (by omega))
    rw [← la, hu4] at hun
    rw [← la]
    refine Ev.bind hun ?_
    have e1 := same_ev da da
    have e2 := same_ev (digs_dig u.L u.V) (digs_dig v.L v.V)
    have e3 := same_ev da db
    have e4 : (decide (digs u.L u.V = digs v.L v.V) == decide (a = b)) = true := by
      by_cases hab : a = b
      · subst hab
        rw [hu1] at hv1
        injection hv1 with hv1
        rw [hv1]
        simp
      · have : digs u.L u.V ≠ digs v.L v.V := by
          intro e
          apply hab
          rw [la] at hu5
          rw [lb, ← e, hu5] at hv5
          injection hv5 with hv5
          exact codes_inj hv5
        rw [decide_eq_false hab, decide_eq_false this]
        rfl
    rw [show decide (a = a) = true by simp] at e1
    simp only [if_true, e1, e2, e3, Option.bind_some, e4]
    exact Ev.bind known_ev (Ev.now _)
end Go.Proofs.Ythegimfokcdehaa.Pure
