/- The plain law VintOnce. -/
import Derived.Test.YtgphhcakkoaipaaVintLawsA
import Derived.Test.YtgphhcakkoaipaaPVintx5
namespace Go.Proofs.Ytgphhcakkoaipaa.VB
open Go Go.Lib Go.RowKit Go.Proofs.Ytgphhcakkoaipaa.VM Go.Proofs.Ytgphhcakkoaipaa.PVint Go.Proofs.YtgphhcakkoaipaaW.PrintWords Go.Proofs.YtgphhcakkoaipaaW.PrintLast Go.Proofs.YtgphhcakkoaipaaW.PrintMore
set_option linter.unusedVariables false
set_option linter.unusedSimpArgs false

/-! ### VintOnce -/
theorem once_j0 (n : Int) (hn : 0 ≤ n ∧ n < 18446744073709551616) (l1 l2 : List Int) (hb1 : ∀ c ∈ l1, 0 ≤ c ∧ c < 256) (hb2 : ∀ c ∈ l2, 0 ≤ c ∧ c < 256) (h1 : l1.length ≤ 400) (h2 : l2.length ≤ 400) (c : Int) (hc : 0 ≤ c ∧ c < 256) :
    Ev (fun k => lapidarylaw01_VintOnce.j0 k n l1 l2 c false) true := by
  obtain ⟨m, rfl⟩ := Int.eq_ofNat_of_zero_le hn.1
  have hm : m < 18446744073709551616 := by omega
  have hl := enc_len10 hm
  have hp := enc_pos m
  have hput := put_one m hm
  have hall : ∀ x ∈ l1 ++ enc m ++ l2, 0 ≤ x ∧ x < 256 := by
    intro x hx
    rcases List.mem_append.1 hx with hx | hx
    · rcases List.mem_append.1 hx with hx | hx
      · exact hb1 x hx
      · exact enc_byte m x hx
    · exact hb2 x hx
  have hg1 := get_ev (l1 ++ enc m ++ l2) (l1.length : Int) hall (by simp only [List.length_append]; omega)
  rw [getS_enc m hm l1 l2] at hg1
  have hcut0 : 0 ≤ Int.tmod c ((enc m).length : Int) := Int.tmod_nonneg _ hc.1
  have hcut1 : Int.tmod c ((enc m).length : Int) < ((enc m).length : Int) := Int.tmod_lt_of_pos _ (by omega)
  have hwc : wrap64 c = c := w64 (by omega) (by omega)
  have hg2 := get_ev ((enc m).take (Int.tmod c ((enc m).length : Int)).toNat) 0 (fun x hx => enc_byte m x (List.mem_of_mem_take hx)) (by rw [List.length_take]; omega)
  rw [getS_short m hm _ (by omega)] at hg2
  have hg3 := get_ev l2 0 hb2 (by omega)
  have hsum : wrap64 ((l1.length : Int) + ((enc m).length : Int)) = (l1.length : Int) + ((enc m).length : Int) := w64 (by omega) (by omega)
  have hlen0 : ¬ ((enc m).length : Int) = 0 := by omega
  have hlen1 : ([] : List Int).length + l1.length < 140737488355328 := by simp; omega
  have hlen2 : (([] : List Int) ++ l1).length + (enc m).length < 140737488355328 := by simp; omega
  have hlen3 : (([] : List Int) ++ l1 ++ enc m).length + l2.length < 140737488355328 := by simp; omega
  have hcle : Int.tmod c ((enc m).length : Int) ≤ ((enc m).length : Int) := by omega
  apply Ev.step (fun k => by rw [lapidarylaw01_VintOnce.j0])
  simp only [if_neg (show ¬ (false = true) by decide)]
  refine Ev.bind hput ?_
  simp only [if_neg hlen0, if_pos hlen1, Option.bind_some, if_pos hlen2, if_pos hlen3, hwc, if_pos hcut0, if_pos hcle, hsum]
  simp only [List.nil_append]
  refine Ev.bind hg1 ?_
  refine Ev.bind hg2 ?_
  refine Ev.bind hg3 ?_
  by_cases he : (getS l2 0).2.2 = 0
  · have hk := getS_ok (l := l2) (a := 0) (n := (getS l2 0).1) (e := (getS l2 0).2.1) hb2 (Prod.ext rfl (Prod.ext rfl he))
    have hput2 := put_one (getS l2 0).1.toNat (by omega)
    rw [show (((getS l2 0).1.toNat : Nat) : Int) = (getS l2 0).1 by omega, hk.2.2.2.2] at hput2
    have hq0 : 0 ≤ (getS l2 0).2.1 := by omega
    have hq1 : (getS l2 0).2.1 ≤ (l2.length : Int) := hk.2.2.1
    simp only [if_pos he]
    refine Ev.bind hput2 ?_
    simp only [if_pos hq0, if_pos hq1]
    refine Ev.bind (same_ev (by simp)) ?_
    exact Ev.congr (fun k => by rw [if_pos rfl, if_pos trivial, if_pos trivial, if_pos trivial, if_pos trivial]) known_then
  · simp only [if_neg he]
    exact Ev.congr (fun k => by rw [if_pos trivial, if_pos trivial, if_pos trivial, if_pos trivial]) known_then

theorem vintOnce : lapidarylaw01_VintOnce.Pure := by
  intro a0 l1 l2 a3 h0 hm1 hr1 hw1 hm2 hr2 hw2 h3
  have h0 := wf_u64 h0
  have hb1 := bytes_of hw1
  have hb2 := bytes_of hw2
  apply Ev.rounds
  have hk : Ev (fun k => lapidarylaw01_VintOnce.j0 k a0 l1 l2 a3 true) true := by
    refine Ev.step (fun k => ?_) known_then
    simp only [lapidarylaw01_VintOnce.j0]
    rw [if_pos trivial]
  by_cases h : (l1.length : Int) > 400
  · exact Ev.congr (fun k => by unfold lapidarylaw01_VintOnce.f; rw [if_pos h]) hk
  · by_cases h' : (l2.length : Int) > 400
    · exact Ev.congr (fun k => by unfold lapidarylaw01_VintOnce.f; rw [if_neg h, decide_eq_true h']) hk
    · exact Ev.congr (fun k => by unfold lapidarylaw01_VintOnce.f; rw [if_neg h, decide_eq_false h']) (once_j0 a0 h0 l1 l2 hb1 hb2 (by omega) (by omega) a3 (wf_u8 h3))

end Go.Proofs.Ytgphhcakkoaipaa.VB
