/- The plain law VintWidths. -/
import Derived.Test.YtgphhcakkoaipaaVintLawsF
import Derived.Test.YtgphhcakkoaipaaPVintx9
namespace Go.Proofs.Ytgphhcakkoaipaa.VB
open Go Go.Lib Go.RowKit Go.Proofs.Ytgphhcakkoaipaa.VM Go.Proofs.Ytgphhcakkoaipaa.PVint Go.Proofs.YtgphhcakkoaipaaW.PrintWords Go.Proofs.YtgphhcakkoaipaaW.PrintLast Go.Proofs.YtgphhcakkoaipaaW.PrintMore
set_option linter.unusedVariables false
set_option linter.unusedSimpArgs false

/-! ### VintWidths -/
theorem fixedS_ok {n : Int} {w : Nat} (h1 : 1 ≤ w) (h8 : w ≤ 8) (hf : ¬ n / 256 ^ w > 0) : fixedS n (w : Int) = (le n w, 0) := by
  unfold fixedS
  rw [Int.toNat_natCast, if_neg (by omega), if_neg (by omega), if_neg hf]
theorem fixedS_bad {n : Int} {w : Nat} (h1 : 1 ≤ w) (h8 : w ≤ 8) (hf : n / 256 ^ w > 0) : fixedS n (w : Int) = ([], 2) := by
  unfold fixedS
  rw [Int.toNat_natCast, if_neg (by omega), if_neg (by omega), if_pos hf]

theorem ediv_pos1 {n p : Int} (hp : 0 < p) (h : p ≤ n) : n / p > 0 := by
  have := Int.le_ediv_of_mul_le (a := 1) (b := n) hp (by omega)
  omega

theorem widths_end (n : Int) (hn : 0 ≤ n ∧ n < 18446744073709551616) (w : Nat) (h1 : 1 ≤ w) (h8 : w ≤ 8) (hf : ¬ n / 256 ^ w > 0) :
    Ev (fun k => (lapidaryref01_Fixed.f k n (w : Int)).bind fun bt345 => (if n = n then (if (0 : Int) = 0 then (if (10 : Int) = 10 then (if bt345.2 = 0 then ((lapidarylaw01_known.f k).bind fun t349 => (some t349)) else (some false)) else (some false)) else (some false)) else (some false))) true := by
  have := rfixed_ev n (w : Int) hn
  rw [fixedS_ok h1 h8 hf] at this
  exact Ev.bind this (Ev.congr (fun k => by rw [if_pos rfl, if_pos rfl, if_pos rfl, if_pos rfl]) known_then)

theorem widths_j0 (n : Int) (hn : 0 ≤ n ∧ n < 18446744073709551616) (l2 : List Int) (hb : ∀ c ∈ l2, 0 ≤ c ∧ c < 256) (hl : l2.length ≤ 400) (w : Nat) (h1 : 1 ≤ w) (h8 : w ≤ 8) (fits : Bool) (hfit : fits = decide (¬ n / 256 ^ w > 0)) :
    Ev (fun k => lapidarylaw01_VintWidths.j0 k n l2 (w : Int) (fixedS n (w : Int)).1 (fixedS n (w : Int)).2 fits) true := by
  by_cases hf : n / 256 ^ w > 0
  · rw [fixedS_bad h1 h8 hf]
    rw [decide_eq_false (by simpa using hf)] at hfit
    subst hfit
    refine Ev.step (fun k => ?_) known_then
    simp only [lapidarylaw01_VintWidths.j0]
    rw [if_neg (by decide), if_neg (by decide), if_pos (by simp)]
  · rw [fixedS_ok h1 h8 hf]
    rw [decide_eq_true hf] at hfit
    subst hfit
    have hp := pow256_pos w
    have hlt : n < 256 ^ w := by
      rcases Int.lt_or_le n (256 ^ w) with h | h
      · exact h
      · exact absurd (ediv_pos1 hp h) hf
    have hall : ∀ x ∈ l2 ++ le n w, 0 ≤ x ∧ x < 256 := by
      intro x hx
      rcases List.mem_append.1 hx with hx | hx
      · exact hb x hx
      · exact le_byte w n x hx
    have hlen := le_len w n
    have hf1 := field_ev (l2 ++ le n w) (l2.length : Int) (w : Int) hall (by rw [List.length_append]; omega)
    have hS1 : fieldS (l2 ++ le n w) (l2.length : Int) (w : Int) = (n, 0) := by
      unfold fieldS
      rw [if_neg (by omega), if_neg (by omega), if_neg (by omega), if_neg (by rw [List.length_append, hlen]; push_cast; omega)]
      rw [Int.toNat_natCast, Int.toNat_natCast, List.drop_left, List.take_of_length_le (by omega), valB_le w n hn.1 hlt]
    rw [hS1] at hf1
    have hf2 := field_ev (l2 ++ le n w) ((l2.length : Int) + 1) (w : Int) hall (by rw [List.length_append]; omega)
    have hS2 : fieldS (l2 ++ le n w) ((l2.length : Int) + 1) (w : Int) = (0, 10) := by
      unfold fieldS
      rw [if_neg (by omega), if_neg (by omega), if_neg (by omega), if_pos (by rw [List.length_append, hlen]; push_cast; omega)]
    rw [hS2] at hf2
    have hl1 : ([] : List Int).length + l2.length < 140737488355328 := by simp; omega
    have hl3 : (([] : List Int) ++ l2).length + (le n w).length < 140737488355328 := by simp [hlen]; omega
    have hwl : wrap64 ((l2.length : Int) + 1) = (l2.length : Int) + 1 := w64 (by omega) (by omega)
    apply Ev.step (fun k => by rw [lapidarylaw01_VintWidths.j0])
    have hbx : ¬ ((((0 : Int) == 0) != true) = true) := by decide
    simp only [if_neg hbx, if_true, if_pos hl1, Option.bind_some, if_pos hl3, hwl]
    simp only [List.nil_append]
    refine Ev.bind hf1 ?_
    refine Ev.bind hf2 ?_
    by_cases h9 : w < 8
    · have hww : wrap64 ((w : Int) + 1) = ((w + 1 : Nat) : Int) := w64 (by omega) (by omega)
      have hnext : ¬ n / 256 ^ (w + 1) > 0 := by
        rw [Int.ediv_eq_zero_of_lt hn.1 (by rw [pow256_succ]; omega)]; decide
      have hf3 := fixed_ev n ((w + 1 : Nat) : Int) hn
      rw [fixedS_ok (by omega) (by omega) hnext] at hf3
      have hlen1 := le_len (w + 1) n
      have hsnoc := le_snoc w n
      have hlast : n / 256 ^ w % 256 = 0 := by
        rw [Int.ediv_eq_zero_of_lt hn.1 hlt]; rfl
      have htake : (le n (w + 1)).take w = le n w := by rw [hsnoc, List.take_append_of_le_length (by omega), List.take_of_length_le (by omega)]
      have hrd : rd (le n (w + 1)) (w : Int) = 0 := by
        unfold rd
        rw [Int.toNat_natCast, hsnoc, List.getD_eq_getElem?_getD, List.getElem?_append_right (by omega), hlen, Nat.sub_self, hlast]
        rfl
      have hw8' : (w : Int) < 8 := by omega
      have hw0 : (0 : Int) ≤ (w : Int) := by omega
      have hle1 : (w : Int) ≤ ((le n (w + 1)).length : Int) := by rw [hlen1]; omega
      have hlt1 : (w : Int) < ((le n (w + 1)).length : Int) := by rw [hlen1]; omega
      have heq1 : ((le n (w + 1)).length : Int) = ((w + 1 : Nat) : Int) := by rw [hlen1]
      simp only [if_pos hw8', hww]
      refine Ev.bind hf3 ?_
      simp only [if_pos heq1, if_pos hw0, if_pos hle1, Int.toNat_natCast]
      refine Ev.bind (same_ev htake) ?_
      simp only [if_true, if_pos hlt1, hrd]
      refine Ev.step (fun k => ?_) (widths_end n hn w h1 h8 hf)
      simp only [lapidarylaw01_VintWidths.j1]
      rw [if_neg (by decide)]
    · have hw8' : ¬ (w : Int) < 8 := by omega
      simp only [if_neg hw8']
      refine Ev.congr (fun k => ?_) (widths_end n hn w h1 h8 hf)
      simp only [if_true]

theorem vintWidths : lapidarylaw01_VintWidths.Pure := by
  intro a0 a1 l2 h0 h1 hm hr hw
  have h0 := wf_u64 h0
  have h1 := wf_u8 h1
  have hb := bytes_of hw
  apply Ev.rounds
  by_cases h : (l2.length : Int) > 400
  · refine Ev.congr (fun k => ?_) known_then
    unfold lapidarylaw01_VintWidths.f
    rw [if_pos h]
  · obtain ⟨w, hwe, hw1, hw8⟩ : ∃ w : Nat, wrap64 (1 + (wrap64 (Int.tmod a1 8))) = (w : Int) ∧ 1 ≤ w ∧ w ≤ 8 := by
      refine ⟨(1 + a1 % 8).toNat, ?_, by omega, by omega⟩
      rw [Int.tmod_eq_emod_of_nonneg h1.1, w64 (x := a1 % 8) (by omega) (by omega), w64 (by omega) (by omega)]
      omega
    simp only [lapidarylaw01_VintWidths.f, if_neg h, hwe]
    refine Ev.bind (fixed_ev a0 (w : Int) h0) ?_
    have hl400 : l2.length ≤ 400 := by omega
    have e : min (wrap64 (8 * (w : Int))).toNat IntKind.u64.bits = 8 * w := by
      rw [w64 (by omega) (by omega)]
      show min _ 64 = _
      omega
    have hw0 : 0 ≤ wrap64 (8 * (w : Int)) := by rw [w64 (by omega) (by omega)]; omega
    by_cases h8 : w = 8
    · have hi8 : (w : Int) = 8 := by omega
      simp only [if_pos hi8]
      refine widths_j0 a0 h0 l2 hb hl400 w hw1 hw8 true ?_
      subst h8
      have : (256 : Int) ^ 8 = 18446744073709551616 := by decide
      rw [this, Int.ediv_eq_zero_of_lt h0.1 h0.2]
      rfl
    · have hi8 : ¬ (w : Int) = 8 := by omega
      have hw7 : w ≤ 7 := by omega
      simp only [if_neg hi8, if_pos hw0]
      have hsh : shl .u64 1 (wrap64 (8 * (w : Int))) = 256 ^ w := by
        have ep : (2 : Int) ^ (8 * w) = 256 ^ w := by rw [Int.pow_mul]; rfl
        unfold shl
        rw [e, ep, Int.one_mul]
        have hp := pow256_pos w
        have hp7 := pow256_le hw7
        rw [show (256 : Int) ^ 7 = 72057594037927936 by decide] at hp7
        generalize (256 : Int) ^ w = p at *
        exact u64 (by omega) (by omega)
      have hdec : decide (a0 < 256 ^ w) = decide (¬ a0 / 256 ^ w > 0) := by
        have hp := pow256_pos w
        generalize (256 : Int) ^ w = p at *
        congr 1
        apply propext
        constructor
        · intro hlt; rw [Int.ediv_eq_zero_of_lt h0.1 hlt]; decide
        · intro hnp
          rcases Int.lt_or_le a0 p with h' | h'
          · exact h'
          · exact absurd (ediv_pos1 hp h') hnp
      rw [hsh, hdec]
      exact widths_j0 a0 h0 l2 hb hl400 w hw1 hw8 _ rfl
end Go.Proofs.Ytgphhcakkoaipaa.VB
