/- The plain law VintAll. -/
import Derived.Test.YtgphhcakkoaipaaVintLawsA
import Derived.Test.YtgphhcakkoaipaaPVintx7
namespace Go.Proofs.Ytgphhcakkoaipaa.VB
open Go Go.Lib Go.RowKit Go.Proofs.Ytgphhcakkoaipaa.VM Go.Proofs.Ytgphhcakkoaipaa.PVint Go.Proofs.YtgphhcakkoaipaaW.PrintWords Go.Proofs.YtgphhcakkoaipaaW.PrintLast Go.Proofs.YtgphhcakkoaipaaW.PrintMore
set_option linter.unusedVariables false
set_option linter.unusedSimpArgs false

/-! ### VintAll -/
theorem all_l0 (l : List Int) (hb : ∀ c ∈ l, 0 ≤ c ∧ c < 256) (hl : l.length ≤ 1000000000000) : ∀ (d : Nat) (acc : List Int) (a : Int), (l.length : Int) - a = d → 0 ≤ a → acc.length + d ≤ 1000000000000 →
    ∃ r : List Int × Int, Ev (fun k => vint_All.l0 k l acc a) r ∧ Ev (fun k => lapidaryref01_All.l0 k l acc a) r ∧ r.1.length ≤ acc.length + d := by
  intro d
  induction d using Nat.strongRecOn with
  | _ d ih =>
    intro acc a hd h0 hacc
    by_cases hlt : a < (l.length : Int)
    · have hg := get_ev l a hb (by omega)
      have hrg := rget_ev l a hb (by omega)
      by_cases he : (getS l a).2.2 = 0
      · have hk := getS_ok (l := l) (a := a) (n := (getS l a).1) (e := (getS l a).2.1) hb (by rw [← he])
        obtain ⟨r, h1, h2, h3⟩ := ih ((l.length : Int) - (getS l a).2.1).toNat (by omega) (acc ++ [(getS l a).1]) (getS l a).2.1 (by omega) (by omega) (by rw [List.length_append, List.length_singleton]; omega)
        rw [List.length_append, List.length_singleton] at h3
        refine ⟨r, ?_, ?_, by omega⟩
        · refine Ev.step (f := fun k => (vint_Get.f k l a).bind fun bt275 => (if bt275.2.2 = 0 then (if acc.length < 17592186044416 then (vint_All.l0 k l (acc ++ [bt275.1]) bt275.2.1) else (none)) else (some (([] : List Int), bt275.2.2)))) (fun k => ?_) (Ev.bind hg (Ev.congr (fun k => ?_) h1))
          · simp only [vint_All.l0]
            rw [if_pos hlt]
          · rw [if_pos he, if_pos (by omega)]
        · refine Ev.step (f := fun k => (lapidaryref01_Get.f k l a).bind fun bt275 => (if bt275.2.2 = 0 then (if acc.length < 17592186044416 then (lapidaryref01_All.l0 k l (acc ++ [bt275.1]) bt275.2.1) else (none)) else (some (([] : List Int), bt275.2.2)))) (fun k => ?_) (Ev.bind hrg (Ev.congr (fun k => ?_) h2))
          · simp only [lapidaryref01_All.l0]
            rw [if_pos hlt]
          · rw [if_pos he, if_pos (by omega)]
      · refine ⟨([], (getS l a).2.2), ?_, ?_, by simp⟩
        · refine Ev.step (f := fun k => (vint_Get.f k l a).bind fun bt275 => (if bt275.2.2 = 0 then (if acc.length < 17592186044416 then (vint_All.l0 k l (acc ++ [bt275.1]) bt275.2.1) else (none)) else (some (([] : List Int), bt275.2.2)))) (fun k => ?_) (Ev.bind hg (Ev.congr (fun k => ?_) (Ev.now _)))
          · simp only [vint_All.l0]
            rw [if_pos hlt]
          · rw [if_neg he]
        · refine Ev.step (f := fun k => (lapidaryref01_Get.f k l a).bind fun bt275 => (if bt275.2.2 = 0 then (if acc.length < 17592186044416 then (lapidaryref01_All.l0 k l (acc ++ [bt275.1]) bt275.2.1) else (none)) else (some (([] : List Int), bt275.2.2)))) (fun k => ?_) (Ev.bind hrg (Ev.congr (fun k => ?_) (Ev.now _)))
          · simp only [lapidaryref01_All.l0]
            rw [if_pos hlt]
          · rw [if_neg he]
    · refine ⟨(acc, 0), ?_, ?_, by simp⟩
      · refine Ev.step (f := fun _ => some (acc, 0)) (fun k => ?_) (Ev.now _)
        simp only [vint_All.l0]
        rw [if_neg hlt]
      · refine Ev.step (f := fun _ => some (acc, 0)) (fun k => ?_) (Ev.now _)
        simp only [lapidaryref01_All.l0]
        rw [if_neg hlt]

theorem vall_l0 (xs : List Int) (hl : xs.length ≤ 1000000000000) : ∀ (d i : Nat), xs.length - i = d → i ≤ xs.length → Ev (fun k => lapidarylaw01_VintAll.l0 k xs xs (i : Int)) true := by
  intro d
  induction d with
  | zero =>
    intro i hd hi
    refine Ev.step (fun k => ?_) known_then
    simp only [lapidarylaw01_VintAll.l0]
    rw [if_neg (by omega)]
  | succ d ih =>
    intro i hd hi
    refine Ev.step (fun k => ?_) (ih (i + 1) (by omega) (by omega))
    simp only [lapidarylaw01_VintAll.l0]
    rw [if_pos (by omega), if_pos (by omega), if_pos (by omega), if_pos trivial, w64 (x := (i : Int) + 1) (by omega) (by omega)]
    rfl

theorem vintAll : lapidarylaw01_VintAll.Pure := by
  intro l0 hm hr hw
  have hb := bytes_of hw
  apply Ev.rounds
  by_cases h : (l0.length : Int) > 4000
  · refine Ev.congr (fun k => ?_) known_then
    unfold lapidarylaw01_VintAll.f
    rw [if_pos h]
  · obtain ⟨r, h1, h2, h3⟩ := all_l0 l0 hb (by omega) l0.length [] 0 (by omega) (by omega) (by simp; omega)
    rw [List.length_nil] at h3
    simp only [lapidarylaw01_VintAll.f, if_neg h]
    refine Ev.bind (g := fun k => vint_All.f k l0) h1 ?_
    refine Ev.bind (g := fun k => lapidaryref01_All.f k l0) h2 ?_
    · refine Ev.congr (f := fun k => lapidarylaw01_VintAll.j0 k r.1 r.1 false) (fun k => ?_) ?_
      · rw [if_pos rfl, bne_self_eq_false]
      · refine Ev.step (fun k => ?_) (vall_l0 r.1 (by omega) _ 0 rfl (by omega))
        simp only [lapidarylaw01_VintAll.j0]
        rw [if_neg (by decide)]
        rfl
end Go.Proofs.Ytgphhcakkoaipaa.VB
