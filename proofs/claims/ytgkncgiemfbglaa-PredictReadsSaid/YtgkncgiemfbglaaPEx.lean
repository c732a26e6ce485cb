/- The edges of the chapter's example. -/
import Derived.Test.YtgkncgiemfbglaaPFirsts
namespace Go.Proofs.Ytgkncgiemfbglaa.PT
open Go Go.RowKit Go.Maps Go.WideMaps Go.Proofs.Ytgkncgiemfbglaa.Mem Go.Proofs.Ytgkncgiemfbglaa.PPrd Go.Proofs.YtgkncgiemfbglaaW.PrintWords Go.Proofs.YtgkncgiemfbglaaW.PrintLast Go.Proofs.YtgkncgiemfbglaaW.PrintMore
set_option linter.unusedVariables false
theorem wf_small {x : Int} (h0 : 0 ≤ x) (h1 : x ≤ 10) : (Lit.int .i64 x).wf = true := by
  have : x = 0 ∨ x = 1 ∨ x = 2 ∨ x = 3 ∨ x = 4 ∨ x = 5 ∨ x = 6 ∨ x = 7 ∨ x = 8 ∨ x = 9 ∨ x = 10 := by omega
  rcases this with rfl | rfl | rfl | rfl | rfl | rfl | rfl | rfl | rfl | rfl | rfl <;> decide
theorem ex_edges : edgesU ex 2 = [((0, 1), 0), ((1, 2), 0), ((2, 0), 0), ((1, 0), 1), ((0, 3), 1), ((3, 1), 1)] := rfl
theorem ex_wf : ∀ q ∈ ex, (Lit.int .i64 q.f0).wf = true ∧ (Lit.int .i64 q.f1).wf = true ∧ (Lit.int .i64 q.f2).wf = true := by
  intro q hq
  rcases List.mem_cons.1 hq with rfl | hq
  · exact ⟨by decide, by decide, by decide⟩
  · rw [List.mem_singleton] at hq
    subst hq
    exact ⟨by decide, by decide, by decide⟩
def small (E : List ((Int × Int) × Int)) : Prop := ∀ p ∈ E, 0 ≤ p.1.1 ∧ p.1.1 ≤ 10 ∧ 0 ≤ p.1.2 ∧ p.1.2 ≤ 10
instance (E : List ((Int × Int) × Int)) : Decidable (small E) := by unfold small; infer_instance
theorem small_wf {E : List ((Int × Int) × Int)} (h : small E) : ∀ p ∈ E, wfE p.1 := fun p hp => by
  obtain ⟨a, b, c, d⟩ := h p hp
  exact ⟨wf_small a b, wf_small c d⟩
theorem not_has {E : List ((Int × Int) × Int)} (h : small E) {e : Int × Int} (h0 : 0 ≤ e.1) (h1 : e.1 ≤ 10) (h2 : 0 ≤ e.2) (h3 : e.2 ≤ 10) (hn : e ∉ E.map (·.1)) : Maps.has (datE E) (kE e) = false := by
  cases hh : Maps.has (datE E) (kE e) with
  | false => rfl
  | true => exact absurd ((has_datE (small_wf h) ⟨wf_small h0 h1, wf_small h2 h3⟩).1 hh) hn
theorem ex_no : ∀ (i k : Nat), i < ex.length → k < 3 → Maps.has (datE (upto ex i (ex.getD i z36) k)) (kE ((edgeL (ex.getD i z36)).getD k (0, 0))) = false := by
  intro i k hi hk
  change i < 2 at hi
  obtain rfl | rfl : i = 0 ∨ i = 1 := by omega
  · obtain rfl | rfl | rfl : k = 0 ∨ k = 1 ∨ k = 2 := by omega
    all_goals exact not_has (by decide) (by decide) (by decide) (by decide) (by decide) (by decide)
  · obtain rfl | rfl | rfl : k = 0 ∨ k = 1 ∨ k = 2 := by omega
    all_goals exact not_has (by decide) (by decide) (by decide) (by decide) (by decide) (by decide)
theorem ex_small : small (edgesU ex 2) := by rw [ex_edges]; decide
theorem ex_nodup : ((edgesU ex 2).map (·.1)).Nodup := by rw [ex_edges]; decide
theorem ex_at {e : Int × Int} {i : Int} (h : (e, i) ∈ edgesU ex 2) (z : DataW Unit) : (datE (edgesU ex 2)).atKey (kE e) z = .lit (.int .i64 i) :=
  at_datE (small_wf ex_small) (small_wf ex_small _ h) ex_nodup h z
theorem ex_has {e : Int × Int} {i : Int} (h : (e, i) ∈ edgesU ex 2) : Maps.has (datE (edgesU ex 2)) (kE e) = true :=
  (has_datE (small_wf ex_small) (small_wf ex_small _ h)).2 (List.mem_map.2 ⟨_, h, rfl⟩)
end Go.Proofs.Ytgkncgiemfbglaa.PT
