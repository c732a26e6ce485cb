/- predict.foretold at the chapter's example. -/
import Derived.Test.YtgkncgiemfbglaaPRight
import Derived.Test.YtgkncgiemfbglaaPPrdx3
namespace Go.Proofs.Ytgkncgiemfbglaa.PT
open Go Go.RowKit Go.Proofs.Ytgkncgiemfbglaa.Mem Go.Proofs.Ytgkncgiemfbglaa.PPrd Go.Proofs.YtgkncgiemfbglaaW.PrintWords Go.Proofs.YtgkncgiemfbglaaW.PrintLast Go.Proofs.YtgkncgiemfbglaaW.PrintMore
set_option linter.unusedVariables false
def pts : List S40 := [⟨1, 0, 0⟩, ⟨5, 0, 0⟩, ⟨2, 7, 0⟩, ⟨4, -7, 0⟩]
theorem pts_small : ∀ p ∈ pts, smallP p := by
  intro p hp
  simp only [pts, List.mem_cons, List.not_mem_nil, or_false] at hp
  rcases hp with rfl | rfl | rfl | rfl <;> (unfold smallP; decide)
theorem fold23 (w : World) (A : Option Addr) (hr : Kd.C k40 w A 4 pts) (f : S36) (r : S40) (h : predict_foretold.f pts f.f0 f.f1 f.f2 = some (r.f0, r.f1, r.f2)) :
    Calls Try.prog 23 #[.slice A 4 4, .agg #[.int .i64 f.f0, .int .i64 f.f1, .int .i64 f.f2]] w fun e w' => e = .returned (.agg #[.int .i64 r.f0, .int .i64 r.f1, .int .i64 r.f2]) ∧ Below w.heap.size w w' :=
  predict_foretold.calls A 4 pts _ _ _ _ _ _ w hr (by decide) h
theorem fo0 : predict_foretold.f pts (-1) (-1) (-1) = some (0, 0, 0) := by decide +kernel
theorem fo1 : predict_foretold.f pts 0 0 0 = some (1, 0, 0) := by decide +kernel
theorem fo2 : predict_foretold.f pts 1 1 1 = some (5, 0, 0) := by decide +kernel
theorem fo3 : predict_foretold.f pts 0 1 2 = some (4, -7, 0) := by decide +kernel
end Go.Proofs.Ytgkncgiemfbglaa.PT
