/- Whether any arcs may be is what the chapter says. -/
import Derived.Test.YtmfeokapjmpjfaaArcLaws
import Derived.Test.YtmfeokapjmpjfaaPArcx11c
namespace Go.Proofs.Ytmfeokapjmpjfaa.ArcW
open Go Go.RowKit Go.Proofs.Ytmfeokapjmpjfaa.Mem Go.Proofs.Ytmfeokapjmpjfaa.VM Go.Proofs.Ytmfeokapjmpjfaa.VB Go.Proofs.Ytmfeokapjmpjfaa.PArc Go.Proofs.YtmfeokapjmpjfaaW.PrintWords Go.Proofs.YtmfeokapjmpjfaaW.PrintLast Go.Proofs.YtmfeokapjmpjfaaW.PrintMore
set_option linter.unusedVariables false
set_option linter.unusedSimpArgs false

/-- Whether any arcs may be is what the chapter says. -/
theorem arcChecks (l : List (List S48)) (h : okL l) : ∃ k, lapidarylaw15_ArcChecks.f k l = some true := by
  obtain ⟨b, hlong⟩ := long_any h.1
  refine Ev.rounds (Ev.bind (f := fun k t350 => (if t350 = true then ((lapidarylaw15_known.f k).bind fun t351 => (some t351)) else ((arc_Check.f k l).bind fun t352 => ((lapidaryref15_Check.f k l).bind fun t353 => (if t352 = t353 then ((lapidarylaw15_known.f k).bind fun t354 => (some t354)) else (some false)))))) hlong ?_)
  cases b with
  | true => exact known_then
  | false =>
    refine Ev.congr (f := fun k => (arc_Check.f k l).bind fun t352 => ((lapidaryref15_Check.f k l).bind fun t353 => (if t352 = t353 then ((lapidarylaw15_known.f k).bind fun t354 => (some t354)) else (some false)))) (fun k => rfl) (Ev.bind (chk_any h) (Ev.bind (f := fun k t353 => (if chkS l = t353 then ((lapidarylaw15_known.f k).bind fun t354 => (some t354)) else (some false))) (rchk_any h) (Ev.congr (fun k => ?_) known_then)))
    rw [if_pos rfl]

end Go.Proofs.Ytmfeokapjmpjfaa.ArcW
