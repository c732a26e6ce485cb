/- Any bytes are the arcs that the chapter says, or none. -/
import Derived.Test.YtmfeokapjmpjfaaArcLaws
import Derived.Test.YtmfeokapjmpjfaaPArcx12
namespace Go.Proofs.Ytmfeokapjmpjfaa.ArcW
open Go Go.RowKit Go.Proofs.Ytmfeokapjmpjfaa.Mem Go.Proofs.Ytmfeokapjmpjfaa.VM Go.Proofs.Ytmfeokapjmpjfaa.VB Go.Proofs.Ytmfeokapjmpjfaa.PArc Go.Proofs.YtmfeokapjmpjfaaW.PrintWords Go.Proofs.YtmfeokapjmpjfaaW.PrintLast Go.Proofs.YtmfeokapjmpjfaaW.PrintMore
set_option linter.unusedVariables false
set_option linter.unusedSimpArgs false

/-- Any bytes are the arcs that the chapter says, or none. -/
theorem arcReads (b : List Int) (hb : ∀ c ∈ b, 0 ≤ c ∧ c < 256) : ∃ k, lapidarylaw15_ArcReads.f k b = some true := by
  by_cases hl : (b.length : Int) > 900
  · refine Ev.rounds (Ev.congr (fun k => ?_) known_then)
    unfold lapidarylaw15_ArcReads.f
    rw [if_pos hl]
  · refine Ev.rounds (Ev.congr (f := fun k => (lapidaryref15_Decode.f k b).bind fun bt360 => ((lapidaryref15_Same.f k (decR b).1 bt360.1).bind fun t364 => (if t364 = true then (if (decR b).2 = bt360.2 then ((lapidarylaw15_known.f k).bind fun t365 => (some t365)) else (some false)) else (some false)))) (fun k => ?_) (Ev.bind (rdec_ev b hb (by omega)) (Ev.bind (f := fun k t364 => (if t364 = true then (if (decR b).2 = (decR b).2 then ((lapidarylaw15_known.f k).bind fun t365 => (some t365)) else (some false)) else (some false))) (same_refl (okL_dec hb)) (Ev.congr (fun k => ?_) known_then))))
    · unfold lapidarylaw15_ArcReads.f
      rw [if_neg hl, dec_some hb (by omega)]
      rfl
    · rw [if_pos rfl, if_pos rfl]

end Go.Proofs.Ytmfeokapjmpjfaa.ArcW
