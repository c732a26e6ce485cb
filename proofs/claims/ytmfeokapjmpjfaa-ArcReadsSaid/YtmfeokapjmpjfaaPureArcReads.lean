/- Any bytes are the arcs that the chapter says, or none. -/
import Derived.Test.YtmfeokapjmpjfaaArcLawsR
namespace Go.Proofs.Ytmfeokapjmpjfaa.Pure
open Go.RowKit Go.Proofs.Ytmfeokapjmpjfaa.PArc Go.Proofs.YtmfeokapjmpjfaaW.PrintWords Go.Proofs.YtmfeokapjmpjfaaW.PrintLast

theorem ArcReads : lapidarylaw15_ArcReads.Pure := by
  intro l _ _ hb
  exact ArcW.arcReads l fun c hc => VB.wf_u8 (hb c hc)

end Go.Proofs.Ytmfeokapjmpjfaa.Pure
