/- The law ArcChecks, walked. -/
import Derived.Test.YtmfeokapjmpjfaaArcRows
import Derived.Test.YtmfeokapjmpjfaaArcLawsC
namespace Go.Proofs.Ytmfeokapjmpjfaa.ArcR
open Go Go.RowKit Go.ChangeShapes Go.WideShapes Go.Proofs.Ytmfeokapjmpjfaa.Opens Go.Proofs.Ytmfeokapjmpjfaa.VB Go.Proofs.Ytmfeokapjmpjfaa.PArc Go.Proofs.Ytmfeokapjmpjfaa.ArcW Go.Proofs.YtmfeokapjmpjfaaW.PrintWords Go.Proofs.YtmfeokapjmpjfaaW.PrintLast Go.Proofs.YtmfeokapjmpjfaaW.PrintMore
set_option linter.unusedVariables false

theorem checks_walk (W : World) (A : Option Addr) (l : List (List S48)) (c : Nat) (hr : Kd.C (Kd.slice 48 k48) W A l.length l) (hc : l.length ≤ c) (hg : l.length * Try.prog.bytesOf 44 ≤ reachBytes ∧ ∀ z ∈ l, z.length * Try.prog.bytesOf 48 ≤ reachBytes ∧ ∀ p ∈ z, Rgood48 p) :
    Calls Try.prog 5 #[.slice A l.length c] W fun e W' => e = .returned (.bool true) ∧ Below W.heap.size W W' := by
  obtain ⟨k, hk⟩ := arcChecks l (okL_good hg)
  exact lapidarylaw15_ArcChecks.calls k A c l true W hr hc hk
end Go.Proofs.Ytmfeokapjmpjfaa.ArcR
