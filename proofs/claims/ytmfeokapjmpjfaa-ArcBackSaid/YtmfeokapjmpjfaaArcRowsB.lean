/- The law ArcBack, walked. -/
import Derived.Test.YtmfeokapjmpjfaaArcRows
import Derived.Test.YtmfeokapjmpjfaaArcLawsB
namespace Go.Proofs.Ytmfeokapjmpjfaa.ArcR
open Go Go.RowKit Go.ChangeShapes Go.WideShapes Go.Proofs.Ytmfeokapjmpjfaa.Opens Go.Proofs.Ytmfeokapjmpjfaa.VB Go.Proofs.Ytmfeokapjmpjfaa.PArc Go.Proofs.Ytmfeokapjmpjfaa.ArcW Go.Proofs.YtmfeokapjmpjfaaW.PrintWords Go.Proofs.YtmfeokapjmpjfaaW.PrintLast Go.Proofs.YtmfeokapjmpjfaaW.PrintMore
set_option linter.unusedVariables false

theorem back_walk (W : World) (A : Option Addr) (l : List (List S48)) (c : Nat) (hr : Kd.C (Kd.slice 48 k48) W A l.length l) (hc : l.length ≤ c) (hg : l.length * Try.prog.bytesOf 44 ≤ reachBytes ∧ ∀ z ∈ l, z.length * Try.prog.bytesOf 48 ≤ reachBytes ∧ ∀ p ∈ z, Rgood48 p)
    (A1 : Option Addr) (b : List Int) (c1 : Nat) (hr1 : Kd.C (Kd.int .u8) W A1 b.length b) (hc1 : b.length ≤ c1) (hg1 : b.length * Try.prog.bytesOf 5 ≤ reachBytes ∧ ∀ z ∈ b, (Lit.int .u8 z).wf = true)
    (cut : Int) (hcut : (Lit.int .u16 cut).wf = true) (more : Int) (hmore : (Lit.int .u8 more).wf = true) :
    Calls Try.prog 4 #[.slice A l.length c, .slice A1 b.length c1, .int .u16 cut, .int .u8 more] W fun e W' => e = .returned (.bool true) ∧ Below W.heap.size W W' := by
  have h16 := bounds_u16 hcut
  obtain ⟨k, hk⟩ := arcBack l (okL_good hg) b (bytes_of hg1.2) cut more (by omega) (wf_u8 hmore)
  exact lapidarylaw15_ArcBack.calls k A c l A1 c1 b cut more true W hr hc hr1 hc1 hk
end Go.Proofs.Ytmfeokapjmpjfaa.ArcR
