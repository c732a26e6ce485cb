import Derived.Test.YtckemiefcdpofaaDoorMeshLawsB
import Derived.Test.YtckemiefcdpofaaDoorMRows
import Derived.OpenShut
namespace Go.Proofs.YtckemiefcdpofaaDoor.RW
open Go Go.RowKit Go.ChangeShapes Go.WideShapes Go.Proofs.YtckemiefcdpofaaDoor.PMsr Go.Proofs.YtckemiefcdpofaaDoorW.PrintWords
set_option linter.unusedVariables false
theorem meshFlips_walk (W : World) (z : List S55 × List S36) (cs : Array Value) (hK : k25.K W z cs.toList) (hg : Rgood25 z) (a : Int) (hw : (Lit.int .u8 a).wf = true)
    (hG : Kd.C k36 W (some ⟨0, 0, none⟩) 1 [⟨1, 2, 0⟩]) : Calls Tryd.prog 6 #[.agg cs, .int .u8 a] W fun e W' => e = .returned (.bool true) ∧ Below W.heap.size W W' := by
  obtain ⟨A0, c0, A1, c1, rfl, h0, h1, C0, C1⟩ := mesh_open hK
  have hab : 0 ≤ a ∧ a < 256 := by have := bounds_u8 hw; omega
  obtain ⟨k, hk⟩ := ML.meshFlips z.1 z.2 a hab.1 hab.2
  exact lapidarylaw10_MeshFlips.calls k A0 c0 z.1 A1 c1 z.2 a true W C0 h0 C1 h1 hG rfl hk
end Go.Proofs.YtckemiefcdpofaaDoor.RW
