import Derived.Test.YtckemiefcdpofaaDoorMeshLawsD
import Derived.Test.YtckemiefcdpofaaDoorMRows
namespace Go.Proofs.YtckemiefcdpofaaDoor.RW
open Go Go.RowKit Go.Proofs.YtckemiefcdpofaaDoor.PMsr Go.Proofs.YtckemiefcdpofaaDoorW.PrintWords
set_option linter.unusedVariables false
theorem meshEulers_walk (W : World) (z : List S55 × List S36) (cs : Array Value) (hK : k25.K W z cs.toList) (hg : Rgood25 z) (z2 : List S55 × List S36) (cs2 : Array Value) (hK2 : k25.K W z2 cs2.toList) (hg2 : Rgood25 z2)
    (hG : Kd.C k36 W (some ⟨0, 0, none⟩) 1 [⟨1, 2, 0⟩]) : Calls Tryd.prog 5 #[.agg cs, .agg cs2] W fun e W' => e = .returned (.bool true) ∧ Below W.heap.size W W' := by
  obtain ⟨A0, c0, A1, c1, rfl, h0, h1, C0, C1⟩ := mesh_open hK
  obtain ⟨B0, d0, B1, d1, rfl, i0, i1, D0, D1⟩ := mesh_open hK2
  obtain ⟨k, hk⟩ := ML.meshEulers z.1 z.2 z2.1 z2.2
  exact lapidarylaw10_MeshEulers.calls k A0 c0 z.1 A1 c1 z.2 B0 d0 z2.1 B1 d1 z2.2 true W C0 h0 C1 h1 D0 i0 D1 i1 hG rfl hk
end Go.Proofs.YtckemiefcdpofaaDoor.RW
