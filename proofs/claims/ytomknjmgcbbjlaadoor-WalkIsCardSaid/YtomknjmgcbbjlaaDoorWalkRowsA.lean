import Derived.Test.YtomknjmgcbbjlaaDoorWalkLawsA
import Derived.Test.YtomknjmgcbbjlaaDoorMRows
namespace Go.Proofs.YtomknjmgcbbjlaaDoor.RW
open Go Go.RowKit Go.Proofs.YtomknjmgcbbjlaaDoor.PWlk Go.Proofs.YtomknjmgcbbjlaaDoorW.PrintWords
set_option linter.unusedVariables false
theorem walkIs_walk (W : World) (z : List S46 × List S47) (cs : Array Value) (hK : k25.K W z cs.toList) (hg : Rgood25 z)
    (hG : Kd.C k47 W (some ⟨0, 0, none⟩) 1 [⟨1, 2, 0⟩]) : Calls Tryd.prog 6 #[.agg cs] W fun e W' => e = .returned (.bool true) ∧ Below W.heap.size W W' := by
  obtain ⟨A0, c0, A1, c1, rfl, h0, h1, C0, C1⟩ := mesh_open hK
  obtain ⟨k, hk⟩ := WL.walkIs z.1 z.2
  exact lapidarylaw11_WalkIs.calls k A0 c0 z.1 A1 c1 z.2 true W C0 h0 C1 h1 hG rfl hk
end Go.Proofs.YtomknjmgcbbjlaaDoor.RW
