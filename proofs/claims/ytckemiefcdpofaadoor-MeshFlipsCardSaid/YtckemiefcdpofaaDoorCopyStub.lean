import Derived.Test.YtckemiefcdpofaaDoorMeshCopy
namespace Go.Proofs.YtckemiefcdpofaaDoor.PMsr
open Go Go.RowKit Go.Proofs.YtckemiefcdpofaaDoorW.PrintWords Go.Proofs.YtckemiefcdpofaaDoorW.PrintLast Go.Proofs.YtckemiefcdpofaaDoorW.PrintMore
def mesh_Copy.f (l0_0 : List (S55)) (l0_1 : List (S36)) : Option ((List (S55)) × (List (S36))) := if l0_0.length ≤ 1000000 ∧ l0_1.length ≤ 1000000 then some (l0_0, l0_1) else none
theorem mesh_Copy.calls (A0_0 : Option Addr) (c0_0 : Nat) (l0_0 : List (S55)) (A0_1 : Option Addr) (c0_1 : Nat) (l0_1 : List (S36)) (r1 : List (S55)) (r2 : List (S36)) (w : World) (hr0_0 : Kd.C k55 w A0_0 l0_0.length l0_0) (hc0_0 : l0_0.length ≤ c0_0) (hr0_1 : Kd.C k36 w A0_1 l0_1.length l0_1) (hc0_1 : l0_1.length ≤ c0_1) (h : mesh_Copy.f l0_0 l0_1 = some (r1, r2)) :
    Calls Tryd.prog 21 #[.agg #[.slice A0_0 l0_0.length c0_0, .slice A0_1 l0_1.length c0_1]] w fun e w' => ∃ v0_ v1_ : Value, e = .returned (.agg #[v0_, v1_]) ∧ Kd.R k55 55 w' w.heap.size (fun _ => True) v0_ r1 ∧ Kd.R k36 36 w' w.heap.size (fun _ => True) v1_ r2 ∧ Below w.heap.size w w' := by
  unfold mesh_Copy.f at h
  split at h
  · rename_i ho
    injection h with h
    injection h with h1 h2
    subst h1
    subst h2
    exact MD.copy41 w A0_0 A0_1 l0_0 l0_1 c0_0 c0_1 hr0_0 hc0_0 hr0_1 hc0_1 ho.1 ho.2
  · cases h
end Go.Proofs.YtckemiefcdpofaaDoor.PMsr
