import Derived.Test.YtomknjmgcbbjlaaDoorWalkT
namespace Go.Proofs.YtomknjmgcbbjlaaDoor.PWlk
open Go Go.RowKit Go.Proofs.YtomknjmgcbbjlaaDoorW.PrintWords
noncomputable def walk_Order.f (l0_0 : List (S46)) (l0_1 : List (S47)) : Option (List Int × List Int × Int) := some (if chk l0_0 l0_1 = 0 then (wk l0_1).V else [], if chk l0_0 l0_1 = 0 then (wk l0_1).O.map (fun i : Nat => (i : Int)) else [], chk l0_0 l0_1)
end Go.Proofs.YtomknjmgcbbjlaaDoor.PWlk
