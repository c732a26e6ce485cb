import Derived.Test.YtomknjmgcbbjlaaDoorWTab
import Derived.Test.YtomknjmgcbbjlaaDoorWWords
import Derived.Test.YtomknjmgcbbjlaaDoorWLast
namespace Go.Proofs.YtomknjmgcbbjlaaDoorW.PrintLast
section
variable {P : Program} {ops : Array Oper} {Q : Exit → Act → World → Prop} {md : Region.Mode} {S : World → Prop} {ds : List Nat} {T : Bool × List (List Nat × List Nat)}
end
end Go.Proofs.YtomknjmgcbbjlaaDoorW.PrintLast
namespace Go.Proofs.YtomknjmgcbbjlaaDoorW.PrintWords
open Go.RowKit
namespace Kd
section
variable {α : Type} {d : Kd α} {e base g o n cap : Nat} {ok okp : Nat → Prop} {w W : World} {v : Value} {xs : List α}
end
section
variable {α : Type} {enc : α → Value} {h1 : ∀ x, (enc x).oneCell' = true} {e base g o n cap : Nat} {ok : Nat → Prop} {W : World} {xs : List α}
end
end Kd
end Go.Proofs.YtomknjmgcbbjlaaDoorW.PrintWords
