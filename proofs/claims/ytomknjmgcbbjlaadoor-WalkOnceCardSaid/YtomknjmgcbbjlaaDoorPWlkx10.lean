import Derived.Test.YtomknjmgcbbjlaaDoorPWlkx0
import Derived.Test.YtomknjmgcbbjlaaDoorPWlkx9
namespace Go.Proofs.YtomknjmgcbbjlaaDoor.PWlk
open Go Go.RowKit Go.Proofs.YtomknjmgcbbjlaaDoorW.PrintWords Go.Proofs.YtomknjmgcbbjlaaDoorW.PrintLast Go.Proofs.YtomknjmgcbbjlaaDoorW.PrintMore
attribute [local go_sem] max2_int min2_int max_two min_two max_three min_three max_four min_four
set_option linter.unusedVariables false
set_option maxRecDepth 100000
set_option linter.unusedSimpArgs false
attribute [local go_sem] idx47_0_0 idx47_1_0 idx47_2_0 idx107_0_0 idx107_1_0
def lapidaryref11_meet.f (k : Nat) (l0_0 : List Int) (l0_1 : List Int) (l0_2 : List (S47)) (l0_3 : List (S107)) (l0_4 : List (S62)) (a1 : Int) : Option (List Int × List Int × (List (S47)) × (List (S107)) × (List (S62))) := (lapidaryref11_find.f k l0_0 a1).bind fun t191 => (if t191 < 0 then (if l0_0.length < 17592186044416 then (some ((l0_0 ++ [a1]), l0_1, l0_2, l0_3, l0_4)) else (none)) else (some (l0_0, l0_1, l0_2, l0_3, l0_4)))
def lapidaryref11_take.f (k : Nat) (l0_0 : List Int) (l0_1 : List Int) (l0_2 : List (S47)) (l0_3 : List (S107)) (l0_4 : List (S62)) (a1 : Int) (a2 : Int) (a3 : Int) (a4 : Int) (a5 : Int) : Option (List Int × List Int × (List (S47)) × (List (S107)) × (List (S62))) := if l0_1.length < 17592186044416 then ((some (l0_1 ++ [a1] : List Int)).bind fun y197 => ((lapidaryref11_find.f k l0_0 a2).bind fun t200 => ((lapidaryref11_find.f k l0_0 a3).bind fun t201 => ((lapidaryref11_find.f k l0_0 a4).bind fun t202 => (if l0_2.length < 5864062014805 then ((some (l0_2 ++ [(⟨t200, t201, t202⟩ : S47)] : List (S47))).bind fun y203 => (if a5 = 0 then (if l0_3.length < 8796093022208 then ((some (l0_3 ++ [(⟨a2, a3⟩ : S107)] : List (S107))).bind fun y206 => ((some (([(⟨a3, a4⟩ : S107), (⟨a4, a2⟩ : S107)] : List (S107)) : List (S107))).bind fun y209 => (if y206.length + y209.length < 8796093022208 then (some (l0_0, y197, y203, (y206 ++ y209), l0_4)) else (none)))) else (none)) else ((some (([(⟨a3, a4⟩ : S107), (⟨a4, a2⟩ : S107)] : List (S107)) : List (S107))).bind fun y215 => (if l0_3.length + y215.length < 8796093022208 then (some (l0_0, y197, y203, (l0_3 ++ y215), l0_4)) else (none))))) else (none)))))) else (none)
end Go.Proofs.YtomknjmgcbbjlaaDoor.PWlk
