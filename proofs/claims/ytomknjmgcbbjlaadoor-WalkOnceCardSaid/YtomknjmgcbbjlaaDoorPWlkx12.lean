import Derived.Test.YtomknjmgcbbjlaaDoorPWlkx0
import Derived.Test.YtomknjmgcbbjlaaDoorPWlkx9
import Derived.Test.YtomknjmgcbbjlaaDoorPWlkx10
import Derived.Test.YtomknjmgcbbjlaaDoorPWlkx11
namespace Go.Proofs.YtomknjmgcbbjlaaDoor.PWlk
open Go Go.RowKit Go.Proofs.YtomknjmgcbbjlaaDoorW.PrintWords Go.Proofs.YtomknjmgcbbjlaaDoorW.PrintLast Go.Proofs.YtomknjmgcbbjlaaDoorW.PrintMore
attribute [local go_sem] max2_int min2_int max_two min_two max_three min_three max_four min_four
set_option linter.unusedVariables false
set_option maxRecDepth 100000
set_option linter.unusedSimpArgs false
attribute [local go_sem] idx47_0_0 idx47_1_0 idx47_2_0 idx107_0_0 idx107_1_0
mutual
def lapidaryref11_Walk.l0 : Nat → Int → List (S46) → List (S47) → List Int → List Int → List (S47) → List (S107) → List (S62) → Option (List Int × List Int × (List (S47)) × (List (S107)) × (List (S62)) × Int)
  | 0, _, _, _, _, _, _, _, _ => none
  | k + 1, x6, x312000, x312001, x314000, x314001, x314002, x314003, x314004 => if x6 < (x312001.length : Int) then ((lapidaryref11_find.f k x314001 x6).bind fun t315 => (if t315 ≥ 0 then (lapidaryref11_Walk.l0 k (wrap64 (x6 + 1)) x312000 x312001 x314000 x314001 x314002 x314003 x314004) else (if x314004.length < 8796093022208 then (if 0 ≤ x6 then ((lapidaryref11_meet.f k x314000 x314001 x314002 x314003 (x314004 ++ [(⟨0, 0⟩ : S62)]) ((rd_T47 x312001 x6).f0)).bind fun bt322 => ((lapidaryref11_meet.f k bt322.1 bt322.2.1 bt322.2.2.1 bt322.2.2.2.1 bt322.2.2.2.2 ((rd_T47 x312001 x6).f1)).bind fun bt337 => ((lapidaryref11_meet.f k bt337.1 bt337.2.1 bt337.2.2.1 bt337.2.2.2.1 bt337.2.2.2.2 ((rd_T47 x312001 x6).f2)).bind fun bt352 => ((lapidaryref11_take.f k bt352.1 bt352.2.1 bt352.2.2.1 bt352.2.2.2.1 bt352.2.2.2.2 x6 ((rd_T47 x312001 x6).f0) ((rd_T47 x312001 x6).f1) ((rd_T47 x312001 x6).f2) 0).bind fun bt367 => (lapidaryref11_Walk.l1 k x6 x312000 x312001 bt367.1 bt367.2.1 bt367.2.2.1 bt367.2.2.2.1 bt367.2.2.2.2))))) else (none)) else (none)))) else (some (x314000, x314001, x314002, x314003, x314004, 0))
def lapidaryref11_Walk.l1 : Nat → Int → List (S46) → List (S47) → List Int → List Int → List (S47) → List (S107) → List (S62) → Option (List Int × List Int × (List (S47)) × (List (S107)) × (List (S62)) × Int)
  | 0, _, _, _, _, _, _, _, _ => none
  | k + 1, x6, x312000, x312001, x314000, x314001, x314002, x314003, x314004 => if (x314003.length : Int) > 0 then ((lapidaryref11_gate.f k x314000 x314001 x314002 x314003 x314004 x312000 x312001).bind fun bt382 => (lapidaryref11_Walk.l1 k x6 x312000 x312001 bt382.1 bt382.2.1 bt382.2.2.1 bt382.2.2.2.1 bt382.2.2.2.2)) else (lapidaryref11_Walk.l0 k (wrap64 (x6 + 1)) x312000 x312001 x314000 x314001 x314002 x314003 x314004)
end
def lapidaryref11_Walk.f (k : Nat) (l0_0 : List (S46)) (l0_1 : List (S47)) : Option (List Int × List Int × (List (S47)) × (List (S107)) × (List (S62)) × Int) := (lapidaryref10_Check.f k l0_0 l0_1).bind fun t314 => (if t314 = 0 then (lapidaryref11_Walk.l0 k 0 l0_0 l0_1 ([] : List Int) ([] : List Int) ([] : List (S47)) ([] : List (S107)) ([] : List (S62))) else (some (([] : List Int), ([] : List Int), ([] : List (S47)), ([] : List (S107)), ([] : List (S62)), t314)))
end Go.Proofs.YtomknjmgcbbjlaaDoor.PWlk
