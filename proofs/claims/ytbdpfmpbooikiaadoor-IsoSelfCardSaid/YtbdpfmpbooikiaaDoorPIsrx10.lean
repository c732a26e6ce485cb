import Derived.Test.YtbdpfmpbooikiaaDoorPIsrx0
import Derived.Test.YtbdpfmpbooikiaaDoorPIsrx5
import Derived.Test.YtbdpfmpbooikiaaDoorPIsrx9
namespace Go.Proofs.YtbdpfmpbooikiaaDoor.PIsr
open Go Go.RowKit Go.Proofs.YtbdpfmpbooikiaaDoorW.PrintWords Go.Proofs.YtbdpfmpbooikiaaDoorW.PrintLast Go.Proofs.YtbdpfmpbooikiaaDoorW.PrintMore
attribute [local go_sem] max2_int min2_int max_two min_two max_three min_three max_four min_four
set_option linter.unusedVariables false
set_option linter.unusedSimpArgs false
attribute [local go_sem] idx57_0_0 idx57_1_0 idx57_2_0 idx86_0_0 idx86_1_0
mutual
def lapidaryref13_Renamed.j0 : Nat → List Int → List Int → Bool → List (S45) → List (S57) → Option ((List (S45)) × (List (S57)) × Int)
  | 0, _, _, _, _, _ => none
  | k + 1, x1, x7, x33, x196000, x196001 => if x33 = true then (some (([] : List (S45)), ([] : List (S57)), 2)) else (lapidaryref13_Renamed.l0 k x1 x7 0 x196000 x196001 ([] : List (S45)))
def lapidaryref13_Renamed.l0 : Nat → List Int → List Int → Int → List (S45) → List (S57) → List (S45) → Option ((List (S45)) × (List (S57)) × Int)
  | 0, _, _, _, _, _, _ => none
  | k + 1, x1, x7, x10, x196000, x196001, x203000 => if x10 < (x7.length : Int) then (if 0 ≤ x10 then (if 0 ≤ (rd x7 x10) then (if (rd x7 x10) < (x196000.length : Int) then (if x203000.length < 5864062014805 then (lapidaryref13_Renamed.l0 k x1 x7 (wrap64 (x10 + 1)) x196000 x196001 (x203000 ++ [(⟨(rd_T45 x196000 (rd x7 x10)).f0, (rd_T45 x196000 (rd x7 x10)).f1, (rd_T45 x196000 (rd x7 x10)).f2⟩ : S45)])) else (none)) else (none)) else (none)) else (none)) else (lapidaryref13_Renamed.l1 k x1 0 x196000 x196001 x203000 ([] : List (S57)))
def lapidaryref13_Renamed.l1 : Nat → List Int → Int → List (S45) → List (S57) → List (S45) → List (S57) → Option ((List (S45)) × (List (S57)) × Int)
  | 0, _, _, _, _, _, _ => none
  | k + 1, x1, x11, x196000, x196001, x203000, x203001 => if x11 < (x196001.length : Int) then (if 0 ≤ x11 then (if 0 ≤ ((rd_T57 x196001 x11).f0) then (if ((rd_T57 x196001 x11).f0) < (x1.length : Int) then (if 0 ≤ ((rd_T57 x196001 x11).f1) then (if ((rd_T57 x196001 x11).f1) < (x1.length : Int) then (if 0 ≤ ((rd_T57 x196001 x11).f2) then (if ((rd_T57 x196001 x11).f2) < (x1.length : Int) then (if x203001.length < 5864062014805 then (lapidaryref13_Renamed.l1 k x1 (wrap64 (x11 + 1)) x196000 x196001 x203000 (x203001 ++ [(⟨rd x1 ((rd_T57 x196001 x11).f0), rd x1 ((rd_T57 x196001 x11).f1), rd x1 ((rd_T57 x196001 x11).f2)⟩ : S57)])) else (none)) else (none)) else (none)) else (none)) else (none)) else (none)) else (none)) else (none)) else (some (x203000, x203001, 0))
end
def lapidaryref13_Renamed.f (k : Nat) (l0_0 : List (S45)) (l0_1 : List (S57)) (l1 : List Int) : Option ((List (S45)) × (List (S57)) × Int) := (lapidaryref10_Check.f k l0_0 l0_1).bind fun t197 => (if t197 = 0 then ((lapidaryref13_Back.f k l1).bind fun bt198 => (if bt198.2 = true then (lapidaryref13_Renamed.j0 k l1 bt198.1 ((l1.length : Int) != (l0_0.length : Int)) l0_0 l0_1) else (lapidaryref13_Renamed.j0 k l1 bt198.1 true l0_0 l0_1))) else (some (([] : List (S45)), ([] : List (S57)), t197)))
end Go.Proofs.YtbdpfmpbooikiaaDoor.PIsr
