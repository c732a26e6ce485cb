import Derived.Test.YtomknjmgcbbjlaaDoorWalkT
import Derived.Test.YtomknjmgcbbjlaaDoorPWlkx0
import Derived.Test.YtomknjmgcbbjlaaDoorStepsStub
import Derived.Test.YtomknjmgcbbjlaaDoorPWlkx4
import Derived.Test.YtomknjmgcbbjlaaDoorPWlkx5
import Derived.Test.YtomknjmgcbbjlaaDoorPWlkx5k
import Derived.Test.YtomknjmgcbbjlaaDoorPWlkx12
namespace Go.Proofs.YtomknjmgcbbjlaaDoor.PWlk
open Go Go.RowKit Go.Proofs.YtomknjmgcbbjlaaDoorW.PrintWords
noncomputable def walk_Order.f (l0_0 : List (S46)) (l0_1 : List (S47)) : Option (List Int × List Int × Int) := some (if chk l0_0 l0_1 = 0 then (wk l0_1).V else [], if chk l0_0 l0_1 = 0 then (wk l0_1).O.map (fun i : Nat => (i : Int)) else [], chk l0_0 l0_1)
theorem walk_Order.calls (A0_0 : Option Addr) (c0_0 : Nat) (l0_0 : List (S46)) (A0_1 : Option Addr) (c0_1 : Nat) (l0_1 : List (S47)) (r1 r2 : List Int) (r3 : Int) (w : World) (hr0_0 : Kd.C k46 w A0_0 l0_0.length l0_0) (hc0_0 : l0_0.length ≤ c0_0) (hr0_1 : Kd.C k47 w A0_1 l0_1.length l0_1) (hc0_1 : l0_1.length ≤ c0_1) (hG : Kd.C k47 w (some ⟨0, 0, none⟩) 1 [⟨1, 2, 0⟩]) (h : walk_Order.f l0_0 l0_1 = some (r1, r2, r3)) :
    Calls Tryd.prog 21 #[.agg #[.slice A0_0 l0_0.length c0_0, .slice A0_1 l0_1.length c0_1]] w fun e w' => ∃ v0_ v1_ : Value, e = .returned (.tuple #[v0_, v1_, .int .i64 r3]) ∧ Kd.R (Kd.int .i64) 3 w' w.heap.size (fun k_ => some k_ ≠ (v1_ : Value).ownBlock) v0_ r1 ∧ Kd.R (Kd.int .i64) 3 w' w.heap.size (fun k_ => some k_ ≠ (v0_ : Value).ownBlock) v1_ r2 ∧ Below w.heap.size w w' := by
  unfold walk_Order.f at h
  injection h with h
  injection h with h1 h2
  injection h2 with h2 h3
  subst h1
  subst h2
  subst h3
  exact WW.order21 l0_0 l0_1 _ (chk_told l0_0 l0_1) A0_0 c0_0 A0_1 c0_1 w hr0_0 hc0_0 hr0_1 hc0_1 hG
end Go.Proofs.YtomknjmgcbbjlaaDoor.PWlk
namespace Go.Proofs.YtomknjmgcbbjlaaDoor.PWlk
open Go Go.RowKit Go.Proofs.YtomknjmgcbbjlaaDoorW.PrintWords Go.Proofs.YtomknjmgcbbjlaaDoorW.PrintLast Go.Proofs.YtomknjmgcbbjlaaDoorW.PrintMore
attribute [local go_sem] max2_int min2_int max_two min_two max_three min_three max_four min_four
set_option linter.unusedVariables false
set_option maxRecDepth 100000
set_option linter.unusedSimpArgs false
attribute [local go_sem high] eqA46 eqA47
attribute [local go_sem] idx47_0_0 idx47_1_0 idx47_2_0 idx107_0_0 idx107_1_0
theorem tm1_x13 : (wrap64 1).tmod 3 = 1 := by first | rfl | decide | (unfold wrap64; rfl)
theorem tm2_x13 : (wrap64 2).tmod 3 = 2 := by first | rfl | decide | (unfold wrap64; rfl)
theorem tm3_x13 : (wrap64 3).tmod 3 = 0 := by first | rfl | decide | (unfold wrap64; rfl)
attribute [local go_sem] tm1_x13 tm2_x13 tm3_x13
def lapidaryref00_SameInts.l0 : Nat → List Int → List Int → Int → Option (Bool)
  | 0, _, _, _ => none
  | k + 1, x0, x1, x5 => if x5 < (x0.length : Int) then (if 0 ≤ x5 then (if x5 < (x1.length : Int) then (if (rd x0 x5) = (rd x1 x5) then (lapidaryref00_SameInts.l0 k x0 x1 (wrap64 (x5 + 1))) else (some false)) else (none)) else (none)) else (some true)
def lapidaryref00_SameInts.f (k : Nat) (l0 : List Int) (l1 : List Int) : Option (Bool) := if (l0.length : Int) = (l1.length : Int) then (lapidaryref00_SameInts.l0 k l0 l1 0) else (some false)
noncomputable def lapidarylaw11_WalkSteps.f (k : Nat) (l0_0 : List (S46)) (l0_1 : List (S47)) : Option (Bool) := (lapidarylaw11_long.f l0_0 l0_1).bind fun t400 => (if t400 = true then ((lapidarylaw11_known.f k).bind fun t401 => (some t401)) else ((walk_Steps.f l0_0 l0_1).bind fun bt402 => ((walk_Order.f l0_0 l0_1).bind fun bt406 => ((lapidaryref11_Walk.f k l0_0 l0_1).bind fun bt413 => ((lapidaryref11_SameSteps.f k bt402.1 bt413.2.2.2.2.1).bind fun t430 => (if t430 = true then ((lapidaryref00_SameInts.f k bt406.1 bt413.1).bind fun t431 => (if t431 = true then ((lapidaryref00_SameInts.f k bt406.2.1 bt413.2.1).bind fun t432 => (if t432 = true then (if bt402.2 = bt413.2.2.2.2.2 then (if bt406.2.2 = bt413.2.2.2.2.2 then ((lapidarylaw11_known.f k).bind fun t433 => (some t433)) else (some false)) else (some false)) else (some false))) else (some false))) else (some false)))))))
mutual
def lapidaryref10_Same.j0 : Nat → Bool → List (S46) → List (S47) → List (S46) → List (S47) → Option (Bool)
  | 0, _, _, _, _, _ => none
  | k + 1, x22, x435000, x435001, x436000, x436001 => if x22 = true then (some false) else (lapidaryref10_Same.l0 k 0 x435000 x435001 x436000 x436001)
def lapidaryref10_Same.l0 : Nat → Int → List (S46) → List (S47) → List (S46) → List (S47) → Option (Bool)
  | 0, _, _, _, _, _ => none
  | k + 1, x5, x435000, x435001, x436000, x436001 => if x5 < (x435000.length : Int) then (if 0 ≤ x5 then (if x5 < (x436000.length : Int) then (if (!(((rd_T46 x435000 x5).f0) == ((rd_T46 x436000 x5).f0)) || (!(((rd_T46 x435000 x5).f1) == ((rd_T46 x436000 x5).f1)) || (!(((rd_T46 x435000 x5).f2) == ((rd_T46 x436000 x5).f2))))) = true then (some false) else (lapidaryref10_Same.l0 k (wrap64 (x5 + 1)) x435000 x435001 x436000 x436001)) else (none)) else (none)) else (lapidaryref10_Same.l1 k 0 x435000 x435001 x436000 x436001)
def lapidaryref10_Same.l1 : Nat → Int → List (S46) → List (S47) → List (S46) → List (S47) → Option (Bool)
  | 0, _, _, _, _, _ => none
  | k + 1, x6, x435000, x435001, x436000, x436001 => if x6 < (x435001.length : Int) then (if 0 ≤ x6 then (if x6 < (x436001.length : Int) then (if (!(((rd_T47 x435001 x6).f0) == ((rd_T47 x436001 x6).f0)) || (!(((rd_T47 x435001 x6).f1) == ((rd_T47 x436001 x6).f1)) || (!(((rd_T47 x435001 x6).f2) == ((rd_T47 x436001 x6).f2))))) = true then (some false) else (lapidaryref10_Same.l1 k (wrap64 (x6 + 1)) x435000 x435001 x436000 x436001)) else (none)) else (none)) else (some true)
end
def lapidaryref10_Same.f (k : Nat) (l0_0 : List (S46)) (l0_1 : List (S47)) (l1_0 : List (S46)) (l1_1 : List (S47)) : Option (Bool) := if (l0_0.length : Int) = (l1_0.length : Int) then (lapidaryref10_Same.j0 k ((l0_1.length : Int) != (l1_1.length : Int)) l0_0 l0_1 l1_0 l1_1) else (lapidaryref10_Same.j0 k true l0_0 l0_1 l1_0 l1_1)
end Go.Proofs.YtomknjmgcbbjlaaDoor.PWlk
