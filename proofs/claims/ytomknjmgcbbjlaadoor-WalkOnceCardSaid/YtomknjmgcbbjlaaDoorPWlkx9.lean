import Derived.Test.YtomknjmgcbbjlaaDoorPWlkx0
import Derived.Test.YtomknjmgcbbjlaaDoorPWlkx5
import Derived.Test.YtomknjmgcbbjlaaDoorPWlkx6
import Derived.Test.YtomknjmgcbbjlaaDoorPWlkx8
namespace Go.Proofs.YtomknjmgcbbjlaaDoor.PWlk
open Go Go.RowKit Go.Proofs.YtomknjmgcbbjlaaDoorW.PrintWords Go.Proofs.YtomknjmgcbbjlaaDoorW.PrintLast Go.Proofs.YtomknjmgcbbjlaaDoorW.PrintMore
attribute [local go_sem] max2_int min2_int max_two min_two max_three min_three max_four min_four
set_option linter.unusedVariables false
set_option maxRecDepth 100000
set_option linter.unusedSimpArgs false
attribute [local go_sem] idx47_0_0 idx47_1_0 idx47_2_0 idx107_0_0 idx107_1_0
mutual
def lapidaryref10_Check.j0 : Nat → Bool → List (S46) → List (S47) → Option (Int)
  | 0, _, _, _ => none
  | k + 1, x15, x179000, x179001 => if x15 = true then (some 3) else ((lapidaryref10_plain.f k x179000 x179001).bind fun t179 => (if t179 = true then (lapidaryref10_Check.l0 k 0 x179000 x179001) else (some 2)))
def lapidaryref10_Check.l0 : Nat → Int → List (S46) → List (S47) → Option (Int)
  | 0, _, _, _ => none
  | k + 1, x3, x179000, x179001 => if x3 < (x179001.length : Int) then (lapidaryref10_Check.l1 k x3 0 x179000 x179001) else (lapidaryref10_Check.l2 k 0 x179000 x179001)
def lapidaryref10_Check.l1 : Nat → Int → Int → List (S46) → List (S47) → Option (Int)
  | 0, _, _, _, _ => none
  | k + 1, x3, x4, x179000, x179001 => if x4 < 3 then (if 0 ≤ x3 then (if x3 < (x179001.length : Int) then (if x4 = 0 then ((lapidaryref10_Has.f k x179001 ((rd_T47 x179001 x3).f0) ((rd_T47 x179001 x3).f1)).bind fun t182 => (if t182 = x3 then (lapidaryref10_Check.l1 k x3 (wrap64 (x4 + 1)) x179000 x179001) else (some 80))) else (if x4 = 1 then ((lapidaryref10_Has.f k x179001 ((rd_T47 x179001 x3).f1) ((rd_T47 x179001 x3).f2)).bind fun t184 => (if t184 = x3 then (lapidaryref10_Check.l1 k x3 (wrap64 (x4 + 1)) x179000 x179001) else (some 80))) else (if x4 = 2 then ((lapidaryref10_Has.f k x179001 ((rd_T47 x179001 x3).f2) ((rd_T47 x179001 x3).f0)).bind fun t186 => (if t186 = x3 then (lapidaryref10_Check.l1 k x3 (wrap64 (x4 + 1)) x179000 x179001) else (some 80))) else (none)))) else (none)) else (none)) else (lapidaryref10_Check.l0 k (wrap64 (x3 + 1)) x179000 x179001)
def lapidaryref10_Check.l2 : Nat → Int → List (S46) → List (S47) → Option (Int)
  | 0, _, _, _ => none
  | k + 1, x5, x179000, x179001 => if x5 < (x179000.length : Int) then ((lapidaryref10_one.f k x179001 x5).bind fun t187 => (if t187 = true then (lapidaryref10_Check.l2 k (wrap64 (x5 + 1)) x179000 x179001) else (some 81))) else (some 0)
end
def lapidaryref10_Check.f (k : Nat) (l0_0 : List (S46)) (l0_1 : List (S47)) : Option (Int) := if (l0_0.length : Int) > 4000 then (lapidaryref10_Check.j0 k true l0_0 l0_1) else (lapidaryref10_Check.j0 k (decide ((l0_1.length : Int) > 8000)) l0_0 l0_1)
theorem lapidaryref10_Check.mono_l : ∀ k, (∀ y0 y1 y2, LeO (lapidaryref10_Check.j0 k y0 y1 y2) (lapidaryref10_Check.j0 (k + 1) y0 y1 y2)) ∧ (∀ y0 y1 y2, LeO (lapidaryref10_Check.l0 k y0 y1 y2) (lapidaryref10_Check.l0 (k + 1) y0 y1 y2)) ∧ (∀ y0 y1 y2 y3, LeO (lapidaryref10_Check.l1 k y0 y1 y2 y3) (lapidaryref10_Check.l1 (k + 1) y0 y1 y2 y3)) ∧ (∀ y0 y1 y2, LeO (lapidaryref10_Check.l2 k y0 y1 y2) (lapidaryref10_Check.l2 (k + 1) y0 y1 y2))
  | 0 => ⟨fun _ _ _ r h => by simp [lapidaryref10_Check.j0] at h, fun _ _ _ r h => by simp [lapidaryref10_Check.l0] at h, fun _ _ _ _ r h => by simp [lapidaryref10_Check.l1] at h, fun _ _ _ r h => by simp [lapidaryref10_Check.l2] at h⟩
  | k + 1 => by
    obtain ⟨ih0, ih1, ih2, ih3⟩ := lapidaryref10_Check.mono_l k
    refine ⟨?_, ?_, ?_, ?_⟩
    · intro y0 y1 y2
      unfold lapidaryref10_Check.j0
      repeat' first
      | (with_reducible exact ih0 _ _ _)
      | (with_reducible exact ih1 _ _ _)
      | (with_reducible exact ih2 _ _ _ _)
      | (with_reducible exact ih3 _ _ _)
      | (with_reducible exact lapidaryref10_Has.mono _ _ _ _)
      | (with_reducible exact lapidaryref10_one.mono _ _ _)
      | (with_reducible exact lapidaryref10_plain.mono _ _ _)
      | (with_reducible exact LeO.refl _)
      | (with_reducible exact LeO.none _)
      | (with_reducible refine LeO.ite ?_ ?_)
      | (with_reducible refine LeO.bind ?_ (fun _ => ?_))
      | exact ih0 _ _ _
      | exact ih1 _ _ _
      | exact ih2 _ _ _ _
      | exact ih3 _ _ _
      | exact lapidaryref10_Has.mono _ _ _ _
      | exact lapidaryref10_one.mono _ _ _
      | exact lapidaryref10_plain.mono _ _ _
      | exact LeO.none _
      | refine LeO.ite ?_ ?_
      | refine LeO.bind ?_ (fun _ => ?_)
    · intro y0 y1 y2
      unfold lapidaryref10_Check.l0
      repeat' first
      | (with_reducible exact ih0 _ _ _)
      | (with_reducible exact ih1 _ _ _)
      | (with_reducible exact ih2 _ _ _ _)
      | (with_reducible exact ih3 _ _ _)
      | (with_reducible exact lapidaryref10_Has.mono _ _ _ _)
      | (with_reducible exact lapidaryref10_one.mono _ _ _)
      | (with_reducible exact lapidaryref10_plain.mono _ _ _)
      | (with_reducible exact LeO.refl _)
      | (with_reducible exact LeO.none _)
      | (with_reducible refine LeO.ite ?_ ?_)
      | (with_reducible refine LeO.bind ?_ (fun _ => ?_))
      | exact ih0 _ _ _
      | exact ih1 _ _ _
      | exact ih2 _ _ _ _
      | exact ih3 _ _ _
      | exact lapidaryref10_Has.mono _ _ _ _
      | exact lapidaryref10_one.mono _ _ _
      | exact lapidaryref10_plain.mono _ _ _
      | exact LeO.none _
      | refine LeO.ite ?_ ?_
      | refine LeO.bind ?_ (fun _ => ?_)
    · intro y0 y1 y2 y3
      unfold lapidaryref10_Check.l1
      repeat' first
      | (with_reducible exact ih0 _ _ _)
      | (with_reducible exact ih1 _ _ _)
      | (with_reducible exact ih2 _ _ _ _)
      | (with_reducible exact ih3 _ _ _)
      | (with_reducible exact lapidaryref10_Has.mono _ _ _ _)
      | (with_reducible exact lapidaryref10_one.mono _ _ _)
      | (with_reducible exact lapidaryref10_plain.mono _ _ _)
      | (with_reducible exact LeO.refl _)
      | (with_reducible exact LeO.none _)
      | (with_reducible refine LeO.ite ?_ ?_)
      | (with_reducible refine LeO.bind ?_ (fun _ => ?_))
      | exact ih0 _ _ _
      | exact ih1 _ _ _
      | exact ih2 _ _ _ _
      | exact ih3 _ _ _
      | exact lapidaryref10_Has.mono _ _ _ _
      | exact lapidaryref10_one.mono _ _ _
      | exact lapidaryref10_plain.mono _ _ _
      | exact LeO.none _
      | refine LeO.ite ?_ ?_
      | refine LeO.bind ?_ (fun _ => ?_)
    · intro y0 y1 y2
      unfold lapidaryref10_Check.l2
      repeat' first
      | (with_reducible exact ih0 _ _ _)
      | (with_reducible exact ih1 _ _ _)
      | (with_reducible exact ih2 _ _ _ _)
      | (with_reducible exact ih3 _ _ _)
      | (with_reducible exact lapidaryref10_Has.mono _ _ _ _)
      | (with_reducible exact lapidaryref10_one.mono _ _ _)
      | (with_reducible exact lapidaryref10_plain.mono _ _ _)
      | (with_reducible exact LeO.refl _)
      | (with_reducible exact LeO.none _)
      | (with_reducible refine LeO.ite ?_ ?_)
      | (with_reducible refine LeO.bind ?_ (fun _ => ?_))
      | exact ih0 _ _ _
      | exact ih1 _ _ _
      | exact ih2 _ _ _ _
      | exact ih3 _ _ _
      | exact lapidaryref10_Has.mono _ _ _ _
      | exact lapidaryref10_one.mono _ _ _
      | exact lapidaryref10_plain.mono _ _ _
      | exact LeO.none _
      | refine LeO.ite ?_ ?_
      | refine LeO.bind ?_ (fun _ => ?_)
theorem lapidaryref10_Check.mono : ∀ a0 a1 k, LeO (lapidaryref10_Check.f k a0 a1) (lapidaryref10_Check.f (k + 1) a0 a1) := by
  intro a0 a1 k
  obtain ⟨ih0, ih1, ih2, ih3⟩ := lapidaryref10_Check.mono_l k
  unfold lapidaryref10_Check.f
  repeat' first
      | (with_reducible exact ih0 _ _ _)
      | (with_reducible exact ih1 _ _ _)
      | (with_reducible exact ih2 _ _ _ _)
      | (with_reducible exact ih3 _ _ _)
      | (with_reducible exact lapidaryref10_Has.mono _ _ _ _)
      | (with_reducible exact lapidaryref10_one.mono _ _ _)
      | (with_reducible exact lapidaryref10_plain.mono _ _ _)
      | (with_reducible exact LeO.refl _)
      | (with_reducible exact LeO.none _)
      | (with_reducible refine LeO.ite ?_ ?_)
      | (with_reducible refine LeO.bind ?_ (fun _ => ?_))
      | exact ih0 _ _ _
      | exact ih1 _ _ _
      | exact ih2 _ _ _ _
      | exact ih3 _ _ _
      | exact lapidaryref10_Has.mono _ _ _ _
      | exact lapidaryref10_one.mono _ _ _
      | exact lapidaryref10_plain.mono _ _ _
      | exact LeO.none _
      | refine LeO.ite ?_ ?_
      | refine LeO.bind ?_ (fun _ => ?_)
def lapidaryref11_find.l0 : Nat → List Int → Int → Int → Option (Int)
  | 0, _, _, _ => none
  | k + 1, x0, x1, x5 => if x5 < (x0.length : Int) then (if 0 ≤ x5 then (if (rd x0 x5) = x1 then (some x5) else (lapidaryref11_find.l0 k x0 x1 (wrap64 (x5 + 1)))) else (none)) else (some (-1))
def lapidaryref11_find.f (k : Nat) (l0 : List Int) (a1 : Int) : Option (Int) := lapidaryref11_find.l0 k l0 a1 0
end Go.Proofs.YtomknjmgcbbjlaaDoor.PWlk
