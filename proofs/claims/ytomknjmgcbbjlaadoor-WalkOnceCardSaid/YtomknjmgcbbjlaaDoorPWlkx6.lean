import Derived.Test.YtomknjmgcbbjlaaDoorPWlkx0
import Derived.Test.YtomknjmgcbbjlaaDoorPWlkx5
namespace Go.Proofs.YtomknjmgcbbjlaaDoor.PWlk
open Go Go.RowKit Go.Proofs.YtomknjmgcbbjlaaDoorW.PrintWords Go.Proofs.YtomknjmgcbbjlaaDoorW.PrintLast Go.Proofs.YtomknjmgcbbjlaaDoorW.PrintMore
attribute [local go_sem] max2_int min2_int max_two min_two max_three min_three max_four min_four
set_option linter.unusedVariables false
set_option maxRecDepth 100000
set_option linter.unusedSimpArgs false
attribute [local go_sem] idx47_0_0 idx47_1_0 idx47_2_0 idx107_0_0 idx107_1_0
mutual
def lapidaryref10_plain.l0 : Nat → Int → List (S46) → List (S47) → Option (Bool)
  | 0, _, _, _ => none
  | k + 1, x3, x144000, x144001 => if x3 < (x144000.length : Int) then (if 0 ≤ x3 then ((lapidaryref10_coord.f ((rd_T46 x144000 x3).f0)).bind fun t145 => (if t145 = true then ((lapidaryref10_coord.f ((rd_T46 x144000 x3).f1)).bind fun t147 => (if t147 = true then ((lapidaryref10_coord.f ((rd_T46 x144000 x3).f2)).bind fun t149 => (if t149 = true then (lapidaryref10_plain.l0 k (wrap64 (x3 + 1)) x144000 x144001) else (some false))) else (some false))) else (some false))) else (none)) else (lapidaryref10_plain.l1 k 0 x144000 x144001)
def lapidaryref10_plain.l1 : Nat → Int → List (S46) → List (S47) → Option (Bool)
  | 0, _, _, _ => none
  | k + 1, x4, x144000, x144001 => if x4 < (x144001.length : Int) then (if 0 ≤ x4 then (if ((rd_T47 x144001 x4).f0) = ((rd_T47 x144001 x4).f1) then (lapidaryref10_plain.j2 k x4 true x144000 x144001 ((rd_T47 x144001 x4).f0) ((rd_T47 x144001 x4).f1) ((rd_T47 x144001 x4).f2)) else (if ((rd_T47 x144001 x4).f1) = ((rd_T47 x144001 x4).f2) then (lapidaryref10_plain.j2 k x4 true x144000 x144001 ((rd_T47 x144001 x4).f0) ((rd_T47 x144001 x4).f1) ((rd_T47 x144001 x4).f2)) else (lapidaryref10_plain.j2 k x4 (((rd_T47 x144001 x4).f2) == ((rd_T47 x144001 x4).f0)) x144000 x144001 ((rd_T47 x144001 x4).f0) ((rd_T47 x144001 x4).f1) ((rd_T47 x144001 x4).f2)))) else (none)) else (some true)
def lapidaryref10_plain.j2 : Nat → Int → Bool → List (S46) → List (S47) → Int → Int → Int → Option (Bool)
  | 0, _, _, _, _, _, _, _ => none
  | k + 1, x4, x72, x144000, x144001, x152000, x152001, x152002 => if x72 = true then (some false) else (lapidaryref10_plain.l2 k x4 0 x144000 x144001 x152000 x152001 x152002)
def lapidaryref10_plain.l2 : Nat → Int → Int → List (S46) → List (S47) → Int → Int → Int → Option (Bool)
  | 0, _, _, _, _, _, _, _ => none
  | k + 1, x4, x6, x144000, x144001, x152000, x152001, x152002 => if x6 < 3 then (if x6 = 0 then (if x152000 < 0 then (some false) else (if x152000 ≥ (x144000.length : Int) then (some false) else (lapidaryref10_plain.l2 k x4 (wrap64 (x6 + 1)) x144000 x144001 x152000 x152001 x152002))) else (if x6 = 1 then (if x152001 < 0 then (some false) else (if x152001 ≥ (x144000.length : Int) then (some false) else (lapidaryref10_plain.l2 k x4 (wrap64 (x6 + 1)) x144000 x144001 x152000 x152001 x152002))) else (if x6 = 2 then (if x152002 < 0 then (some false) else (if x152002 ≥ (x144000.length : Int) then (some false) else (lapidaryref10_plain.l2 k x4 (wrap64 (x6 + 1)) x144000 x144001 x152000 x152001 x152002))) else (none)))) else (lapidaryref10_plain.l1 k (wrap64 (x4 + 1)) x144000 x144001)
end
def lapidaryref10_plain.f (k : Nat) (l0_0 : List (S46)) (l0_1 : List (S47)) : Option (Bool) := lapidaryref10_plain.l0 k 0 l0_0 l0_1
theorem lapidaryref10_plain.mono_l : ∀ k, (∀ y0 y1 y2, LeO (lapidaryref10_plain.l0 k y0 y1 y2) (lapidaryref10_plain.l0 (k + 1) y0 y1 y2)) ∧ (∀ y0 y1 y2, LeO (lapidaryref10_plain.l1 k y0 y1 y2) (lapidaryref10_plain.l1 (k + 1) y0 y1 y2)) ∧ (∀ y0 y1 y2 y3 y4 y5 y6, LeO (lapidaryref10_plain.j2 k y0 y1 y2 y3 y4 y5 y6) (lapidaryref10_plain.j2 (k + 1) y0 y1 y2 y3 y4 y5 y6)) ∧ (∀ y0 y1 y2 y3 y4 y5 y6, LeO (lapidaryref10_plain.l2 k y0 y1 y2 y3 y4 y5 y6) (lapidaryref10_plain.l2 (k + 1) y0 y1 y2 y3 y4 y5 y6))
  | 0 => ⟨fun _ _ _ r h => by simp [lapidaryref10_plain.l0] at h, fun _ _ _ r h => by simp [lapidaryref10_plain.l1] at h, fun _ _ _ _ _ _ _ r h => by simp [lapidaryref10_plain.j2] at h, fun _ _ _ _ _ _ _ r h => by simp [lapidaryref10_plain.l2] at h⟩
  | k + 1 => by
    obtain ⟨ih0, ih1, ih2, ih3⟩ := lapidaryref10_plain.mono_l k
    refine ⟨?_, ?_, ?_, ?_⟩
    · intro y0 y1 y2
      unfold lapidaryref10_plain.l0
      repeat' first
      | (with_reducible exact ih0 _ _ _)
      | (with_reducible exact ih1 _ _ _)
      | (with_reducible exact ih2 _ _ _ _ _ _ _)
      | (with_reducible exact ih3 _ _ _ _ _ _ _)
      | (with_reducible exact LeO.refl _)
      | (with_reducible exact LeO.none _)
      | (with_reducible refine LeO.ite ?_ ?_)
      | (with_reducible refine LeO.bind ?_ (fun _ => ?_))
      | exact ih0 _ _ _
      | exact ih1 _ _ _
      | exact ih2 _ _ _ _ _ _ _
      | exact ih3 _ _ _ _ _ _ _
      | exact LeO.none _
      | refine LeO.ite ?_ ?_
      | refine LeO.bind ?_ (fun _ => ?_)
    · intro y0 y1 y2
      unfold lapidaryref10_plain.l1
      repeat' first
      | (with_reducible exact ih0 _ _ _)
      | (with_reducible exact ih1 _ _ _)
      | (with_reducible exact ih2 _ _ _ _ _ _ _)
      | (with_reducible exact ih3 _ _ _ _ _ _ _)
      | (with_reducible exact LeO.refl _)
      | (with_reducible exact LeO.none _)
      | (with_reducible refine LeO.ite ?_ ?_)
      | (with_reducible refine LeO.bind ?_ (fun _ => ?_))
      | exact ih0 _ _ _
      | exact ih1 _ _ _
      | exact ih2 _ _ _ _ _ _ _
      | exact ih3 _ _ _ _ _ _ _
      | exact LeO.none _
      | refine LeO.ite ?_ ?_
      | refine LeO.bind ?_ (fun _ => ?_)
    · intro y0 y1 y2 y3 y4 y5 y6
      unfold lapidaryref10_plain.j2
      repeat' first
      | (with_reducible exact ih0 _ _ _)
      | (with_reducible exact ih1 _ _ _)
      | (with_reducible exact ih2 _ _ _ _ _ _ _)
      | (with_reducible exact ih3 _ _ _ _ _ _ _)
      | (with_reducible exact LeO.refl _)
      | (with_reducible exact LeO.none _)
      | (with_reducible refine LeO.ite ?_ ?_)
      | (with_reducible refine LeO.bind ?_ (fun _ => ?_))
      | exact ih0 _ _ _
      | exact ih1 _ _ _
      | exact ih2 _ _ _ _ _ _ _
      | exact ih3 _ _ _ _ _ _ _
      | exact LeO.none _
      | refine LeO.ite ?_ ?_
      | refine LeO.bind ?_ (fun _ => ?_)
    · intro y0 y1 y2 y3 y4 y5 y6
      unfold lapidaryref10_plain.l2
      repeat' first
      | (with_reducible exact ih0 _ _ _)
      | (with_reducible exact ih1 _ _ _)
      | (with_reducible exact ih2 _ _ _ _ _ _ _)
      | (with_reducible exact ih3 _ _ _ _ _ _ _)
      | (with_reducible exact LeO.refl _)
      | (with_reducible exact LeO.none _)
      | (with_reducible refine LeO.ite ?_ ?_)
      | (with_reducible refine LeO.bind ?_ (fun _ => ?_))
      | exact ih0 _ _ _
      | exact ih1 _ _ _
      | exact ih2 _ _ _ _ _ _ _
      | exact ih3 _ _ _ _ _ _ _
      | exact LeO.none _
      | refine LeO.ite ?_ ?_
      | refine LeO.bind ?_ (fun _ => ?_)
theorem lapidaryref10_plain.mono : ∀ a0 a1 k, LeO (lapidaryref10_plain.f k a0 a1) (lapidaryref10_plain.f (k + 1) a0 a1) := by
  intro a0 a1 k
  obtain ⟨ih0, ih1, ih2, ih3⟩ := lapidaryref10_plain.mono_l k
  unfold lapidaryref10_plain.f
  repeat' first
      | (with_reducible exact ih0 _ _ _)
      | (with_reducible exact ih1 _ _ _)
      | (with_reducible exact ih2 _ _ _ _ _ _ _)
      | (with_reducible exact ih3 _ _ _ _ _ _ _)
      | (with_reducible exact LeO.refl _)
      | (with_reducible exact LeO.none _)
      | (with_reducible refine LeO.ite ?_ ?_)
      | (with_reducible refine LeO.bind ?_ (fun _ => ?_))
      | exact ih0 _ _ _
      | exact ih1 _ _ _
      | exact ih2 _ _ _ _ _ _ _
      | exact ih3 _ _ _ _ _ _ _
      | exact LeO.none _
      | refine LeO.ite ?_ ?_
      | refine LeO.bind ?_ (fun _ => ?_)
end Go.Proofs.YtomknjmgcbbjlaaDoor.PWlk
