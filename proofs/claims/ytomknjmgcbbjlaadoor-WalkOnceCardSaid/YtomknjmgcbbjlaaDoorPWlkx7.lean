import Derived.Test.YtomknjmgcbbjlaaDoorPWlkx0
namespace Go.Proofs.YtomknjmgcbbjlaaDoor.PWlk
open Go Go.RowKit Go.Proofs.YtomknjmgcbbjlaaDoorW.PrintWords Go.Proofs.YtomknjmgcbbjlaaDoorW.PrintLast Go.Proofs.YtomknjmgcbbjlaaDoorW.PrintMore
attribute [local go_sem] max2_int min2_int max_two min_two max_three min_three max_four min_four
set_option linter.unusedVariables false
set_option maxRecDepth 100000
set_option linter.unusedSimpArgs false
attribute [local go_sem] idx47_0_0 idx47_1_0 idx47_2_0 idx107_0_0 idx107_1_0
mutual
def lapidaryref10_joined.l0 : Nat → Int → Int → Int → Int → Int → Int → Int → Int → Option (Bool)
  | 0, _, _, _, _, _, _, _, _ => none
  | k + 1, x2, x7, x153000, x153001, x153002, x154000, x154001, x154002 => if x7 < 3 then (lapidaryref10_joined.l1 k x2 x7 0 x153000 x153001 x153002 x154000 x154001 x154002) else (some false)
def lapidaryref10_joined.l1 : Nat → Int → Int → Int → Int → Int → Int → Int → Int → Int → Option (Bool)
  | 0, _, _, _, _, _, _, _, _, _ => none
  | k + 1, x2, x7, x8, x153000, x153001, x153002, x154000, x154001, x154002 => if x8 < 3 then (if x7 = 0 then (if x153000 = x2 then (if x8 = 0 then (if x154000 = x153001 then (if x154001 = x153000 then (some true) else (lapidaryref10_joined.l1 k x2 x7 (wrap64 (x8 + 1)) x153000 x153001 x153002 x154000 x154001 x154002)) else (lapidaryref10_joined.l1 k x2 x7 (wrap64 (x8 + 1)) x153000 x153001 x153002 x154000 x154001 x154002)) else (if x8 = 1 then (if x154001 = x153001 then (if x154002 = x153000 then (some true) else (lapidaryref10_joined.l1 k x2 x7 (wrap64 (x8 + 1)) x153000 x153001 x153002 x154000 x154001 x154002)) else (lapidaryref10_joined.l1 k x2 x7 (wrap64 (x8 + 1)) x153000 x153001 x153002 x154000 x154001 x154002)) else (if x8 = 2 then (if x154002 = x153001 then (if x154000 = x153000 then (some true) else (lapidaryref10_joined.l1 k x2 x7 (wrap64 (x8 + 1)) x153000 x153001 x153002 x154000 x154001 x154002)) else (lapidaryref10_joined.l1 k x2 x7 (wrap64 (x8 + 1)) x153000 x153001 x153002 x154000 x154001 x154002)) else (none)))) else (if x153001 = x2 then (if x8 = 0 then (if x154000 = x153001 then (if x154001 = x153000 then (some true) else (lapidaryref10_joined.l1 k x2 x7 (wrap64 (x8 + 1)) x153000 x153001 x153002 x154000 x154001 x154002)) else (lapidaryref10_joined.l1 k x2 x7 (wrap64 (x8 + 1)) x153000 x153001 x153002 x154000 x154001 x154002)) else (if x8 = 1 then (if x154001 = x153001 then (if x154002 = x153000 then (some true) else (lapidaryref10_joined.l1 k x2 x7 (wrap64 (x8 + 1)) x153000 x153001 x153002 x154000 x154001 x154002)) else (lapidaryref10_joined.l1 k x2 x7 (wrap64 (x8 + 1)) x153000 x153001 x153002 x154000 x154001 x154002)) else (if x8 = 2 then (if x154002 = x153001 then (if x154000 = x153000 then (some true) else (lapidaryref10_joined.l1 k x2 x7 (wrap64 (x8 + 1)) x153000 x153001 x153002 x154000 x154001 x154002)) else (lapidaryref10_joined.l1 k x2 x7 (wrap64 (x8 + 1)) x153000 x153001 x153002 x154000 x154001 x154002)) else (none)))) else (lapidaryref10_joined.l1 k x2 x7 (wrap64 (x8 + 1)) x153000 x153001 x153002 x154000 x154001 x154002))) else (if x7 = 1 then (if x153001 = x2 then (if x8 = 0 then (if x154000 = x153002 then (if x154001 = x153001 then (some true) else (lapidaryref10_joined.l1 k x2 x7 (wrap64 (x8 + 1)) x153000 x153001 x153002 x154000 x154001 x154002)) else (lapidaryref10_joined.l1 k x2 x7 (wrap64 (x8 + 1)) x153000 x153001 x153002 x154000 x154001 x154002)) else (if x8 = 1 then (if x154001 = x153002 then (if x154002 = x153001 then (some true) else (lapidaryref10_joined.l1 k x2 x7 (wrap64 (x8 + 1)) x153000 x153001 x153002 x154000 x154001 x154002)) else (lapidaryref10_joined.l1 k x2 x7 (wrap64 (x8 + 1)) x153000 x153001 x153002 x154000 x154001 x154002)) else (if x8 = 2 then (if x154002 = x153002 then (if x154000 = x153001 then (some true) else (lapidaryref10_joined.l1 k x2 x7 (wrap64 (x8 + 1)) x153000 x153001 x153002 x154000 x154001 x154002)) else (lapidaryref10_joined.l1 k x2 x7 (wrap64 (x8 + 1)) x153000 x153001 x153002 x154000 x154001 x154002)) else (none)))) else (if x153002 = x2 then (if x8 = 0 then (if x154000 = x153002 then (if x154001 = x153001 then (some true) else (lapidaryref10_joined.l1 k x2 x7 (wrap64 (x8 + 1)) x153000 x153001 x153002 x154000 x154001 x154002)) else (lapidaryref10_joined.l1 k x2 x7 (wrap64 (x8 + 1)) x153000 x153001 x153002 x154000 x154001 x154002)) else (if x8 = 1 then (if x154001 = x153002 then (if x154002 = x153001 then (some true) else (lapidaryref10_joined.l1 k x2 x7 (wrap64 (x8 + 1)) x153000 x153001 x153002 x154000 x154001 x154002)) else (lapidaryref10_joined.l1 k x2 x7 (wrap64 (x8 + 1)) x153000 x153001 x153002 x154000 x154001 x154002)) else (if x8 = 2 then (if x154002 = x153002 then (if x154000 = x153001 then (some true) else (lapidaryref10_joined.l1 k x2 x7 (wrap64 (x8 + 1)) x153000 x153001 x153002 x154000 x154001 x154002)) else (lapidaryref10_joined.l1 k x2 x7 (wrap64 (x8 + 1)) x153000 x153001 x153002 x154000 x154001 x154002)) else (none)))) else (lapidaryref10_joined.l1 k x2 x7 (wrap64 (x8 + 1)) x153000 x153001 x153002 x154000 x154001 x154002))) else (if x7 = 2 then (if x153002 = x2 then (if x8 = 0 then (if x154000 = x153000 then (if x154001 = x153002 then (some true) else (lapidaryref10_joined.l1 k x2 x7 (wrap64 (x8 + 1)) x153000 x153001 x153002 x154000 x154001 x154002)) else (lapidaryref10_joined.l1 k x2 x7 (wrap64 (x8 + 1)) x153000 x153001 x153002 x154000 x154001 x154002)) else (if x8 = 1 then (if x154001 = x153000 then (if x154002 = x153002 then (some true) else (lapidaryref10_joined.l1 k x2 x7 (wrap64 (x8 + 1)) x153000 x153001 x153002 x154000 x154001 x154002)) else (lapidaryref10_joined.l1 k x2 x7 (wrap64 (x8 + 1)) x153000 x153001 x153002 x154000 x154001 x154002)) else (if x8 = 2 then (if x154002 = x153000 then (if x154000 = x153002 then (some true) else (lapidaryref10_joined.l1 k x2 x7 (wrap64 (x8 + 1)) x153000 x153001 x153002 x154000 x154001 x154002)) else (lapidaryref10_joined.l1 k x2 x7 (wrap64 (x8 + 1)) x153000 x153001 x153002 x154000 x154001 x154002)) else (none)))) else (if x153000 = x2 then (if x8 = 0 then (if x154000 = x153000 then (if x154001 = x153002 then (some true) else (lapidaryref10_joined.l1 k x2 x7 (wrap64 (x8 + 1)) x153000 x153001 x153002 x154000 x154001 x154002)) else (lapidaryref10_joined.l1 k x2 x7 (wrap64 (x8 + 1)) x153000 x153001 x153002 x154000 x154001 x154002)) else (if x8 = 1 then (if x154001 = x153000 then (if x154002 = x153002 then (some true) else (lapidaryref10_joined.l1 k x2 x7 (wrap64 (x8 + 1)) x153000 x153001 x153002 x154000 x154001 x154002)) else (lapidaryref10_joined.l1 k x2 x7 (wrap64 (x8 + 1)) x153000 x153001 x153002 x154000 x154001 x154002)) else (if x8 = 2 then (if x154002 = x153000 then (if x154000 = x153002 then (some true) else (lapidaryref10_joined.l1 k x2 x7 (wrap64 (x8 + 1)) x153000 x153001 x153002 x154000 x154001 x154002)) else (lapidaryref10_joined.l1 k x2 x7 (wrap64 (x8 + 1)) x153000 x153001 x153002 x154000 x154001 x154002)) else (none)))) else (lapidaryref10_joined.l1 k x2 x7 (wrap64 (x8 + 1)) x153000 x153001 x153002 x154000 x154001 x154002))) else (none)))) else (lapidaryref10_joined.l0 k x2 (wrap64 (x7 + 1)) x153000 x153001 x153002 x154000 x154001 x154002)
end
def lapidaryref10_joined.f (k : Nat) (a0_0 : Int) (a0_1 : Int) (a0_2 : Int) (a1_0 : Int) (a1_1 : Int) (a1_2 : Int) (a2 : Int) : Option (Bool) := lapidaryref10_joined.l0 k a2 0 a0_0 a0_1 a0_2 a1_0 a1_1 a1_2
theorem lapidaryref10_joined.mono_l : ∀ k, (∀ y0 y1 y2 y3 y4 y5 y6 y7, LeO (lapidaryref10_joined.l0 k y0 y1 y2 y3 y4 y5 y6 y7) (lapidaryref10_joined.l0 (k + 1) y0 y1 y2 y3 y4 y5 y6 y7)) ∧ (∀ y0 y1 y2 y3 y4 y5 y6 y7 y8, LeO (lapidaryref10_joined.l1 k y0 y1 y2 y3 y4 y5 y6 y7 y8) (lapidaryref10_joined.l1 (k + 1) y0 y1 y2 y3 y4 y5 y6 y7 y8))
  | 0 => ⟨fun _ _ _ _ _ _ _ _ r h => by simp [lapidaryref10_joined.l0] at h, fun _ _ _ _ _ _ _ _ _ r h => by simp [lapidaryref10_joined.l1] at h⟩
  | k + 1 => by
    obtain ⟨ih0, ih1⟩ := lapidaryref10_joined.mono_l k
    refine ⟨?_, ?_⟩
    · intro y0 y1 y2 y3 y4 y5 y6 y7
      unfold lapidaryref10_joined.l0
      repeat' first
      | (with_reducible exact ih0 _ _ _ _ _ _ _ _)
      | (with_reducible exact ih1 _ _ _ _ _ _ _ _ _)
      | (with_reducible exact LeO.refl _)
      | (with_reducible exact LeO.none _)
      | (with_reducible refine LeO.ite ?_ ?_)
      | (with_reducible refine LeO.bind ?_ (fun _ => ?_))
      | exact ih0 _ _ _ _ _ _ _ _
      | exact ih1 _ _ _ _ _ _ _ _ _
      | exact LeO.none _
      | refine LeO.ite ?_ ?_
      | refine LeO.bind ?_ (fun _ => ?_)
    · intro y0 y1 y2 y3 y4 y5 y6 y7 y8
      unfold lapidaryref10_joined.l1
      repeat' first
      | (with_reducible exact ih0 _ _ _ _ _ _ _ _)
      | (with_reducible exact ih1 _ _ _ _ _ _ _ _ _)
      | (with_reducible exact LeO.refl _)
      | (with_reducible exact LeO.none _)
      | (with_reducible refine LeO.ite ?_ ?_)
      | (with_reducible refine LeO.bind ?_ (fun _ => ?_))
      | exact ih0 _ _ _ _ _ _ _ _
      | exact ih1 _ _ _ _ _ _ _ _ _
      | exact LeO.none _
      | refine LeO.ite ?_ ?_
      | refine LeO.bind ?_ (fun _ => ?_)
theorem lapidaryref10_joined.mono : ∀ a0 a1 a2 a3 a4 a5 a6 k, LeO (lapidaryref10_joined.f k a0 a1 a2 a3 a4 a5 a6) (lapidaryref10_joined.f (k + 1) a0 a1 a2 a3 a4 a5 a6) := by
  intro a0 a1 a2 a3 a4 a5 a6 k
  obtain ⟨ih0, ih1⟩ := lapidaryref10_joined.mono_l k
  unfold lapidaryref10_joined.f
  repeat' first
      | (with_reducible exact ih0 _ _ _ _ _ _ _ _)
      | (with_reducible exact ih1 _ _ _ _ _ _ _ _ _)
      | (with_reducible exact LeO.refl _)
      | (with_reducible exact LeO.none _)
      | (with_reducible refine LeO.ite ?_ ?_)
      | (with_reducible refine LeO.bind ?_ (fun _ => ?_))
      | exact ih0 _ _ _ _ _ _ _ _
      | exact ih1 _ _ _ _ _ _ _ _ _
      | exact LeO.none _
      | refine LeO.ite ?_ ?_
      | refine LeO.bind ?_ (fun _ => ?_)
end Go.Proofs.YtomknjmgcbbjlaaDoor.PWlk
