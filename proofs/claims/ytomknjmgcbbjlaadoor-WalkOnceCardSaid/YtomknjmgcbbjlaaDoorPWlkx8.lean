import Derived.Test.YtomknjmgcbbjlaaDoorPWlkx0
import Derived.Test.YtomknjmgcbbjlaaDoorPWlkx7
namespace Go.Proofs.YtomknjmgcbbjlaaDoor.PWlk
open Go Go.RowKit Go.Proofs.YtomknjmgcbbjlaaDoorW.PrintWords Go.Proofs.YtomknjmgcbbjlaaDoorW.PrintLast Go.Proofs.YtomknjmgcbbjlaaDoorW.PrintMore
attribute [local go_sem] max2_int min2_int max_two min_two max_three min_three max_four min_four
set_option linter.unusedVariables false
set_option maxRecDepth 100000
set_option linter.unusedSimpArgs false
attribute [local go_sem] idx47_0_0 idx47_1_0 idx47_2_0 idx107_0_0 idx107_1_0
mutual
def lapidaryref10_one.l0 : Nat → List (S47) → Int → List Int → Int → Option (Bool)
  | 0, _, _, _, _ => none
  | k + 1, x0, x1, x5, x6 => if x6 < (x0.length : Int) then (if 0 ≤ x6 then (if ((rd_T47 x0 x6).f0) = x1 then (if x5.length < 17592186044416 then (lapidaryref10_one.l0 k x0 x1 (x5 ++ [x6]) (wrap64 (x6 + 1))) else (none)) else (if ((rd_T47 x0 x6).f1) = x1 then (if x5.length < 17592186044416 then (lapidaryref10_one.l0 k x0 x1 (x5 ++ [x6]) (wrap64 (x6 + 1))) else (none)) else (if ((rd_T47 x0 x6).f2) = x1 then (if x5.length < 17592186044416 then (lapidaryref10_one.l0 k x0 x1 (x5 ++ [x6]) (wrap64 (x6 + 1))) else (none)) else (lapidaryref10_one.l0 k x0 x1 x5 (wrap64 (x6 + 1)))))) else (none)) else (if (x5.length : Int) = 0 then (some false) else (if 0 ≤ (x5.length : Int) then (if ((x5.length : Int) : Int).toNat ≤ 281474976710656 then ((some (List.replicate ((x5.length : Int) : Int).toNat false : List Bool)).bind fun y166 => (if 0 < (y166.length : Int) then (lapidaryref10_one.l1 k x0 x1 x5 (y166.set (0 : Int).toNat true) 1 true) else (none))) else (none)) else (none)))
def lapidaryref10_one.l1 : Nat → List (S47) → Int → List Int → List Bool → Int → Bool → Option (Bool)
  | 0, _, _, _, _, _, _ => none
  | k + 1, x0, x1, x5, x7, x8, x9 => if x9 = true then (lapidaryref10_one.l2 k x0 x1 x5 x7 x8 false 0) else (some (x8 == (x5.length : Int)))
def lapidaryref10_one.l2 : Nat → List (S47) → Int → List Int → List Bool → Int → Bool → Int → Option (Bool)
  | 0, _, _, _, _, _, _, _ => none
  | k + 1, x0, x1, x5, x7, x8, x9, x10 => if x10 < (x5.length : Int) then (lapidaryref10_one.l3 k x0 x1 x5 x7 x8 x9 x10 0) else (lapidaryref10_one.l1 k x0 x1 x5 x7 x8 x9)
def lapidaryref10_one.l3 : Nat → List (S47) → Int → List Int → List Bool → Int → Bool → Int → Int → Option (Bool)
  | 0, _, _, _, _, _, _, _, _ => none
  | k + 1, x0, x1, x5, x7, x8, x9, x10, x11 => if x11 < (x5.length : Int) then (if 0 ≤ x10 then (if x10 < (x7.length : Int) then (lapidaryref10_one.j4 k x0 x1 x5 x7 x8 x9 x10 x11 (!(rdOf false x7 x10))) else (none)) else (none)) else (lapidaryref10_one.j4 k x0 x1 x5 x7 x8 x9 x10 x11 false)
def lapidaryref10_one.j4 : Nat → List (S47) → Int → List Int → List Bool → Int → Bool → Int → Int → Bool → Option (Bool)
  | 0, _, _, _, _, _, _, _, _, _ => none
  | k + 1, x0, x1, x5, x7, x8, x9, x10, x11, x72 => if x72 = true then (if 0 ≤ x11 then (if x11 < (x7.length : Int) then (if rdOf false x7 x11 = true then (if 0 ≤ x10 then (if x10 < (x5.length : Int) then (if 0 ≤ (rd x5 x10) then (if (rd x5 x10) < (x0.length : Int) then (if x11 < (x5.length : Int) then (if 0 ≤ (rd x5 x11) then (if (rd x5 x11) < (x0.length : Int) then ((lapidaryref10_joined.f k ((rd_T47 x0 (rd x5 x10)).f0) ((rd_T47 x0 (rd x5 x10)).f1) ((rd_T47 x0 (rd x5 x10)).f2) ((rd_T47 x0 (rd x5 x11)).f0) ((rd_T47 x0 (rd x5 x11)).f1) ((rd_T47 x0 (rd x5 x11)).f2) x1).bind fun t176 => (if t176 = true then (if x10 < (x7.length : Int) then (lapidaryref10_one.l3 k x0 x1 x5 (x7.set (x10 : Int).toNat true) (wrap64 (x8 + 1)) true x10 (wrap64 (x11 + 1))) else (none)) else (lapidaryref10_one.l3 k x0 x1 x5 x7 x8 x9 x10 (wrap64 (x11 + 1))))) else (none)) else (none)) else (none)) else (none)) else (none)) else (none)) else (none)) else (lapidaryref10_one.l3 k x0 x1 x5 x7 x8 x9 x10 (wrap64 (x11 + 1)))) else (none)) else (none)) else (lapidaryref10_one.l2 k x0 x1 x5 x7 x8 x9 (wrap64 (x10 + 1)))
end
def lapidaryref10_one.f (k : Nat) (l0 : List (S47)) (a1 : Int) : Option (Bool) := lapidaryref10_one.l0 k l0 a1 ([] : List Int) 0
theorem lapidaryref10_one.mono_l : ∀ k, (∀ y0 y1 y2 y3, LeO (lapidaryref10_one.l0 k y0 y1 y2 y3) (lapidaryref10_one.l0 (k + 1) y0 y1 y2 y3)) ∧ (∀ y0 y1 y2 y3 y4 y5, LeO (lapidaryref10_one.l1 k y0 y1 y2 y3 y4 y5) (lapidaryref10_one.l1 (k + 1) y0 y1 y2 y3 y4 y5)) ∧ (∀ y0 y1 y2 y3 y4 y5 y6, LeO (lapidaryref10_one.l2 k y0 y1 y2 y3 y4 y5 y6) (lapidaryref10_one.l2 (k + 1) y0 y1 y2 y3 y4 y5 y6)) ∧ (∀ y0 y1 y2 y3 y4 y5 y6 y7, LeO (lapidaryref10_one.l3 k y0 y1 y2 y3 y4 y5 y6 y7) (lapidaryref10_one.l3 (k + 1) y0 y1 y2 y3 y4 y5 y6 y7)) ∧ (∀ y0 y1 y2 y3 y4 y5 y6 y7 y8, LeO (lapidaryref10_one.j4 k y0 y1 y2 y3 y4 y5 y6 y7 y8) (lapidaryref10_one.j4 (k + 1) y0 y1 y2 y3 y4 y5 y6 y7 y8))
  | 0 => ⟨fun _ _ _ _ r h => by simp [lapidaryref10_one.l0] at h, fun _ _ _ _ _ _ r h => by simp [lapidaryref10_one.l1] at h, fun _ _ _ _ _ _ _ r h => by simp [lapidaryref10_one.l2] at h, fun _ _ _ _ _ _ _ _ r h => by simp [lapidaryref10_one.l3] at h, fun _ _ _ _ _ _ _ _ _ r h => by simp [lapidaryref10_one.j4] at h⟩
  | k + 1 => by
    obtain ⟨ih0, ih1, ih2, ih3, ih4⟩ := lapidaryref10_one.mono_l k
    refine ⟨?_, ?_, ?_, ?_, ?_⟩
    · intro y0 y1 y2 y3
      unfold lapidaryref10_one.l0
      repeat' first
      | (with_reducible exact ih0 _ _ _ _)
      | (with_reducible exact ih1 _ _ _ _ _ _)
      | (with_reducible exact ih2 _ _ _ _ _ _ _)
      | (with_reducible exact ih3 _ _ _ _ _ _ _ _)
      | (with_reducible exact ih4 _ _ _ _ _ _ _ _ _)
      | (with_reducible exact lapidaryref10_joined.mono _ _ _ _ _ _ _ _)
      | (with_reducible exact LeO.refl _)
      | (with_reducible exact LeO.none _)
      | (with_reducible refine LeO.ite ?_ ?_)
      | (with_reducible refine LeO.bind ?_ (fun _ => ?_))
      | exact ih0 _ _ _ _
      | exact ih1 _ _ _ _ _ _
      | exact ih2 _ _ _ _ _ _ _
      | exact ih3 _ _ _ _ _ _ _ _
      | exact ih4 _ _ _ _ _ _ _ _ _
      | exact lapidaryref10_joined.mono _ _ _ _ _ _ _ _
      | exact LeO.none _
      | refine LeO.ite ?_ ?_
      | refine LeO.bind ?_ (fun _ => ?_)
    · intro y0 y1 y2 y3 y4 y5
      unfold lapidaryref10_one.l1
      repeat' first
      | (with_reducible exact ih0 _ _ _ _)
      | (with_reducible exact ih1 _ _ _ _ _ _)
      | (with_reducible exact ih2 _ _ _ _ _ _ _)
      | (with_reducible exact ih3 _ _ _ _ _ _ _ _)
      | (with_reducible exact ih4 _ _ _ _ _ _ _ _ _)
      | (with_reducible exact lapidaryref10_joined.mono _ _ _ _ _ _ _ _)
      | (with_reducible exact LeO.refl _)
      | (with_reducible exact LeO.none _)
      | (with_reducible refine LeO.ite ?_ ?_)
      | (with_reducible refine LeO.bind ?_ (fun _ => ?_))
      | exact ih0 _ _ _ _
      | exact ih1 _ _ _ _ _ _
      | exact ih2 _ _ _ _ _ _ _
      | exact ih3 _ _ _ _ _ _ _ _
      | exact ih4 _ _ _ _ _ _ _ _ _
      | exact lapidaryref10_joined.mono _ _ _ _ _ _ _ _
      | exact LeO.none _
      | refine LeO.ite ?_ ?_
      | refine LeO.bind ?_ (fun _ => ?_)
    · intro y0 y1 y2 y3 y4 y5 y6
      unfold lapidaryref10_one.l2
      repeat' first
      | (with_reducible exact ih0 _ _ _ _)
      | (with_reducible exact ih1 _ _ _ _ _ _)
      | (with_reducible exact ih2 _ _ _ _ _ _ _)
      | (with_reducible exact ih3 _ _ _ _ _ _ _ _)
      | (with_reducible exact ih4 _ _ _ _ _ _ _ _ _)
      | (with_reducible exact lapidaryref10_joined.mono _ _ _ _ _ _ _ _)
      | (with_reducible exact LeO.refl _)
      | (with_reducible exact LeO.none _)
      | (with_reducible refine LeO.ite ?_ ?_)
      | (with_reducible refine LeO.bind ?_ (fun _ => ?_))
      | exact ih0 _ _ _ _
      | exact ih1 _ _ _ _ _ _
      | exact ih2 _ _ _ _ _ _ _
      | exact ih3 _ _ _ _ _ _ _ _
      | exact ih4 _ _ _ _ _ _ _ _ _
      | exact lapidaryref10_joined.mono _ _ _ _ _ _ _ _
      | exact LeO.none _
      | refine LeO.ite ?_ ?_
      | refine LeO.bind ?_ (fun _ => ?_)
    · intro y0 y1 y2 y3 y4 y5 y6 y7
      unfold lapidaryref10_one.l3
      repeat' first
      | (with_reducible exact ih0 _ _ _ _)
      | (with_reducible exact ih1 _ _ _ _ _ _)
      | (with_reducible exact ih2 _ _ _ _ _ _ _)
      | (with_reducible exact ih3 _ _ _ _ _ _ _ _)
      | (with_reducible exact ih4 _ _ _ _ _ _ _ _ _)
      | (with_reducible exact lapidaryref10_joined.mono _ _ _ _ _ _ _ _)
      | (with_reducible exact LeO.refl _)
      | (with_reducible exact LeO.none _)
      | (with_reducible refine LeO.ite ?_ ?_)
      | (with_reducible refine LeO.bind ?_ (fun _ => ?_))
      | exact ih0 _ _ _ _
      | exact ih1 _ _ _ _ _ _
      | exact ih2 _ _ _ _ _ _ _
      | exact ih3 _ _ _ _ _ _ _ _
      | exact ih4 _ _ _ _ _ _ _ _ _
      | exact lapidaryref10_joined.mono _ _ _ _ _ _ _ _
      | exact LeO.none _
      | refine LeO.ite ?_ ?_
      | refine LeO.bind ?_ (fun _ => ?_)
    · intro y0 y1 y2 y3 y4 y5 y6 y7 y8
      unfold lapidaryref10_one.j4
      repeat' first
      | (with_reducible exact ih0 _ _ _ _)
      | (with_reducible exact ih1 _ _ _ _ _ _)
      | (with_reducible exact ih2 _ _ _ _ _ _ _)
      | (with_reducible exact ih3 _ _ _ _ _ _ _ _)
      | (with_reducible exact ih4 _ _ _ _ _ _ _ _ _)
      | (with_reducible exact lapidaryref10_joined.mono _ _ _ _ _ _ _ _)
      | (with_reducible exact LeO.refl _)
      | (with_reducible exact LeO.none _)
      | (with_reducible refine LeO.ite ?_ ?_)
      | (with_reducible refine LeO.bind ?_ (fun _ => ?_))
      | exact ih0 _ _ _ _
      | exact ih1 _ _ _ _ _ _
      | exact ih2 _ _ _ _ _ _ _
      | exact ih3 _ _ _ _ _ _ _ _
      | exact ih4 _ _ _ _ _ _ _ _ _
      | exact lapidaryref10_joined.mono _ _ _ _ _ _ _ _
      | exact LeO.none _
      | refine LeO.ite ?_ ?_
      | refine LeO.bind ?_ (fun _ => ?_)
theorem lapidaryref10_one.mono : ∀ a0 a1 k, LeO (lapidaryref10_one.f k a0 a1) (lapidaryref10_one.f (k + 1) a0 a1) := by
  intro a0 a1 k
  obtain ⟨ih0, ih1, ih2, ih3, ih4⟩ := lapidaryref10_one.mono_l k
  unfold lapidaryref10_one.f
  repeat' first
      | (with_reducible exact ih0 _ _ _ _)
      | (with_reducible exact ih1 _ _ _ _ _ _)
      | (with_reducible exact ih2 _ _ _ _ _ _ _)
      | (with_reducible exact ih3 _ _ _ _ _ _ _ _)
      | (with_reducible exact ih4 _ _ _ _ _ _ _ _ _)
      | (with_reducible exact lapidaryref10_joined.mono _ _ _ _ _ _ _ _)
      | (with_reducible exact LeO.refl _)
      | (with_reducible exact LeO.none _)
      | (with_reducible refine LeO.ite ?_ ?_)
      | (with_reducible refine LeO.bind ?_ (fun _ => ?_))
      | exact ih0 _ _ _ _
      | exact ih1 _ _ _ _ _ _
      | exact ih2 _ _ _ _ _ _ _
      | exact ih3 _ _ _ _ _ _ _ _
      | exact ih4 _ _ _ _ _ _ _ _ _
      | exact lapidaryref10_joined.mono _ _ _ _ _ _ _ _
      | exact LeO.none _
      | refine LeO.ite ?_ ?_
      | refine LeO.bind ?_ (fun _ => ?_)
end Go.Proofs.YtomknjmgcbbjlaaDoor.PWlk
