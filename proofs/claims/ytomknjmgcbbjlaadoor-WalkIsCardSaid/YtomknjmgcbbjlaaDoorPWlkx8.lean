import Derived.Test.YtomknjmgcbbjlaaDoorPWlkx0
import Derived.Test.YtomknjmgcbbjlaaDoorPWlkx7
namespace Go.Proofs.YtomknjmgcbbjlaaDoor.PWlk
open Go Go.RowKit Go.Proofs.YtomknjmgcbbjlaaDoorW.PrintWords Go.Proofs.YtomknjmgcbbjlaaDoorW.PrintLast Go.Proofs.YtomknjmgcbbjlaaDoorW.PrintMore
attribute [local go_sem] max2_int min2_int max_two min_two max_three min_three max_four min_four
set_option linter.unusedVariables false
set_option maxRecDepth 100000
set_option linter.unusedSimpArgs false
attribute [local go_sem] idx47_0_0 idx47_1_0 idx47_2_0 idx107_0_0 idx107_1_0
theorem sAx8 {α : Type _} {l : List α} {i : Nat} {a : α} : l.toArray.setIfInBounds i a = (l.set i a).toArray := List.setIfInBounds_toArray ..
theorem sBx8 {α : Type _} {x y : α} {l : List α} : (x :: l).set 0 y = y :: l := rfl
theorem sCx8 {α : Type _} {x y : α} {l : List α} {i : Nat} : (x :: l).set (i + 1) y = x :: l.set i y := rfl
theorem aMx8 {p : Prop} (h : p) : Aside0 p := ⟨h⟩
mutual
def lapidaryref10_one.l0 : Nat → List (S47) → Int → List Int → Int → Option (Bool)
  | 0, _, _, _, _ => none
  | k + 1, x0, x1, x5, x6 => if x6 < (x0.length : Int) then (if 0 ≤ x6 then (if ((rd_T47 x0 x6).f0) = x1 then (if x5.length < 17592186044416 then (lapidaryref10_one.l0 k x0 x1 (x5 ++ [x6]) (wrap64 (x6 + 1))) else (none)) else (if ((rd_T47 x0 x6).f1) = x1 then (if x5.length < 17592186044416 then (lapidaryref10_one.l0 k x0 x1 (x5 ++ [x6]) (wrap64 (x6 + 1))) else (none)) else (if ((rd_T47 x0 x6).f2) = x1 then (if x5.length < 17592186044416 then (lapidaryref10_one.l0 k x0 x1 (x5 ++ [x6]) (wrap64 (x6 + 1))) else (none)) else (lapidaryref10_one.l0 k x0 x1 x5 (wrap64 (x6 + 1)))))) else (none)) else (if (x5.length : Int) = 0 then (some false) else (if 0 ≤ (x5.length : Int) then (if ((x5.length : Int) : Int).toNat ≤ 281474976710656 then ((some (List.replicate ((x5.length : Int) : Int).toNat false : List Bool)).bind fun y166 => (if 0 < (y166.length : Int) then (lapidaryref10_one.l1 k x0 x1 x5 (y166.set (0 : Int).toNat true) 1 true) else (none))) else (none)) else (none)))
def lapidaryref10_one.l1 : Nat → List (S47) → Int → List Int → List Bool → Int → Bool → Option (Bool)
  | 0, _, _, _, _, _, _ => none
  | k + 1, x0, x1, x5, x7, x8, x9 => if x9 = true then (lapidaryref10_one.l2 k x0 x1 x5 x7 x8 false 0) else (some (x8 == (x5.length : Int)))
def lapidaryref10_one.l2 : Nat → List (S47) → Int → List Int → List Bool → Int → Bool → Int → Option (Bool)
  | 0, _, _, _, _, _, _, _ => none
  | k + 1, x0, x1, x5, x7, x8, x9, x10 => if x10 < (x5.length : Int) then (lapidaryref10_one.l3 k x0 x1 x5 x7 x8 x9 x10 0) else (lapidaryref10_one.l1 k x0 x1 x5 x7 x8 x9)
def lapidaryref10_one.l3 : Nat → List (S47) → Int → List Int → List Bool → Int → Bool → Int → Int → Option (Bool)
  | 0, _, _, _, _, _, _, _, _ => none
  | k + 1, x0, x1, x5, x7, x8, x9, x10, x11 => if x11 < (x5.length : Int) then (if 0 ≤ x10 then (if x10 < (x7.length : Int) then (lapidaryref10_one.j4 k x0 x1 x5 x7 x8 x9 x10 x11 (!(rdOf false x7 x10))) else (none)) else (none)) else (lapidaryref10_one.j4 k x0 x1 x5 x7 x8 x9 x10 x11 false)
def lapidaryref10_one.j4 : Nat → List (S47) → Int → List Int → List Bool → Int → Bool → Int → Int → Bool → Option (Bool)
  | 0, _, _, _, _, _, _, _, _, _ => none
  | k + 1, x0, x1, x5, x7, x8, x9, x10, x11, x72 => if x72 = true then (if 0 ≤ x11 then (if x11 < (x7.length : Int) then (if rdOf false x7 x11 = true then (if 0 ≤ x10 then (if x10 < (x5.length : Int) then (if 0 ≤ (rd x5 x10) then (if (rd x5 x10) < (x0.length : Int) then (if x11 < (x5.length : Int) then (if 0 ≤ (rd x5 x11) then (if (rd x5 x11) < (x0.length : Int) then ((lapidaryref10_joined.f k ((rd_T47 x0 (rd x5 x10)).f0) ((rd_T47 x0 (rd x5 x10)).f1) ((rd_T47 x0 (rd x5 x10)).f2) ((rd_T47 x0 (rd x5 x11)).f0) ((rd_T47 x0 (rd x5 x11)).f1) ((rd_T47 x0 (rd x5 x11)).f2) x1).bind fun t176 => (if t176 = true then (if x10 < (x7.length : Int) then (lapidaryref10_one.l3 k x0 x1 x5 (x7.set (x10 : Int).toNat true) (wrap64 (x8 + 1)) true x10 (wrap64 (x11 + 1))) else (none)) else (lapidaryref10_one.l3 k x0 x1 x5 x7 x8 x9 x10 (wrap64 (x11 + 1))))) else (none)) else (none)) else (none)) else (none)) else (none)) else (none)) else (none)) else (lapidaryref10_one.l3 k x0 x1 x5 x7 x8 x9 x10 (wrap64 (x11 + 1)))) else (none)) else (none)) else (lapidaryref10_one.l2 k x0 x1 x5 x7 x8 x9 (wrap64 (x10 + 1)))
end
def lapidaryref10_one.f (k : Nat) (l0 : List (S47)) (a1 : Int) : Option (Bool) := lapidaryref10_one.l0 k l0 a1 ([] : List Int) 0
theorem lapidaryref10_one.mono_l : ∀ k, (∀ y0 y1 y2 y3, LeO (lapidaryref10_one.l0 k y0 y1 y2 y3) (lapidaryref10_one.l0 (k + 1) y0 y1 y2 y3)) ∧ (∀ y0 y1 y2 y3 y4 y5, LeO (lapidaryref10_one.l1 k y0 y1 y2 y3 y4 y5) (lapidaryref10_one.l1 (k + 1) y0 y1 y2 y3 y4 y5)) ∧ (∀ y0 y1 y2 y3 y4 y5 y6, LeO (lapidaryref10_one.l2 k y0 y1 y2 y3 y4 y5 y6) (lapidaryref10_one.l2 (k + 1) y0 y1 y2 y3 y4 y5 y6)) ∧ (∀ y0 y1 y2 y3 y4 y5 y6 y7, LeO (lapidaryref10_one.l3 k y0 y1 y2 y3 y4 y5 y6 y7) (lapidaryref10_one.l3 (k + 1) y0 y1 y2 y3 y4 y5 y6 y7)) ∧ (∀ y0 y1 y2 y3 y4 y5 y6 y7 y8, LeO (lapidaryref10_one.j4 k y0 y1 y2 y3 y4 y5 y6 y7 y8) (lapidaryref10_one.j4 (k + 1) y0 y1 y2 y3 y4 y5 y6 y7 y8))
  | 0 => ⟨fun _ _ _ _ r h => by simp [lapidaryref10_one.l0] at h, fun _ _ _ _ _ _ r h => by simp [lapidaryref10_one.l1] at h, fun _ _ _ _ _ _ _ r h => by simp [lapidaryref10_one.l2] at h, fun _ _ _ _ _ _ _ _ r h => by simp [lapidaryref10_one.l3] at h, fun _ _ _ _ _ _ _ _ _ r h => by simp [lapidaryref10_one.j4] at h⟩
  | k + 1 => by
    obtain ⟨ih0, ih1, ih2, ih3, ih4⟩ := lapidaryref10_one.mono_l k
    refine ⟨?_, ?_, ?_, ?_, ?_⟩
    · intro y0 y1 y2 y3
      unfold lapidaryref10_one.l0
      repeat' first
      | (with_reducible exact ih0 _ _ _ _)
      | (with_reducible exact ih1 _ _ _ _ _ _)
      | (with_reducible exact ih2 _ _ _ _ _ _ _)
      | (with_reducible exact ih3 _ _ _ _ _ _ _ _)
      | (with_reducible exact ih4 _ _ _ _ _ _ _ _ _)
      | (with_reducible exact lapidaryref10_joined.mono _ _ _ _ _ _ _ _)
      | (with_reducible exact LeO.refl _)
      | (with_reducible exact LeO.none _)
      | (with_reducible refine LeO.ite ?_ ?_)
      | (with_reducible refine LeO.bind ?_ (fun _ => ?_))
      | exact ih0 _ _ _ _
      | exact ih1 _ _ _ _ _ _
      | exact ih2 _ _ _ _ _ _ _
      | exact ih3 _ _ _ _ _ _ _ _
      | exact ih4 _ _ _ _ _ _ _ _ _
      | exact lapidaryref10_joined.mono _ _ _ _ _ _ _ _
      | exact LeO.none _
      | refine LeO.ite ?_ ?_
      | refine LeO.bind ?_ (fun _ => ?_)
    · intro y0 y1 y2 y3 y4 y5
      unfold lapidaryref10_one.l1
      repeat' first
      | (with_reducible exact ih0 _ _ _ _)
      | (with_reducible exact ih1 _ _ _ _ _ _)
      | (with_reducible exact ih2 _ _ _ _ _ _ _)
      | (with_reducible exact ih3 _ _ _ _ _ _ _ _)
      | (with_reducible exact ih4 _ _ _ _ _ _ _ _ _)
      | (with_reducible exact lapidaryref10_joined.mono _ _ _ _ _ _ _ _)
      | (with_reducible exact LeO.refl _)
      | (with_reducible exact LeO.none _)
      | (with_reducible refine LeO.ite ?_ ?_)
      | (with_reducible refine LeO.bind ?_ (fun _ => ?_))
      | exact ih0 _ _ _ _
      | exact ih1 _ _ _ _ _ _
      | exact ih2 _ _ _ _ _ _ _
      | exact ih3 _ _ _ _ _ _ _ _
      | exact ih4 _ _ _ _ _ _ _ _ _
      | exact lapidaryref10_joined.mono _ _ _ _ _ _ _ _
      | exact LeO.none _
      | refine LeO.ite ?_ ?_
      | refine LeO.bind ?_ (fun _ => ?_)
    · intro y0 y1 y2 y3 y4 y5 y6
      unfold lapidaryref10_one.l2
      repeat' first
      | (with_reducible exact ih0 _ _ _ _)
      | (with_reducible exact ih1 _ _ _ _ _ _)
      | (with_reducible exact ih2 _ _ _ _ _ _ _)
      | (with_reducible exact ih3 _ _ _ _ _ _ _ _)
      | (with_reducible exact ih4 _ _ _ _ _ _ _ _ _)
      | (with_reducible exact lapidaryref10_joined.mono _ _ _ _ _ _ _ _)
      | (with_reducible exact LeO.refl _)
      | (with_reducible exact LeO.none _)
      | (with_reducible refine LeO.ite ?_ ?_)
      | (with_reducible refine LeO.bind ?_ (fun _ => ?_))
      | exact ih0 _ _ _ _
      | exact ih1 _ _ _ _ _ _
      | exact ih2 _ _ _ _ _ _ _
      | exact ih3 _ _ _ _ _ _ _ _
      | exact ih4 _ _ _ _ _ _ _ _ _
      | exact lapidaryref10_joined.mono _ _ _ _ _ _ _ _
      | exact LeO.none _
      | refine LeO.ite ?_ ?_
      | refine LeO.bind ?_ (fun _ => ?_)
    · intro y0 y1 y2 y3 y4 y5 y6 y7
      unfold lapidaryref10_one.l3
      repeat' first
      | (with_reducible exact ih0 _ _ _ _)
      | (with_reducible exact ih1 _ _ _ _ _ _)
      | (with_reducible exact ih2 _ _ _ _ _ _ _)
      | (with_reducible exact ih3 _ _ _ _ _ _ _ _)
      | (with_reducible exact ih4 _ _ _ _ _ _ _ _ _)
      | (with_reducible exact lapidaryref10_joined.mono _ _ _ _ _ _ _ _)
      | (with_reducible exact LeO.refl _)
      | (with_reducible exact LeO.none _)
      | (with_reducible refine LeO.ite ?_ ?_)
      | (with_reducible refine LeO.bind ?_ (fun _ => ?_))
      | exact ih0 _ _ _ _
      | exact ih1 _ _ _ _ _ _
      | exact ih2 _ _ _ _ _ _ _
      | exact ih3 _ _ _ _ _ _ _ _
      | exact ih4 _ _ _ _ _ _ _ _ _
      | exact lapidaryref10_joined.mono _ _ _ _ _ _ _ _
      | exact LeO.none _
      | refine LeO.ite ?_ ?_
      | refine LeO.bind ?_ (fun _ => ?_)
    · intro y0 y1 y2 y3 y4 y5 y6 y7 y8
      unfold lapidaryref10_one.j4
      repeat' first
      | (with_reducible exact ih0 _ _ _ _)
      | (with_reducible exact ih1 _ _ _ _ _ _)
      | (with_reducible exact ih2 _ _ _ _ _ _ _)
      | (with_reducible exact ih3 _ _ _ _ _ _ _ _)
      | (with_reducible exact ih4 _ _ _ _ _ _ _ _ _)
      | (with_reducible exact lapidaryref10_joined.mono _ _ _ _ _ _ _ _)
      | (with_reducible exact LeO.refl _)
      | (with_reducible exact LeO.none _)
      | (with_reducible refine LeO.ite ?_ ?_)
      | (with_reducible refine LeO.bind ?_ (fun _ => ?_))
      | exact ih0 _ _ _ _
      | exact ih1 _ _ _ _ _ _
      | exact ih2 _ _ _ _ _ _ _
      | exact ih3 _ _ _ _ _ _ _ _
      | exact ih4 _ _ _ _ _ _ _ _ _
      | exact lapidaryref10_joined.mono _ _ _ _ _ _ _ _
      | exact LeO.none _
      | refine LeO.ite ?_ ?_
      | refine LeO.bind ?_ (fun _ => ?_)
theorem lapidaryref10_one.mono : ∀ a0 a1 k, LeO (lapidaryref10_one.f k a0 a1) (lapidaryref10_one.f (k + 1) a0 a1) := by
  intro a0 a1 k
  obtain ⟨ih0, ih1, ih2, ih3, ih4⟩ := lapidaryref10_one.mono_l k
  unfold lapidaryref10_one.f
  repeat' first
      | (with_reducible exact ih0 _ _ _ _)
      | (with_reducible exact ih1 _ _ _ _ _ _)
      | (with_reducible exact ih2 _ _ _ _ _ _ _)
      | (with_reducible exact ih3 _ _ _ _ _ _ _ _)
      | (with_reducible exact ih4 _ _ _ _ _ _ _ _ _)
      | (with_reducible exact lapidaryref10_joined.mono _ _ _ _ _ _ _ _)
      | (with_reducible exact LeO.refl _)
      | (with_reducible exact LeO.none _)
      | (with_reducible refine LeO.ite ?_ ?_)
      | (with_reducible refine LeO.bind ?_ (fun _ => ?_))
      | exact ih0 _ _ _ _
      | exact ih1 _ _ _ _ _ _
      | exact ih2 _ _ _ _ _ _ _
      | exact ih3 _ _ _ _ _ _ _ _
      | exact ih4 _ _ _ _ _ _ _ _ _
      | exact lapidaryref10_joined.mono _ _ _ _ _ _ _ _
      | exact LeO.none _
      | refine LeO.ite ?_ ?_
      | refine LeO.bind ?_ (fun _ => ?_)
def lapidaryref10_one.T21 : Bool × List (List Nat × List Nat) := (true, [([], []), ([], []), ([0, 1], [0, 1]), ([2], [2]), ([3], [3]), ([4], [4]), ([4], [4]), ([4], [4]), ([6, 7, 4], [4, 6, 7]), ([8, 4], [4, 8]), ([5, 9, 4], [4, 5, 9]), ([10, 4], [4, 10]), ([4], [4]), ([4], [4]), ([4], [4]), ([13, 14, 4], [4, 13, 14]), ([15, 4], [4, 15]), ([12, 16, 4], [4, 12, 16]), ([17, 4], [4, 17]), ([4], [4]), ([11, 18, 19, 4, 4], [4, 11, 18, 19]), ([4, 20], [4, 20])])
def lapidaryref10_one.B21 : List Nat := [0, 0, 3, 7, 15, 31, 31, 31, 223, 479, 1023, 2047, 31, 31, 31, 24607, 57375, 127007, 258079, 31, 1048575, 2097151]
theorem lapidaryref10_one.tab21 : rtab .any (opsOf Tryd.f63 21) = lapidaryref10_one.T21 := by kernel_rfl
theorem lapidaryref10_one.bits21 : waitsOk lapidaryref10_one.T21.2 lapidaryref10_one.B21 = true := by kernel_rfl
set_option maxHeartbeats 8000000 in
set_option maxRecDepth 100000 in
theorem lapidaryref10_one.calls (k : Nat) (A0 : Option Addr) (c0 : Nat) (l0 : List (S47)) (a1 : Int) (r : Bool) (w : World) (hr0 : Kd.C k47 w A0 l0.length l0) (hc0 : l0.length ≤ c0) (h : lapidaryref10_one.f k l0 a1 = some r) :
  Calls Tryd.prog 63 #[.slice A0 l0.length c0,.int .i64 a1] w fun e w' => e = .returned (.bool r) ∧ Below w.heap.size w w':=by
 have hu47:=Tryd.underlying47
 have HR0:=aMx8 hr0
 have HC0:=aMx8 hc0
 clear hr0 hc0
 have HB:=aMx8 (Below.refl w.heap.size w)
 have H : (lapidaryref10_one.l0 k l0 a1 ([] : List Int) 0) = some r:=h
 clear h
 have H':=aMx8 H
 clear H
 go_enter Tryd.func63,Tryd.ntmps63
 go_wp2
 go_loopg [5,6] k (fun kq v5 v6 w' => ∃ (x5_1 : List Int) (x6_1 : Int),v6 = .int .i64 x6_1 ∧ Aside0 (lapidaryref10_one.l0 kq l0 a1 x5_1 x6_1 = some r) ∧ Aside0 (kq ≤ k) ∧ Aside0 (Kd.R (Kd.int .i64) 3 w' w.heap.size (fun _ => True) v5 x5_1) ∧ Aside0 (Below w.heap.size w w'))
 case atStart => exact ⟨(([] : List Int)),(0),(by first | rfl | (simp;done) | (simp [*];done) | (simp [wrap64];done)),H',⟨Nat.le_refl _⟩,⟨by first | exact Kd.R_nil _ _ _ _ _ | exact Kd.N_nil _ _ _ _ _ | exact Kd.V_nil _ _ _ _ _ | exact Kd.Q_nil _ _ _ _ _ | exact Kd.S_nil _ _ _ _ _⟩,⟨by repeat (first | (with_reducible first | exact HB.out | apply below_alloc | apply pw_below_drewN | apply below_drew1) | exact HB.out)⟩⟩
 case round =>
  clear H'
  try clear p2
  obtain ⟨x5_1,x6_1,rfl,HA,HK1,HO_5,HB⟩:=hrel
  cases gk with
  | zero => exact absurd HA.out (by simp [lapidaryref10_one.l0])
  | succ k1 =>
   have H:=HA.out
   clear HA
   simp only [lapidaryref10_one.l0] at H
   by_cases c3 : x6_1 < (l0.length : Int)
   ·rw [if_pos c3] at H
    have c3b0 : decide (x6_1 < (l0.length : Int)) = true:=decide_eq_true c3
    clear c3
    by_cases c4 : 0 ≤ x6_1
    ·rw [if_pos c4] at H
     have c4b0 : decide (0 ≤ x6_1) = true:=decide_eq_true c4
     clear c4
     by_cases c5 : ((rd_T47 l0 x6_1).f0) = a1
     ·rw [if_pos c5] at H
      have c5b0 : (((rd_T47 l0 x6_1).f0) == a1) = true:=beq_iff_eq.mpr c5
      have c5b1 : (((rd_T47 l0 x6_1).f0) != a1) = false:=bne_eq_false_iff_eq.mpr c5
      clear c5
      by_cases c6 : x5_1.length < 17592186044416
      ·rw [if_pos c6] at H
       have LMc6:=aMx8 c6
       clear c6
       obtain ⟨y155,hy155⟩ : ∃ y_ : List Int,y_ = (x5_1++[x6_1]):=⟨_,rfl⟩
       replace H : (lapidaryref10_one.l0 k1 l0 a1 y155 (wrap64 (x6_1+1))) = some r:=by first | (rw [hy155];with_reducible exact H) | (have H2_:=(Option.bind_some _ _).symm.trans H;rw [hy155];with_reducible exact H2_) | (have H2_:=(Option.bind_some _ _).symm.trans H;with_reducible exact H2_) | with_reducible exact H | (rw [hy155];exact H) | exact H
       have Ny155:=aMx8 hy155
       clear hy155
       have H':=aMx8 H
       clear H
       have p154 : 0 ≤ (x6_1 : Int):=of_decide_eq_true (by first | (with_reducible assumption) | assumption)
       have q154 : x6_1 < (l0.length : Int):=of_decide_eq_true (by first | (with_reducible assumption) | assumption)
       obtain ⟨ad154,e154,hx154_0,hx154_1,hx154_2⟩:=at_T47 HR0.out x6_1 p154 q154
       cases e154
       replace hx154_0:=(HB.out.cell (World.block_lt_of_cell? w _ hx154_0)).trans hx154_0
       replace hx154_1:=(HB.out.cell (World.block_lt_of_cell? w _ hx154_1)).trans hx154_1
       replace hx154_2:=(HB.out.cell (World.block_lt_of_cell? w _ hx154_2)).trans hx154_2
       replace p154:=eq_true p154
       replace q154:=eq_true q154
       go_wp2_with (first|((with_reducible refine gate_builtin (b:=.append) (xs:=#[.tmp 43,.tmp 45]) rfl ?_);at_builtin;refine Kd.R_append (Kd.int .i64) (w0:=w) w.heap.size rfl (.tmp 43) (.tmp 45) 32 3 (.int .i64 0) 8 rfl Tryd.underlying32 info3 rfl (by decide) (by omega) u5 x5_1 x6_1 [.int .i64 x6_1] (fun _ => True) (fun _ => False) rfl rfl ?aP (fun _ hk => hk.elim) ?aF ?aO ?aB ?aS ?aL ?_;(case aP => exact rfl);(case aB => exact (by repeat (with_reducible first|exact HB.out|apply below_alloc|apply pw_below_drewN|apply below_drew1)));(case aF => exact (fun _ _ => trivial));(case aO => exact (by (with_reducible repeat (first|apply Kd.R_alloc|apply Kd.R_drewN|apply Kd.R_drew));exact HO_5.out));(case aS => exact (below_size (by repeat (with_reducible first|exact HB.out|apply below_alloc|apply pw_below_drewN|apply below_drew1))));(case aL => have:=LMc6.out;omega);intro v156 w7 ho hb hg hat;rw [← Ny155.out] at ho;have n0_:=aMx8 (hb);have n1_:=aMx8 (ho);clear HB;clear HO_5;have HB:=n0_;have HO157:=n1_;clear n0_ n1_;clear ho hb hg hat))
       go_roundg k1
       case measure => have:=HK1.out;omega
       case rel => exact ⟨(y155),(wrap64 (x6_1+1)),(by first | rfl | (simp;done) | (simp [*];done) | (simp [wrap64];done)),H',⟨by have:=HK1.out;omega⟩,⟨by (with_reducible repeat (first | apply Kd.R_alloc | apply Kd.R_drewN | apply Kd.R_drew));exact HO157.out⟩,⟨by repeat (first | (with_reducible first | exact HB.out | apply below_alloc | apply pw_below_drewN | apply below_drew1) | exact HB.out)⟩⟩
      ·rw [if_neg c6] at H
       exact absurd H (by simp)
     ·rw [if_neg c5] at H
      have c5b0 : (((rd_T47 l0 x6_1).f0) == a1) = false:=beq_eq_false_iff_ne.mpr c5
      have c5b1 : (((rd_T47 l0 x6_1).f0) != a1) = true:=bne_iff_ne.mpr c5
      by_cases c8 : ((rd_T47 l0 x6_1).f1) = a1
      ·rw [if_pos c8] at H
       have c8b0 : (((rd_T47 l0 x6_1).f1) == a1) = true:=beq_iff_eq.mpr c8
       have c8b1 : (((rd_T47 l0 x6_1).f1) != a1) = false:=bne_eq_false_iff_eq.mpr c8
       clear c8
       by_cases c9 : x5_1.length < 17592186044416
       ·rw [if_pos c9] at H
        have LMc9:=aMx8 c9
        clear c9
        obtain ⟨y159,hy159⟩ : ∃ y_ : List Int,y_ = (x5_1++[x6_1]):=⟨_,rfl⟩
        replace H : (lapidaryref10_one.l0 k1 l0 a1 y159 (wrap64 (x6_1+1))) = some r:=by first | (rw [hy159];with_reducible exact H) | (have H2_:=(Option.bind_some _ _).symm.trans H;rw [hy159];with_reducible exact H2_) | (have H2_:=(Option.bind_some _ _).symm.trans H;with_reducible exact H2_) | with_reducible exact H | (rw [hy159];exact H) | exact H
        have Ny159:=aMx8 hy159
        clear hy159
        have H':=aMx8 H
        clear H
        have p154 : 0 ≤ (x6_1 : Int):=of_decide_eq_true (by first | (with_reducible assumption) | assumption)
        have q154 : x6_1 < (l0.length : Int):=of_decide_eq_true (by first | (with_reducible assumption) | assumption)
        obtain ⟨ad154,e154,hx154_0,hx154_1,hx154_2⟩:=at_T47 HR0.out x6_1 p154 q154
        cases e154
        replace hx154_0:=(HB.out.cell (World.block_lt_of_cell? w _ hx154_0)).trans hx154_0
        replace hx154_1:=(HB.out.cell (World.block_lt_of_cell? w _ hx154_1)).trans hx154_1
        replace hx154_2:=(HB.out.cell (World.block_lt_of_cell? w _ hx154_2)).trans hx154_2
        replace p154:=eq_true p154
        replace q154:=eq_true q154
        have p158 : 0 ≤ (x6_1 : Int):=of_decide_eq_true (by first | (with_reducible assumption) | assumption)
        have q158 : x6_1 < (l0.length : Int):=of_decide_eq_true (by first | (with_reducible assumption) | assumption)
        obtain ⟨ad158,e158,hx158_0,hx158_1,hx158_2⟩:=at_T47 HR0.out x6_1 p158 q158
        obtain rfl : ad154 = ad158:=(by injection e158)
        replace hx158_0:=(HB.out.cell (World.block_lt_of_cell? w _ hx158_0)).trans hx158_0
        replace hx158_1:=(HB.out.cell (World.block_lt_of_cell? w _ hx158_1)).trans hx158_1
        replace hx158_2:=(HB.out.cell (World.block_lt_of_cell? w _ hx158_2)).trans hx158_2
        replace p158:=eq_true p158
        replace q158:=eq_true q158
        go_wp2_with (first|((with_reducible refine gate_builtin (b:=.append) (xs:=#[.tmp 43,.tmp 45]) rfl ?_);at_builtin;refine Kd.R_append (Kd.int .i64) (w0:=w) w.heap.size rfl (.tmp 43) (.tmp 45) 32 3 (.int .i64 0) 8 rfl Tryd.underlying32 info3 rfl (by decide) (by omega) u5 x5_1 x6_1 [.int .i64 x6_1] (fun _ => True) (fun _ => False) rfl rfl ?aP (fun _ hk => hk.elim) ?aF ?aO ?aB ?aS ?aL ?_;(case aP => exact rfl);(case aB => exact (by repeat (with_reducible first|exact HB.out|apply below_alloc|apply pw_below_drewN|apply below_drew1)));(case aF => exact (fun _ _ => trivial));(case aO => exact (by (with_reducible repeat (first|apply Kd.R_alloc|apply Kd.R_drewN|apply Kd.R_drew));exact HO_5.out));(case aS => exact (below_size (by repeat (with_reducible first|exact HB.out|apply below_alloc|apply pw_below_drewN|apply below_drew1))));(case aL => have:=LMc9.out;omega);intro v160 w10 ho hb hg hat;rw [← Ny159.out] at ho;have n0_:=aMx8 (hb);have n1_:=aMx8 (ho);clear HB;clear HO_5;have HB:=n0_;have HO161:=n1_;clear n0_ n1_;clear ho hb hg hat))
        go_roundg k1
        case measure => have:=HK1.out;omega
        case rel => exact ⟨(y159),(wrap64 (x6_1+1)),(by first | rfl | (simp;done) | (simp [*];done) | (simp [wrap64];done)),H',⟨by have:=HK1.out;omega⟩,⟨by (with_reducible repeat (first | apply Kd.R_alloc | apply Kd.R_drewN | apply Kd.R_drew));exact HO161.out⟩,⟨by repeat (first | (with_reducible first | exact HB.out | apply below_alloc | apply pw_below_drewN | apply below_drew1) | exact HB.out)⟩⟩
       ·rw [if_neg c9] at H
        exact absurd H (by simp)
      ·rw [if_neg c8] at H
       have c8b0 : (((rd_T47 l0 x6_1).f1) == a1) = false:=beq_eq_false_iff_ne.mpr c8
       have c8b1 : (((rd_T47 l0 x6_1).f1) != a1) = true:=bne_iff_ne.mpr c8
       by_cases c11 : ((rd_T47 l0 x6_1).f2) = a1
       ·rw [if_pos c11] at H
        have c11b0 : (((rd_T47 l0 x6_1).f2) == a1) = true:=beq_iff_eq.mpr c11
        have c11b1 : (((rd_T47 l0 x6_1).f2) != a1) = false:=bne_eq_false_iff_eq.mpr c11
        clear c11
        by_cases c12 : x5_1.length < 17592186044416
        ·rw [if_pos c12] at H
         have LMc12:=aMx8 c12
         clear c12
         obtain ⟨y163,hy163⟩ : ∃ y_ : List Int,y_ = (x5_1++[x6_1]):=⟨_,rfl⟩
         replace H : (lapidaryref10_one.l0 k1 l0 a1 y163 (wrap64 (x6_1+1))) = some r:=by first | (rw [hy163];with_reducible exact H) | (have H2_:=(Option.bind_some _ _).symm.trans H;rw [hy163];with_reducible exact H2_) | (have H2_:=(Option.bind_some _ _).symm.trans H;with_reducible exact H2_) | with_reducible exact H | (rw [hy163];exact H) | exact H
         have Ny163:=aMx8 hy163
         clear hy163
         have H':=aMx8 H
         clear H
         have p154 : 0 ≤ (x6_1 : Int):=of_decide_eq_true (by first | (with_reducible assumption) | assumption)
         have q154 : x6_1 < (l0.length : Int):=of_decide_eq_true (by first | (with_reducible assumption) | assumption)
         obtain ⟨ad154,e154,hx154_0,hx154_1,hx154_2⟩:=at_T47 HR0.out x6_1 p154 q154
         cases e154
         replace hx154_0:=(HB.out.cell (World.block_lt_of_cell? w _ hx154_0)).trans hx154_0
         replace hx154_1:=(HB.out.cell (World.block_lt_of_cell? w _ hx154_1)).trans hx154_1
         replace hx154_2:=(HB.out.cell (World.block_lt_of_cell? w _ hx154_2)).trans hx154_2
         replace p154:=eq_true p154
         replace q154:=eq_true q154
         have p158 : 0 ≤ (x6_1 : Int):=of_decide_eq_true (by first | (with_reducible assumption) | assumption)
         have q158 : x6_1 < (l0.length : Int):=of_decide_eq_true (by first | (with_reducible assumption) | assumption)
         obtain ⟨ad158,e158,hx158_0,hx158_1,hx158_2⟩:=at_T47 HR0.out x6_1 p158 q158
         obtain rfl : ad154 = ad158:=(by injection e158)
         replace hx158_0:=(HB.out.cell (World.block_lt_of_cell? w _ hx158_0)).trans hx158_0
         replace hx158_1:=(HB.out.cell (World.block_lt_of_cell? w _ hx158_1)).trans hx158_1
         replace hx158_2:=(HB.out.cell (World.block_lt_of_cell? w _ hx158_2)).trans hx158_2
         replace p158:=eq_true p158
         replace q158:=eq_true q158
         have p162 : 0 ≤ (x6_1 : Int):=of_decide_eq_true (by first | (with_reducible assumption) | assumption)
         have q162 : x6_1 < (l0.length : Int):=of_decide_eq_true (by first | (with_reducible assumption) | assumption)
         obtain ⟨ad162,e162,hx162_0,hx162_1,hx162_2⟩:=at_T47 HR0.out x6_1 p162 q162
         obtain rfl : ad154 = ad162:=(by injection e162)
         replace hx162_0:=(HB.out.cell (World.block_lt_of_cell? w _ hx162_0)).trans hx162_0
         replace hx162_1:=(HB.out.cell (World.block_lt_of_cell? w _ hx162_1)).trans hx162_1
         replace hx162_2:=(HB.out.cell (World.block_lt_of_cell? w _ hx162_2)).trans hx162_2
         replace p162:=eq_true p162
         replace q162:=eq_true q162
         go_wp2_with (first|((with_reducible refine gate_builtin (b:=.append) (xs:=#[.tmp 43,.tmp 45]) rfl ?_);at_builtin;refine Kd.R_append (Kd.int .i64) (w0:=w) w.heap.size rfl (.tmp 43) (.tmp 45) 32 3 (.int .i64 0) 8 rfl Tryd.underlying32 info3 rfl (by decide) (by omega) u5 x5_1 x6_1 [.int .i64 x6_1] (fun _ => True) (fun _ => False) rfl rfl ?aP (fun _ hk => hk.elim) ?aF ?aO ?aB ?aS ?aL ?_;(case aP => exact rfl);(case aB => exact (by repeat (with_reducible first|exact HB.out|apply below_alloc|apply pw_below_drewN|apply below_drew1)));(case aF => exact (fun _ _ => trivial));(case aO => exact (by (with_reducible repeat (first|apply Kd.R_alloc|apply Kd.R_drewN|apply Kd.R_drew));exact HO_5.out));(case aS => exact (below_size (by repeat (with_reducible first|exact HB.out|apply below_alloc|apply pw_below_drewN|apply below_drew1))));(case aL => have:=LMc12.out;omega);intro v164 w13 ho hb hg hat;rw [← Ny163.out] at ho;have n0_:=aMx8 (hb);have n1_:=aMx8 (ho);clear HB;clear HO_5;have HB:=n0_;have HO165:=n1_;clear n0_ n1_;clear ho hb hg hat))
         go_roundg k1
         case measure => have:=HK1.out;omega
         case rel => exact ⟨(y163),(wrap64 (x6_1+1)),(by first | rfl | (simp;done) | (simp [*];done) | (simp [wrap64];done)),H',⟨by have:=HK1.out;omega⟩,⟨by (with_reducible repeat (first | apply Kd.R_alloc | apply Kd.R_drewN | apply Kd.R_drew));exact HO165.out⟩,⟨by repeat (first | (with_reducible first | exact HB.out | apply below_alloc | apply pw_below_drewN | apply below_drew1) | exact HB.out)⟩⟩
        ·rw [if_neg c12] at H
         exact absurd H (by simp)
       ·rw [if_neg c11] at H
        have c11b0 : (((rd_T47 l0 x6_1).f2) == a1) = false:=beq_eq_false_iff_ne.mpr c11
        have c11b1 : (((rd_T47 l0 x6_1).f2) != a1) = true:=bne_iff_ne.mpr c11
        have H':=aMx8 H
        clear H
        have p154 : 0 ≤ (x6_1 : Int):=of_decide_eq_true (by first | (with_reducible assumption) | assumption)
        have q154 : x6_1 < (l0.length : Int):=of_decide_eq_true (by first | (with_reducible assumption) | assumption)
        obtain ⟨ad154,e154,hx154_0,hx154_1,hx154_2⟩:=at_T47 HR0.out x6_1 p154 q154
        cases e154
        replace hx154_0:=(HB.out.cell (World.block_lt_of_cell? w _ hx154_0)).trans hx154_0
        replace hx154_1:=(HB.out.cell (World.block_lt_of_cell? w _ hx154_1)).trans hx154_1
        replace hx154_2:=(HB.out.cell (World.block_lt_of_cell? w _ hx154_2)).trans hx154_2
        replace p154:=eq_true p154
        replace q154:=eq_true q154
        have p158 : 0 ≤ (x6_1 : Int):=of_decide_eq_true (by first | (with_reducible assumption) | assumption)
        have q158 : x6_1 < (l0.length : Int):=of_decide_eq_true (by first | (with_reducible assumption) | assumption)
        obtain ⟨ad158,e158,hx158_0,hx158_1,hx158_2⟩:=at_T47 HR0.out x6_1 p158 q158
        obtain rfl : ad154 = ad158:=(by injection e158)
        replace hx158_0:=(HB.out.cell (World.block_lt_of_cell? w _ hx158_0)).trans hx158_0
        replace hx158_1:=(HB.out.cell (World.block_lt_of_cell? w _ hx158_1)).trans hx158_1
        replace hx158_2:=(HB.out.cell (World.block_lt_of_cell? w _ hx158_2)).trans hx158_2
        replace p158:=eq_true p158
        replace q158:=eq_true q158
        have p162 : 0 ≤ (x6_1 : Int):=of_decide_eq_true (by first | (with_reducible assumption) | assumption)
        have q162 : x6_1 < (l0.length : Int):=of_decide_eq_true (by first | (with_reducible assumption) | assumption)
        obtain ⟨ad162,e162,hx162_0,hx162_1,hx162_2⟩:=at_T47 HR0.out x6_1 p162 q162
        obtain rfl : ad154 = ad162:=(by injection e162)
        replace hx162_0:=(HB.out.cell (World.block_lt_of_cell? w _ hx162_0)).trans hx162_0
        replace hx162_1:=(HB.out.cell (World.block_lt_of_cell? w _ hx162_1)).trans hx162_1
        replace hx162_2:=(HB.out.cell (World.block_lt_of_cell? w _ hx162_2)).trans hx162_2
        replace p162:=eq_true p162
        replace q162:=eq_true q162
        go_wp2
        go_roundg k1
        case measure => have:=HK1.out;omega
        case rel => exact ⟨(x5_1),(wrap64 (x6_1+1)),(by first | rfl | (simp;done) | (simp [*];done) | (simp [wrap64];done)),H',⟨by have:=HK1.out;omega⟩,⟨by (with_reducible repeat (first | apply Kd.R_alloc | apply Kd.R_drewN | apply Kd.R_drew));exact HO_5.out⟩,⟨by repeat (first | (with_reducible first | exact HB.out | apply below_alloc | apply pw_below_drewN | apply below_drew1) | exact HB.out)⟩⟩
    ·rw [if_neg c4] at H
     exact absurd H (by simp)
   ·rw [if_neg c3] at H
    have c3b0 : decide (x6_1 < (l0.length : Int)) = false:=decide_eq_false c3
    clear c3
    by_cases c14 : (x5_1.length : Int) = 0
    ·rw [if_pos c14] at H
     have c14b0 : ((x5_1.length : Int) == 0) = true:=beq_iff_eq.mpr c14
     have c14b1 : ((x5_1.length : Int) != 0) = false:=bne_eq_false_iff_eq.mpr c14
     clear c14
     obtain rfl:=Option.some.inj H
     obtain ⟨Ao15,co15,eo15⟩:=Kd.R_slice HO_5.out
     subst eo15
     go_wp2
     go_ret
     exact ⟨by first | rfl | (simp [errW_none,errW_some]<;>rfl) | (simp [*,errW_none,errW_some]<;>rfl),by repeat (first | (with_reducible first | exact HB.out | apply below_alloc | apply pw_below_drewN | apply below_drew1) | exact HB.out)⟩
    ·rw [if_neg c14] at H
     have c14b0 : ((x5_1.length : Int) == 0) = false:=beq_eq_false_iff_ne.mpr c14
     have c14b1 : ((x5_1.length : Int) != 0) = true:=bne_iff_ne.mpr c14
     have c14b2 : ¬ (x5_1 = []):=fun h_ => c14 (by rw [h_];rfl)
     by_cases c16 : 0 ≤ (x5_1.length : Int)
     ·rw [if_pos c16] at H
      have c16b0:=eq_true c16
      have c16b1 : decide (0 ≤ (x5_1.length : Int)) = true:=decide_eq_true c16
      clear c16
      by_cases c17 : ((x5_1.length : Int) : Int).toNat ≤ 281474976710656
      ·rw [if_pos c17] at H
       have c17b0:=eq_true c17
       have c17b1 : decide (((x5_1.length : Int) : Int).toNat ≤ 281474976710656) = true:=decide_eq_true c17
       clear c17
       obtain ⟨y166,hy166⟩ : ∃ y_ : List Bool,y_ = (List.replicate ((x5_1.length : Int) : Int).toNat false):=⟨_,rfl⟩
       replace H : (if 0 < (y166.length : Int) then (lapidaryref10_one.l1 k1 l0 a1 x5_1 (y166.set (0 : Int).toNat true) 1 true) else (none)) = some r:=by first | (rw [hy166];with_reducible exact H) | (have H2_:=(Option.bind_some _ _).symm.trans H;rw [hy166];with_reducible exact H2_) | (have H2_:=(Option.bind_some _ _).symm.trans H;with_reducible exact H2_) | with_reducible exact H | (rw [hy166];exact H) | exact H
       have Ny166:=aMx8 hy166
       clear hy166
       by_cases c18 : 0 < (y166.length : Int)
       ·rw [if_pos c18] at H
        have c18b0 : decide (0 < (y166.length : Int)) = true:=decide_eq_true c18
        have c18b1 : decide (0 < y166.length) = true:=decide_eq_true (by omega)
        clear c18
        obtain ⟨y169,hy169⟩ : ∃ y_ : List Bool,y_ = (y166.set (0 : Int).toNat true):=⟨_,rfl⟩
        replace H : (lapidaryref10_one.l1 k1 l0 a1 x5_1 y169 1 true) = some r:=by first | (rw [hy169];with_reducible exact H) | (have H2_:=(Option.bind_some _ _).symm.trans H;rw [hy169];with_reducible exact H2_) | (have H2_:=(Option.bind_some _ _).symm.trans H;with_reducible exact H2_) | with_reducible exact H | (rw [hy169];exact H) | exact H
        have Ny169:=aMx8 hy169
        clear hy169
        have H':=aMx8 H
        clear H
        obtain ⟨Ao20,co20,eo20⟩:=Kd.R_slice HO_5.out
        subst eo20
        go_wp2_with (first|((with_reducible refine gate_dst (N:=52) rfl ?_);refine Kd.R_make Kd.bool _ 4 rfl (N:=52) rfl 54 _ _ rfl (x5_1.length : Int) rfl rfl Tryd.underlying54 (.bool false) 1 info4 rfl (by decide) (by omega) false (ok:=fun _ => True) (okp:=fun _ => True) rfl (fun _ hk => hk) trivial (of_decide_eq_true (by first|(with_reducible assumption)|assumption)) (Nat.le_trans (Nat.mul_le_mul_right _ (of_decide_eq_true (by first|(with_reducible assumption)|assumption) : (x5_1.length : Int).toNat ≤ 281474976710656)) (by omega)) (Below.refl _ _) (Nat.le_refl _) ?_;intro v167 w21 ho22 hb hg_ hnew_;clear hg_ hnew_;(first|rw [← Ny166.out] at ho22|(simp only [Int.reduceToNat] at ho22;rw [← Ny166.out] at ho22));have n0_:=aMx8 (Kd.R_below (by (with_reducible repeat (first|apply Kd.R_alloc|apply Kd.R_drewN|apply Kd.R_drew));exact HO_5.out) hb);have n1_:=aMx8 (Kd.R_lower ho22 (below_size (by repeat (with_reducible first|exact HB.out|apply below_alloc|apply pw_below_drewN|apply below_drew1))));have n2_:=aMx8 (below_step (by repeat (with_reducible first|exact HB.out|apply below_alloc|apply pw_below_drewN|apply below_drew1)) hb);clear HO_5;clear HB;have HO_5:=n0_;have HO168:=n1_;have HB:=n2_;clear n0_ n1_ n2_;clear hb ho22;have p19 : 0 ≤ (0 : Int):=(by omega);have q19 : (0 : Int) < ((y166.length : Int) : Int):=of_decide_eq_true (by first|(with_reducible assumption)|assumption);have qi19 : (0 < y166.length) = True:=eq_true (by omega);obtain ⟨go19,co19,eo19,gb19,gl19,cl19,HG19⟩:=Kd.R_form HO168.out (by omega);(first|cases eo19|(injection eo19 with ea_ en_ ec_;(first|subst ea_|(injection ea_ with ea_;subst ea_));subst ec_;clear en_));have GB19:=aMx8 gb19;have GG19:=aMx8 HG19;clear gb19 gl19 HG19;obtain ⟨hx19_0,hf19_0⟩:=Kd.R_celln false HO168.out (0 : Int) p19 q19;(try rw [show ((0 : Int)).toNat = 0 from rfl] at hx19_0);(try simp only [Nat.reduceMul,Nat.zero_mul,Nat.zero_add,Nat.reduceAdd] at hx19_0);(try rw [show ((0 : Int)).toNat = 0 from rfl] at hf19_0);(try simp only [Nat.reduceMul,Nat.zero_mul,Nat.zero_add,Nat.reduceAdd] at hf19_0);replace p19:=eq_true p19;replace q19:=eq_true q19;obtain ⟨hy23_,hz23_⟩:=Kd.R_celln false HO168.out (0 : Int) (by omega) (of_decide_eq_true (by first|(with_reducible assumption)|assumption));(try simp only [Int.reduceToNat,Int.toNat_zero,Int.toNat_ofNat,Nat.reduceMul,Nat.zero_mul,Nat.zero_add] at hy23_ hz23_);(try rw [show ((0 : Int)).toNat = 0 from rfl] at hy23_);(try rw [show ((0 : Int)).toNat = 0 from rfl] at hz23_);have HP23:=Kd.R_putg HO168.out (0 : Int) true)|((with_reducible refine gate_store (t:=4) (p:=54) rfl ?_);refine store_event (t:=4) (p:=54) (v:=?vo_w24) (w1:=(w21.setCell ⟨go19,(0 : Int).toNat,none⟩ (.bool true))) ?hg ?ho ?hn ?hr ?_;(case ho => rfl);(case hg => rfl);(case hn => rfl);(case hr => first|(go_simp;done)|(go_simp;rfl));intro w24 hw;have hg : w21.grownBy w24 (some go19):=(by rw [hw];exact HP23.2);have hp_ : Kd.R Kd.bool 4 w24 w.heap.size (fun _ => True) (.slice (some ⟨go19,0,none⟩) y166.length co19) y169:=(by rw [hw,Ny169.out];exact HP23.1);clear HP23;have n0_:=aMx8 (Kd.R_over' (v:=(.slice (some ⟨go19,0,none⟩) y166.length co19)) (by (with_reducible repeat (first|apply Kd.R_alloc|apply Kd.R_drewN|apply Kd.R_drew));exact HO_5.out) (Kd.R_typed HO168.out) (by decide) hg);have n1_:=aMx8 (hp_);have n2_:=aMx8 ((by rw [hw];exact below_set (HB.out) GB19.out : Below w.heap.size w w24));clear HO_5;clear HO168;clear HB;have HO_5:=n0_;have HO168:=n1_;have HB:=n2_;clear n0_ n1_ n2_;clear hg hw hp_))
        go_loopg [8,9] k1 (fun kq v8 v9 w' => ∃ (x7_2 : List Bool) (x8_2 : Int) (x9_2 : Bool),v8 = .int .i64 x8_2 ∧ v9 = .bool x9_2 ∧ Aside0 (lapidaryref10_one.l1 kq l0 a1 x5_1 x7_2 x8_2 x9_2 = some r) ∧ Aside0 (kq ≤ k1) ∧ Aside0 (Kd.R (Kd.int .i64) 3 w' w.heap.size (fun _ => True) (.slice Ao20 x5_1.length co20) x5_1) ∧ Aside0 (Kd.R Kd.bool 4 w' w.heap.size (fun _ => True) (.slice (some ⟨go19,0,none⟩) y166.length co19) x7_2) ∧ Aside0 (Below w.heap.size w w'))
        case atStart => exact ⟨(y169),(1),(true),(by first | rfl | (simp;done) | (simp [*];done) | (simp [wrap64];done)),(by first | rfl | (simp;done) | (simp [*];done) | (simp [wrap64];done)),H',⟨Nat.le_refl _⟩,⟨by (with_reducible repeat (first | apply Kd.R_alloc | apply Kd.R_drewN | apply Kd.R_drew));exact HO_5.out⟩,⟨by (with_reducible repeat (first | apply Kd.R_alloc | apply Kd.R_drewN | apply Kd.R_drew));exact HO168.out⟩,⟨by repeat (first | (with_reducible first | exact HB.out | apply below_alloc | apply pw_below_drewN | apply below_drew1) | exact HB.out)⟩⟩
        case round =>
         clear H'
         (try clear c1);(try clear p1);(try clear q1);(try clear hx1);(try clear qi1);(try clear p2);(try clear c3);(try clear c3b0);(try clear c4);(try clear c4b0);(try clear c5);(try clear c5b0);(try clear c5b1);(try clear c6);(try clear p6);(try clear c8);(try clear c8b0);(try clear c8b1);(try clear c9);(try clear c11);(try clear c11b0);(try clear c11b1);(try clear c12);(try clear c14);(try clear c14b0);(try clear c14b1);(try clear c14b2);(try clear p15);(try clear q15);(try clear hx15);(try clear c16);(try clear c16b0);(try clear c16b1);(try clear p16);(try clear q16);(try clear hx16);(try clear c17);(try clear c17b0);(try clear c17b1);(try clear c18);(try clear c18b0);(try clear c18b1);(try clear p19);(try clear q19);(try clear hx19);(try clear qi19);(try clear hf19);(try clear hx154_0);(try clear hx154_1);(try clear hx154_2);(try clear hx158_0);(try clear hx158_1);(try clear hx158_2);(try clear hx162_0);(try clear hx162_1);(try clear hx162_2);(try clear hx19_0);(try clear p154);(try clear p158);(try clear p162);(try clear p19);(try clear p2);(try clear q154);(try clear q158);(try clear q162);(try clear q19)
         obtain ⟨x7_2,x8_2,x9_2,rfl,rfl,HA,HK2,HO_5,HO_7,HB⟩:=hrel
         have hl7_2:=(Kd.R_reads' HO_7.out).1
         rw [hl7_2] at HO_7
         (try simp only [hl7_2])
         (try simp only [hl7_2] at HO_5)
         cases gk with
         | zero => exact absurd HA.out (by simp [lapidaryref10_one.l1])
         | succ k2 =>
          have H:=HA.out
          clear HA
          simp only [lapidaryref10_one.l1] at H
          by_cases c25 : x9_2 = true
          ·subst c25
           have H1 : (lapidaryref10_one.l2 k2 l0 a1 x5_1 x7_2 x8_2 false 0) = some r:=by rw [if_pos rfl] at H;exact H
           clear H
           have H:=H1
           clear H1
           have H':=aMx8 H
           clear H
           go_wp2
           go_loopg [8,9,10] k2 (fun kq v8 v9 v10 w' => ∃ (x7_3 : List Bool) (x8_3 : Int) (x9_3 : Bool) (x10_3 : Int),v8 = .int .i64 x8_3 ∧ v9 = .bool x9_3 ∧ v10 = .int .i64 x10_3 ∧ Aside0 (lapidaryref10_one.l2 kq l0 a1 x5_1 x7_3 x8_3 x9_3 x10_3 = some r) ∧ Aside0 (kq ≤ k2) ∧ Aside0 (Kd.R (Kd.int .i64) 3 w' w.heap.size (fun _ => True) (.slice Ao20 x5_1.length co20) x5_1) ∧ Aside0 (Kd.R Kd.bool 4 w' w.heap.size (fun _ => True) (.slice (some ⟨go19,0,none⟩) x7_2.length co19) x7_3) ∧ Aside0 (Below w.heap.size w w'))
           case atStart => exact ⟨(x7_2),(x8_2),(false),(0),(by first | rfl | (simp;done) | (simp [*];done) | (simp [wrap64];done)),(by first | rfl | (simp;done) | (simp [*];done) | (simp [wrap64];done)),(by first | rfl | (simp;done) | (simp [*];done) | (simp [wrap64];done)),H',⟨Nat.le_refl _⟩,⟨by (try simp only [hl7_2]);(with_reducible repeat (first | apply Kd.R_alloc | apply Kd.R_drewN | apply Kd.R_drew));exact HO_5.out⟩,⟨by (try simp only [hl7_2]);(with_reducible repeat (first | apply Kd.R_alloc | apply Kd.R_drewN | apply Kd.R_drew));exact HO_7.out⟩,⟨by repeat (first | (with_reducible first | exact HB.out | apply below_alloc | apply pw_below_drewN | apply below_drew1) | exact HB.out)⟩⟩
           case round =>
            clear H'
            (try clear c1);(try clear p1);(try clear q1);(try clear hx1);(try clear qi1);(try clear c2);(try clear p2);(try clear c3);(try clear c3b0);(try clear c4);(try clear c4b0);(try clear c5);(try clear c5b0);(try clear c5b1);(try clear c6);(try clear p6);(try clear c8);(try clear c8b0);(try clear c8b1);(try clear c9);(try clear c11);(try clear c11b0);(try clear c11b1);(try clear c12);(try clear c14);(try clear c14b0);(try clear c14b1);(try clear c14b2);(try clear p15);(try clear q15);(try clear hx15);(try clear c16);(try clear c16b0);(try clear c16b1);(try clear p16);(try clear q16);(try clear hx16);(try clear c17);(try clear c17b0);(try clear c17b1);(try clear c18);(try clear c18b0);(try clear c18b1);(try clear p19);(try clear q19);(try clear hx19);(try clear qi19);(try clear hf19);(try clear c25);(try clear hx154_0);(try clear hx154_1);(try clear hx154_2);(try clear hx158_0);(try clear hx158_1);(try clear hx158_2);(try clear hx162_0);(try clear hx162_1);(try clear hx162_2);(try clear hx19_0);(try clear p1);(try clear p15);(try clear p154);(try clear p158);(try clear p16);(try clear p162);(try clear p19);(try clear p2);(try clear p6);(try clear q1);(try clear q15);(try clear q154);(try clear q158);(try clear q16);(try clear q162);(try clear q19)
            obtain ⟨x7_3,x8_3,x9_3,x10_3,rfl,rfl,rfl,HA,HK3,HO_5,HO_7,HB⟩:=hrel
            have hl7_3:=(Kd.R_reads' HO_7.out).1
            rw [hl7_3] at HO_7
            (try simp only [hl7_3])
            (try simp only [hl7_3] at HO_5)
            cases gk with
            | zero => exact absurd HA.out (by simp [lapidaryref10_one.l2])
            | succ k3 =>
             have H:=HA.out
             clear HA
             simp only [lapidaryref10_one.l2] at H
             by_cases c26 : x10_3 < (x5_1.length : Int)
             ·rw [if_pos c26] at H
              have c26b0 : decide (x10_3 < (x5_1.length : Int)) = true:=decide_eq_true c26
              clear c26
              have H':=aMx8 H
              clear H
              go_wp2
              go_loopg [8,9,11] k3 (fun kq v8 v9 v11 w' => ∃ (x7_4 : List Bool) (x8_4 : Int) (x9_4 : Bool) (x11_4 : Int),v8 = .int .i64 x8_4 ∧ v9 = .bool x9_4 ∧ v11 = .int .i64 x11_4 ∧ Aside0 (lapidaryref10_one.l3 kq l0 a1 x5_1 x7_4 x8_4 x9_4 x10_3 x11_4 = some r) ∧ Aside0 (kq ≤ k3) ∧ Aside0 (Kd.R (Kd.int .i64) 3 w' w.heap.size (fun _ => True) (.slice Ao20 x5_1.length co20) x5_1) ∧ Aside0 (Kd.R Kd.bool 4 w' w.heap.size (fun _ => True) (.slice (some ⟨go19,0,none⟩) x7_3.length co19) x7_4) ∧ Aside0 (Below w.heap.size w w'))
              case atStart => exact ⟨(x7_3),(x8_3),(x9_3),(0),(by first | rfl | (simp;done) | (simp [*];done) | (simp [wrap64];done)),(by first | rfl | (simp;done) | (simp [*];done) | (simp [wrap64];done)),(by first | rfl | (simp;done) | (simp [*];done) | (simp [wrap64];done)),H',⟨Nat.le_refl _⟩,⟨by (try simp only [hl7_2]);(try simp only [hl7_3]);(with_reducible repeat (first | apply Kd.R_alloc | apply Kd.R_drewN | apply Kd.R_drew));exact HO_5.out⟩,⟨by (try simp only [hl7_2]);(try simp only [hl7_3]);(with_reducible repeat (first | apply Kd.R_alloc | apply Kd.R_drewN | apply Kd.R_drew));exact HO_7.out⟩,⟨by repeat (first | (with_reducible first | exact HB.out | apply below_alloc | apply pw_below_drewN | apply below_drew1) | exact HB.out)⟩⟩
              case round =>
               clear H'
               (try clear c1);(try clear p1);(try clear q1);(try clear hx1);(try clear qi1);(try clear c2);(try clear p2);(try clear c3);(try clear c3b0);(try clear c4);(try clear c4b0);(try clear c5);(try clear c5b0);(try clear c5b1);(try clear c6);(try clear p6);(try clear c8);(try clear c8b0);(try clear c8b1);(try clear c9);(try clear c11);(try clear c11b0);(try clear c11b1);(try clear c12);(try clear c14);(try clear c14b0);(try clear c14b1);(try clear c14b2);(try clear p15);(try clear q15);(try clear hx15);(try clear c16);(try clear c16b0);(try clear c16b1);(try clear p16);(try clear q16);(try clear hx16);(try clear c17);(try clear c17b0);(try clear c17b1);(try clear c18);(try clear c18b0);(try clear c18b1);(try clear p19);(try clear q19);(try clear hx19);(try clear qi19);(try clear hf19);(try clear c25);(try clear c26);(try clear c26b0);(try clear hx154_0);(try clear hx154_1);(try clear hx154_2);(try clear hx158_0);(try clear hx158_1);(try clear hx158_2);(try clear hx162_0);(try clear hx162_1);(try clear hx162_2);(try clear hx19_0);(try clear p1);(try clear p15);(try clear p154);(try clear p158);(try clear p16);(try clear p162);(try clear p19);(try clear p2);(try clear p6);(try clear q1);(try clear q15);(try clear q154);(try clear q158);(try clear q16);(try clear q162);(try clear q19)
               obtain ⟨x7_4,x8_4,x9_4,x11_4,rfl,rfl,rfl,HA,HK4,HO_5,HO_7,HB⟩:=hrel
               have hl7_4:=(Kd.R_reads' HO_7.out).1
               rw [hl7_4] at HO_7
               (try simp only [hl7_4])
               (try simp only [hl7_4] at HO_5)
               cases gk with
               | zero => exact absurd HA.out (by simp [lapidaryref10_one.l3])
               | succ k4 =>
                have H:=HA.out
                clear HA
                simp only [lapidaryref10_one.l3] at H
                have HC27:=aMx8 H
                clear H
                go_upto_region 19 with (fail)
                go_cut [72] (fun v72 wc => ∃ (kq : Nat) (x72_26 : Bool),v72 = .bool x72_26 ∧ Aside0 (lapidaryref10_one.j4 kq l0 a1 x5_1 x7_4 x8_4 x9_4 x10_3 x11_4 x72_26 = some r) ∧ Aside0 (kq ≤ k4) ∧ Aside0 (Kd.R (Kd.int .i64) 3 wc w.heap.size (fun _ => True) (.slice Ao20 x5_1.length co20) x5_1) ∧ Aside0 (Kd.R Kd.bool 4 wc w.heap.size (fun _ => True) (.slice (some ⟨go19,0,none⟩) x7_4.length co19) x7_4) ∧ Aside0 (Below w.heap.size w wc))
                case first =>
                 have H:=HC27.out
                 clear HC27
                 by_cases c28 : x11_4 < (x5_1.length : Int)
                 ·rw [if_pos c28] at H
                  have c28b0 : decide (x11_4 < (x5_1.length : Int)) = true:=decide_eq_true c28
                  clear c28
                  (first | rw [c28b0] | (simp only [i64_w,i32_w];rw [c28b0]) | skip)
                  by_cases c29 : 0 ≤ x10_3
                  ·rw [if_pos c29] at H
                   have c29b0 : decide (0 ≤ x10_3) = true:=decide_eq_true c29
                   clear c29
                   by_cases c30 : x10_3 < (x7_4.length : Int)
                   ·rw [if_pos c30] at H
                    have c30b0 : decide (x10_3 < (x7_4.length : Int)) = true:=decide_eq_true c30
                    clear c30
                    have H':=aMx8 H
                    clear H
                    have p170 : 0 ≤ (x10_3 : Int):=of_decide_eq_true (by first | (with_reducible assumption) | assumption)
                    have q170 : x10_3 < (x7_4.length : Int):=of_decide_eq_true (by first | (with_reducible assumption) | assumption)
                    obtain ⟨ad170,e170,hx170_0⟩:=Kd.at_bool (Kd.R_reads' HO_7.out).2.2 x10_3 p170 q170
                    obtain rfl : (⟨go19,0,none⟩ : Addr) = ad170:=(by injection e170)
                    (first | simp only [add_plain] at hx170_0 | simp only [add_at] at hx170_0 | simp only [Addr.add,Nat.zero_add] at hx170_0 | skip)
                    replace p170:=eq_true p170
                    replace q170:=eq_true q170
                    go_wp2
                    go_meet
                    case rel => exact ⟨_,(!(rdOf false x7_4 x10_3)),(by first | rfl | (simp;done) | (simp [*];done) | (simp [wrap64];done)),H',⟨by have:=HK1.out;have:=HK2.out;have:=HK3.out;have:=HK4.out;first | omega | exact Nat.le_refl _⟩,⟨by (try simp only [hl7_2]);(try simp only [hl7_3]);(try simp only [hl7_4]);(with_reducible repeat (first | apply Kd.R_alloc | apply Kd.R_drewN | apply Kd.R_drew));exact HO_5.out⟩,⟨by (try simp only [hl7_2]);(try simp only [hl7_3]);(try simp only [hl7_4]);(with_reducible repeat (first | apply Kd.R_alloc | apply Kd.R_drewN | apply Kd.R_drew));exact HO_7.out⟩,⟨by repeat (first | (with_reducible first | exact HB.out | apply below_alloc | apply pw_below_drewN | apply below_drew1) | exact HB.out)⟩⟩
                   ·rw [if_neg c30] at H
                    exact absurd H (by simp)
                  ·rw [if_neg c29] at H
                   exact absurd H (by simp)
                 ·rw [if_neg c28] at H
                  have c28b0 : decide (x11_4 < (x5_1.length : Int)) = false:=decide_eq_false c28
                  clear c28
                  (first | rw [c28b0] | (simp only [i64_w,i32_w];rw [c28b0]) | skip)
                  have H':=aMx8 H
                  clear H
                  go_wp2
                  go_meet
                  case rel => exact ⟨_,(false),(by first | rfl | (simp;done) | (simp [*];done) | (simp [wrap64];done)),H',⟨by have:=HK1.out;have:=HK2.out;have:=HK3.out;have:=HK4.out;first | omega | exact Nat.le_refl _⟩,⟨by (try simp only [hl7_2]);(try simp only [hl7_3]);(try simp only [hl7_4]);(with_reducible repeat (first | apply Kd.R_alloc | apply Kd.R_drewN | apply Kd.R_drew));exact HO_5.out⟩,⟨by (try simp only [hl7_2]);(try simp only [hl7_3]);(try simp only [hl7_4]);(with_reducible repeat (first | apply Kd.R_alloc | apply Kd.R_drewN | apply Kd.R_drew));exact HO_7.out⟩,⟨by repeat (first | (with_reducible first | exact HB.out | apply below_alloc | apply pw_below_drewN | apply below_drew1) | exact HB.out)⟩⟩
                case rest =>
                 clear HC27
                 (try clear c1);(try clear p1);(try clear q1);(try clear hx1);(try clear qi1);(try clear c2);(try clear p2);(try clear c3);(try clear c3b0);(try clear c4);(try clear c4b0);(try clear c5);(try clear c5b0);(try clear c5b1);(try clear c6);(try clear p6);(try clear c8);(try clear c8b0);(try clear c8b1);(try clear c9);(try clear c11);(try clear c11b0);(try clear c11b1);(try clear c12);(try clear c14);(try clear c14b0);(try clear c14b1);(try clear c14b2);(try clear p15);(try clear q15);(try clear hx15);(try clear c16);(try clear c16b0);(try clear c16b1);(try clear p16);(try clear q16);(try clear hx16);(try clear c17);(try clear c17b0);(try clear c17b1);(try clear p17);(try clear q17);(try clear hx17);(try clear c18);(try clear c18b0);(try clear c18b1);(try clear p19);(try clear q19);(try clear hx19);(try clear qi19);(try clear hf19);(try clear c25);(try clear c26);(try clear c26b0);(try clear c28);(try clear c28b0);(try clear c29);(try clear c29b0);(try clear c30);(try clear c30b0);(try clear hx154_0);(try clear hx154_1);(try clear hx154_2);(try clear hx158_0);(try clear hx158_1);(try clear hx158_2);(try clear hx162_0);(try clear hx162_1);(try clear hx162_2);(try clear hx170_0);(try clear hx19_0);(try clear p1);(try clear p15);(try clear p154);(try clear p158);(try clear p16);(try clear p162);(try clear p170);(try clear p19);(try clear p2);(try clear p6);(try clear q1);(try clear q15);(try clear q154);(try clear q158);(try clear q16);(try clear q162);(try clear q170);(try clear q19)
                 obtain ⟨kq,x72_26,rfl,HA,HJ26,HO_5,HO_7,HB⟩:=hcut
                 cases kq with
                 | zero => exact absurd HA.out (by simp [lapidaryref10_one.j4])
                 | succ kj26 =>
                  have H:=HA.out
                  clear HA
                  simp only [lapidaryref10_one.j4] at H
                  by_cases c31 : x72_26 = true
                  ·subst c31
                   have H1 : (if 0 ≤ x11_4 then (if x11_4 < (x7_4.length : Int) then (if rdOf false x7_4 x11_4 = true then (if 0 ≤ x10_3 then (if x10_3 < (x5_1.length : Int) then (if 0 ≤ (rd x5_1 x10_3) then (if (rd x5_1 x10_3) < (l0.length : Int) then (if x11_4 < (x5_1.length : Int) then (if 0 ≤ (rd x5_1 x11_4) then (if (rd x5_1 x11_4) < (l0.length : Int) then ((lapidaryref10_joined.f kj26 ((rd_T47 l0 (rd x5_1 x10_3)).f0) ((rd_T47 l0 (rd x5_1 x10_3)).f1) ((rd_T47 l0 (rd x5_1 x10_3)).f2) ((rd_T47 l0 (rd x5_1 x11_4)).f0) ((rd_T47 l0 (rd x5_1 x11_4)).f1) ((rd_T47 l0 (rd x5_1 x11_4)).f2) a1).bind fun t176 => (if t176 = true then (if x10_3 < (x7_4.length : Int) then (lapidaryref10_one.l3 kj26 l0 a1 x5_1 (x7_4.set (x10_3 : Int).toNat true) (wrap64 (x8_4+1)) true x10_3 (wrap64 (x11_4+1))) else (none)) else (lapidaryref10_one.l3 kj26 l0 a1 x5_1 x7_4 x8_4 x9_4 x10_3 (wrap64 (x11_4+1))))) else (none)) else (none)) else (none)) else (none)) else (none)) else (none)) else (none)) else (lapidaryref10_one.l3 kj26 l0 a1 x5_1 x7_4 x8_4 x9_4 x10_3 (wrap64 (x11_4+1)))) else (none)) else (none)) = some r:=by rw [if_pos rfl] at H;exact H
                   clear H
                   have H:=H1
                   clear H1
                   by_cases c32 : 0 ≤ x11_4
                   ·rw [if_pos c32] at H
                    have c32b0 : decide (0 ≤ x11_4) = true:=decide_eq_true c32
                    clear c32
                    by_cases c33 : x11_4 < (x7_4.length : Int)
                    ·rw [if_pos c33] at H
                     have c33b0 : decide (x11_4 < (x7_4.length : Int)) = true:=decide_eq_true c33
                     clear c33
                     obtain ⟨bq34,hbq34⟩ : ∃ b_ : Bool,b_ = (rdOf false x7_4 x11_4):=⟨_,rfl⟩
                     replace H : (if bq34 = true then (if 0 ≤ x10_3 then (if x10_3 < (x5_1.length : Int) then (if 0 ≤ (rd x5_1 x10_3) then (if (rd x5_1 x10_3) < (l0.length : Int) then (if x11_4 < (x5_1.length : Int) then (if 0 ≤ (rd x5_1 x11_4) then (if (rd x5_1 x11_4) < (l0.length : Int) then ((lapidaryref10_joined.f kj26 ((rd_T47 l0 (rd x5_1 x10_3)).f0) ((rd_T47 l0 (rd x5_1 x10_3)).f1) ((rd_T47 l0 (rd x5_1 x10_3)).f2) ((rd_T47 l0 (rd x5_1 x11_4)).f0) ((rd_T47 l0 (rd x5_1 x11_4)).f1) ((rd_T47 l0 (rd x5_1 x11_4)).f2) a1).bind fun t176 => (if t176 = true then (if x10_3 < (x7_4.length : Int) then (lapidaryref10_one.l3 kj26 l0 a1 x5_1 (x7_4.set (x10_3 : Int).toNat true) (wrap64 (x8_4+1)) true x10_3 (wrap64 (x11_4+1))) else (none)) else (lapidaryref10_one.l3 kj26 l0 a1 x5_1 x7_4 x8_4 x9_4 x10_3 (wrap64 (x11_4+1))))) else (none)) else (none)) else (none)) else (none)) else (none)) else (none)) else (none)) else (lapidaryref10_one.l3 kj26 l0 a1 x5_1 x7_4 x8_4 x9_4 x10_3 (wrap64 (x11_4+1)))) = some r:=by rw [← hbq34] at H;exact H
                     have Nbq34:=aMx8 hbq34
                     clear hbq34
                     by_cases c35 : bq34 = true
                     ·subst c35
                      have H1 : (if 0 ≤ x10_3 then (if x10_3 < (x5_1.length : Int) then (if 0 ≤ (rd x5_1 x10_3) then (if (rd x5_1 x10_3) < (l0.length : Int) then (if x11_4 < (x5_1.length : Int) then (if 0 ≤ (rd x5_1 x11_4) then (if (rd x5_1 x11_4) < (l0.length : Int) then ((lapidaryref10_joined.f kj26 ((rd_T47 l0 (rd x5_1 x10_3)).f0) ((rd_T47 l0 (rd x5_1 x10_3)).f1) ((rd_T47 l0 (rd x5_1 x10_3)).f2) ((rd_T47 l0 (rd x5_1 x11_4)).f0) ((rd_T47 l0 (rd x5_1 x11_4)).f1) ((rd_T47 l0 (rd x5_1 x11_4)).f2) a1).bind fun t176 => (if t176 = true then (if x10_3 < (x7_4.length : Int) then (lapidaryref10_one.l3 kj26 l0 a1 x5_1 (x7_4.set (x10_3 : Int).toNat true) (wrap64 (x8_4+1)) true x10_3 (wrap64 (x11_4+1))) else (none)) else (lapidaryref10_one.l3 kj26 l0 a1 x5_1 x7_4 x8_4 x9_4 x10_3 (wrap64 (x11_4+1))))) else (none)) else (none)) else (none)) else (none)) else (none)) else (none)) else (none)) = some r:=by rw [if_pos rfl] at H;exact H
                      clear H
                      have H:=H1
                      clear H1
                      by_cases c36 : 0 ≤ x10_3
                      ·rw [if_pos c36] at H
                       have c36b0 : decide (0 ≤ x10_3) = true:=decide_eq_true c36
                       clear c36
                       by_cases c37 : x10_3 < (x5_1.length : Int)
                       ·rw [if_pos c37] at H
                        have c37b0 : decide (x10_3 < (x5_1.length : Int)) = true:=decide_eq_true c37
                        clear c37
                        by_cases c38 : 0 ≤ (rd x5_1 x10_3)
                        ·rw [if_pos c38] at H
                         have c38b0 : decide (0 ≤ (rd x5_1 x10_3)) = true:=decide_eq_true c38
                         clear c38
                         by_cases c39 : (rd x5_1 x10_3) < (l0.length : Int)
                         ·rw [if_pos c39] at H
                          have c39b0 : decide ((rd x5_1 x10_3) < (l0.length : Int)) = true:=decide_eq_true c39
                          clear c39
                          by_cases c40 : x11_4 < (x5_1.length : Int)
                          ·rw [if_pos c40] at H
                           have c40b0 : decide (x11_4 < (x5_1.length : Int)) = true:=decide_eq_true c40
                           clear c40
                           by_cases c41 : 0 ≤ (rd x5_1 x11_4)
                           ·rw [if_pos c41] at H
                            have c41b0 : decide (0 ≤ (rd x5_1 x11_4)) = true:=decide_eq_true c41
                            clear c41
                            by_cases c42 : (rd x5_1 x11_4) < (l0.length : Int)
                            ·rw [if_pos c42] at H
                             have c42b0 : decide ((rd x5_1 x11_4) < (l0.length : Int)) = true:=decide_eq_true c42
                             clear c42
                             replace H:=Option.bind_eq_some_iff.mp H
                             obtain ⟨t176,A430,H⟩:=H
                             replace H : (if t176 = true then (if x10_3 < (x7_4.length : Int) then (lapidaryref10_one.l3 kj26 l0 a1 x5_1 (x7_4.set (x10_3 : Int).toNat true) (wrap64 (x8_4+1)) true x10_3 (wrap64 (x11_4+1))) else (none)) else (lapidaryref10_one.l3 kj26 l0 a1 x5_1 x7_4 x8_4 x9_4 x10_3 (wrap64 (x11_4+1)))) = some r:=H
                             have A43:=aMx8 A430
                             clear A430
                             by_cases c44 : t176 = true
                             ·subst c44
                              have H1 : (if x10_3 < (x7_4.length : Int) then (lapidaryref10_one.l3 kj26 l0 a1 x5_1 (x7_4.set (x10_3 : Int).toNat true) (wrap64 (x8_4+1)) true x10_3 (wrap64 (x11_4+1))) else (none)) = some r:=by rw [if_pos rfl] at H;exact H
                              clear H
                              have H:=H1
                              clear H1
                              by_cases c45 : x10_3 < (x7_4.length : Int)
                              ·rw [if_pos c45] at H
                               have c45b0 : decide (x10_3 < (x7_4.length : Int)) = true:=decide_eq_true c45
                               clear c45
                               obtain ⟨y177,hy177⟩ : ∃ y_ : List Bool,y_ = (x7_4.set (x10_3 : Int).toNat true):=⟨_,rfl⟩
                               replace H : (lapidaryref10_one.l3 kj26 l0 a1 x5_1 y177 (wrap64 (x8_4+1)) true x10_3 (wrap64 (x11_4+1))) = some r:=by first | (rw [hy177];with_reducible exact H) | (have H2_:=(Option.bind_some _ _).symm.trans H;rw [hy177];with_reducible exact H2_) | (have H2_:=(Option.bind_some _ _).symm.trans H;with_reducible exact H2_) | with_reducible exact H | (rw [hy177];exact H) | exact H
                               have Ny177:=aMx8 hy177
                               clear hy177
                               have H':=aMx8 H
                               clear H
                               try go_wp2
                               have n0_:=aMx8 (Kd.R_drew HO_5.out)
                               have n1_:=aMx8 (Kd.R_drew HO_7.out)
                               have n2_:=aMx8 (below_drew1 HB.out)
                               clear HO_5
                               clear HO_7
                               clear HB
                               have HO_5:=n0_
                               have HO_7:=n1_
                               have HB:=n2_
                               clear n0_ n1_ n2_
                               have p171 : 0 ≤ (x11_4 : Int):=of_decide_eq_true (by first | (with_reducible assumption) | assumption)
                               have q171 : x11_4 < (x7_4.length : Int):=of_decide_eq_true (by first | (with_reducible assumption) | assumption)
                               obtain ⟨ad171,e171,hx171_0⟩:=Kd.at_bool (Kd.R_reads' HO_7.out).2.2 x11_4 p171 q171
                               (try rw [← Nbq34.out] at hx171_0)
                               obtain rfl : (⟨go19,0,none⟩ : Addr) = ad171:=(by injection e171)
                               (first | simp only [add_plain] at hx171_0 | simp only [add_at] at hx171_0 | simp only [Addr.add,Nat.zero_add] at hx171_0 | skip)
                               replace p171:=eq_true p171
                               replace q171:=eq_true q171
                               have p172 : 0 ≤ (x10_3 : Int):=of_decide_eq_true (by first | (with_reducible assumption) | assumption)
                               have q172 : x10_3 < (x5_1.length : Int):=of_decide_eq_true (by first | (with_reducible assumption) | assumption)
                               obtain ⟨ad172,e172,hx172_0⟩:=Kd.at_int (Kd.R_reads' HO_5.out).2.2 x10_3 p172 q172
                               cases e172
                               replace p172:=eq_true p172
                               replace q172:=eq_true q172
                               have p173 : 0 ≤ ((rd x5_1 x10_3) : Int):=of_decide_eq_true (by first | (with_reducible assumption) | assumption)
                               have q173 : (rd x5_1 x10_3) < (l0.length : Int):=of_decide_eq_true (by first | (with_reducible assumption) | assumption)
                               obtain ⟨ad173,e173,hx173_0,hx173_1,hx173_2⟩:=at_T47 HR0.out (rd x5_1 x10_3) p173 q173
                               have hw173_2:=hx173_2
                               have hw173_1:=hx173_1
                               have hw173_0:=hx173_0
                               cases e173
                               replace hx173_0:=(HB.out.cell (World.block_lt_of_cell? w _ hx173_0)).trans hx173_0
                               replace hx173_1:=(HB.out.cell (World.block_lt_of_cell? w _ hx173_1)).trans hx173_1
                               replace hx173_2:=(HB.out.cell (World.block_lt_of_cell? w _ hx173_2)).trans hx173_2
                               replace p173:=eq_true p173
                               replace q173:=eq_true q173
                               have p174 : 0 ≤ (x11_4 : Int):=of_decide_eq_true (by first | (with_reducible assumption) | assumption)
                               have q174 : x11_4 < (x5_1.length : Int):=of_decide_eq_true (by first | (with_reducible assumption) | assumption)
                               obtain ⟨ad174,e174,hx174_0⟩:=Kd.at_int (Kd.R_reads' HO_5.out).2.2 x11_4 p174 q174
                               obtain rfl : ad172 = ad174:=(by injection e174)
                               replace p174:=eq_true p174
                               replace q174:=eq_true q174
                               have p175 : 0 ≤ ((rd x5_1 x11_4) : Int):=of_decide_eq_true (by first | (with_reducible assumption) | assumption)
                               have q175 : (rd x5_1 x11_4) < (l0.length : Int):=of_decide_eq_true (by first | (with_reducible assumption) | assumption)
                               obtain ⟨ad175,e175,hx175_0,hx175_1,hx175_2⟩:=at_T47 HR0.out (rd x5_1 x11_4) p175 q175
                               have hw175_2:=hx175_2
                               have hw175_1:=hx175_1
                               have hw175_0:=hx175_0
                               obtain rfl : ad173 = ad175:=(by injection e175)
                               replace hx175_0:=(HB.out.cell (World.block_lt_of_cell? w _ hx175_0)).trans hx175_0
                               replace hx175_1:=(HB.out.cell (World.block_lt_of_cell? w _ hx175_1)).trans hx175_1
                               replace hx175_2:=(HB.out.cell (World.block_lt_of_cell? w _ hx175_2)).trans hx175_2
                               replace p175:=eq_true p175
                               replace q175:=eq_true q175
                               refine start_ (n:=22) (S:=fun w' => w'.cell? ⟨go19,(x11_4).toNat,none⟩ = some (.bool true) ∧ w'.cell? (ad172.add (x10_3).toNat) = some (.int .i64 (rd x5_1 x10_3)) ∧ w'.cell? (ad173.add (((rd x5_1 x10_3)).toNat * 3)) = some (.int .i64 ((rd_T47 l0 (rd x5_1 x10_3)).f0)) ∧ w'.cell? ⟨(ad173.add (((rd x5_1 x10_3)).toNat * 3)).block,(ad173.add (((rd x5_1 x10_3)).toNat * 3)).off+1,none⟩ = some (.int .i64 ((rd_T47 l0 (rd x5_1 x10_3)).f1)) ∧ w'.cell? ⟨(ad173.add (((rd x5_1 x10_3)).toNat * 3)).block,(ad173.add (((rd x5_1 x10_3)).toNat * 3)).off+2,none⟩ = some (.int .i64 ((rd_T47 l0 (rd x5_1 x10_3)).f2)) ∧ w'.cell? (ad172.add (x11_4).toNat) = some (.int .i64 (rd x5_1 x11_4)) ∧ w'.cell? (ad173.add (((rd x5_1 x11_4)).toNat * 3)) = some (.int .i64 ((rd_T47 l0 (rd x5_1 x11_4)).f0)) ∧ w'.cell? ⟨(ad173.add (((rd x5_1 x11_4)).toNat * 3)).block,(ad173.add (((rd x5_1 x11_4)).toNat * 3)).off+1,none⟩ = some (.int .i64 ((rd_T47 l0 (rd x5_1 x11_4)).f1)) ∧ w'.cell? ⟨(ad173.add (((rd x5_1 x11_4)).toNat * 3)).block,(ad173.add (((rd x5_1 x11_4)).toNat * 3)).off+2,none⟩ = some (.int .i64 ((rd_T47 l0 (rd x5_1 x11_4)).f2))) (ds:=[]) #[false,false,false,false,false,false,false,false,false,false,false,false,false,false,false,false,false,false,false,false,false,false] (by kernel_rfl) rfl rfl ⟨hx171_0,hx172_0,((HB.out.cell (World.block_lt_of_cell? w _ hw173_0)).trans hw173_0),((HB.out.cell (World.block_lt_of_cell? w _ hw173_1)).trans hw173_1),((HB.out.cell (World.block_lt_of_cell? w _ hw173_2)).trans hw173_2),hx174_0,((HB.out.cell (World.block_lt_of_cell? w _ hw175_0)).trans hw175_0),((HB.out.cell (World.block_lt_of_cell? w _ hw175_1)).trans hw175_1),((HB.out.cell (World.block_lt_of_cell? w _ hw175_2)).trans hw175_2)⟩ (fun hHeld => ?_);refine with_tabW lapidaryref10_one.tab21 lapidaryref10_one.bits21 (fun HT_ HW_ => ?_)
                               generalize wc.drew = w47 at HO_5 HO_7 HB hx171_0 hx172_0 hx173_0 hx173_1 hx173_2 hx174_0 hx175_0 hx175_1 hx175_2 hHeld ⊢
                               refine pure_ (i:=0) (N:=some 75) (v:=?_) (a':=?_) #[true,false,false,false,false,false,false,false,false,false,false,false,false,false,false,false,false,false,false,false,false,false] rfl rfl (any_of HT_.out (by kernel_rfl)) (fun _ _ _ h => h) (Or.inl ⟨by rfl,?_⟩) ?_ ?_
                               rotate_left
                               ·intro w'
                                go_simp
                                with_reducible rfl
                               rotate_left
                               ·simp only [Act.put,sAx8,sBx8,sCx8,i64_w,i32_w]
                                rfl
                               refine pure_ (i:=1) (N:=some 76) (v:=?_) (a':=?_) #[true,true,false,false,false,false,false,false,false,false,false,false,false,false,false,false,false,false,false,false,false,false] rfl rfl (any_of HT_.out (by kernel_rfl)) (fun _ _ _ h => h) (Or.inl ⟨by rfl,?_⟩) ?_ ?_
                               rotate_left
                               ·intro w'
                                go_simp
                                with_reducible rfl
                               rotate_left
                               ·simp only [Act.put,sAx8,sBx8,sCx8,i64_w,i32_w]
                                rfl
                               refine pure_ (i:=2) (N:=some 77) (v:=?_) (a':=?_) #[true,true,true,false,false,false,false,false,false,false,false,false,false,false,false,false,false,false,false,false,false,false] rfl rfl (any_of HT_.out (by kernel_rfl)) (fun _ _ _ h => h) (Or.inl ⟨by rfl,?_⟩) ?_ ?_
                               rotate_left
                               ·intro w'
                                go_simp
                                with_reducible rfl
                               rotate_left
                               ·simp only [Act.put,sAx8,sBx8,sCx8,i64_w,i32_w]
                                rfl
                               refine take_ (i:=3) (N:=some 78) (v:=?_) (a':=?_) #[true,true,true,true,false,false,false,false,false,false,false,false,false,false,false,false,false,false,false,false,false,false] rfl rfl (take_ofW HT_.out HW_.out (by kernel_rfl)) (fun _ _ _ h => h) (Or.inl ⟨by rfl,?_⟩) hHeld ?_ ?_
                               rotate_left
                               ·rintro w' ⟨s0,s1,s2,s3,s4,s5,s6,s7,s8⟩
                                go_simp
                                with_reducible rfl
                               rotate_left
                               ·simp only [Act.put,sAx8,sBx8,sCx8,i64_w,i32_w]
                                rfl
                               refine pure_ (i:=4) (N:=some 79) (v:=?_) (a':=?_) #[true,true,true,true,true,false,false,false,false,false,false,false,false,false,false,false,false,false,false,false,false,false] rfl rfl (any_of HT_.out (by kernel_rfl)) (fun _ _ _ h => h) (Or.inl ⟨by rfl,?_⟩) ?_ ?_
                               rotate_left
                               ·intro w'
                                go_simp
                                with_reducible rfl
                               rotate_left
                               ·simp only [Act.put,sAx8,sBx8,sCx8,i64_w,i32_w]
                                rfl
                               refine pure_ (i:=5) (N:=some 80) (v:=?_) (a':=?_) #[true,true,true,true,true,true,false,false,false,false,false,false,false,false,false,false,false,false,false,false,false,false] rfl rfl (any_of HT_.out (by kernel_rfl)) (fun _ _ _ h => h) (Or.inl ⟨by rfl,?_⟩) ?_ ?_
                               rotate_left
                               ·intro w'
                                go_simp
                                with_reducible rfl
                               rotate_left
                               ·simp only [Act.put,sAx8,sBx8,sCx8,i64_w,i32_w]
                                rfl
                               refine pure_ (i:=6) (N:=some 81) (v:=?_) (a':=?_) #[true,true,true,true,true,true,true,false,false,false,false,false,false,false,false,false,false,false,false,false,false,false] rfl rfl (any_of HT_.out (by kernel_rfl)) (fun _ _ _ h => h) (Or.inl ⟨by rfl,?_⟩) ?_ ?_
                               rotate_left
                               ·intro w'
                                go_simp
                                with_reducible rfl
                               rotate_left
                               ·simp only [Act.put,sAx8,sBx8,sCx8,i64_w,i32_w]
                                rfl
                               refine pure_ (i:=7) (N:=some 82) (v:=?_) (a':=?_) #[true,true,true,true,true,true,true,true,false,false,false,false,false,false,false,false,false,false,false,false,false,false] rfl rfl (any_of HT_.out (by kernel_rfl)) (fun _ _ _ h => h) (Or.inl ⟨by rfl,?_⟩) ?_ ?_
                               rotate_left
                               ·intro w'
                                go_simp
                                with_reducible rfl
                               rotate_left
                               ·simp only [Act.put,sAx8,sBx8,sCx8,i64_w,i32_w]
                                rfl
                               refine pure_ (i:=8) (N:=some 83) (v:=?_) (a':=?_) #[true,true,true,true,true,true,true,true,true,false,false,false,false,false,false,false,false,false,false,false,false,false] rfl rfl (any_of HT_.out (by kernel_rfl)) (fun _ _ _ h => h) (Or.inl ⟨by rfl,?_⟩) ?_ ?_
                               rotate_left
                               ·intro w'
                                go_simp
                                with_reducible rfl
                               rotate_left
                               ·simp only [Act.put,sAx8,sBx8,sCx8,i64_w,i32_w]
                                rfl
                               refine pure_ (i:=12) (N:=some 87) (v:=?_) (a':=?_) #[true,true,true,true,true,true,true,true,true,false,false,false,true,false,false,false,false,false,false,false,false,false] rfl rfl (any_of HT_.out (by kernel_rfl)) (fun _ _ _ h => h) (Or.inl ⟨by rfl,?_⟩) ?_ ?_
                               rotate_left
                               ·intro w'
                                go_simp
                                with_reducible rfl
                               rotate_left
                               ·simp only [Act.put,sAx8,sBx8,sCx8,i64_w,i32_w]
                                rfl
                               refine pure_ (i:=13) (N:=some 88) (v:=?_) (a':=?_) #[true,true,true,true,true,true,true,true,true,false,false,false,true,true,false,false,false,false,false,false,false,false] rfl rfl (any_of HT_.out (by kernel_rfl)) (fun _ _ _ h => h) (Or.inl ⟨by rfl,?_⟩) ?_ ?_
                               rotate_left
                               ·intro w'
                                go_simp
                                with_reducible rfl
                               rotate_left
                               ·simp only [Act.put,sAx8,sBx8,sCx8,i64_w,i32_w]
                                rfl
                               refine pure_ (i:=14) (N:=some 89) (v:=?_) (a':=?_) #[true,true,true,true,true,true,true,true,true,false,false,false,true,true,true,false,false,false,false,false,false,false] rfl rfl (any_of HT_.out (by kernel_rfl)) (fun _ _ _ h => h) (Or.inl ⟨by rfl,?_⟩) ?_ ?_
                               rotate_left
                               ·intro w'
                                go_simp
                                with_reducible rfl
                               rotate_left
                               ·simp only [Act.put,sAx8,sBx8,sCx8,i64_w,i32_w]
                                rfl
                               refine pure_ (i:=15) (N:=some 90) (v:=?_) (a':=?_) #[true,true,true,true,true,true,true,true,true,false,false,false,true,true,true,true,false,false,false,false,false,false] rfl rfl (any_of HT_.out (by kernel_rfl)) (fun _ _ _ h => h) (Or.inl ⟨by rfl,?_⟩) ?_ ?_
                               rotate_left
                               ·intro w'
                                go_simp
                                with_reducible rfl
                               rotate_left
                               ·simp only [Act.put,sAx8,sBx8,sCx8,i64_w,i32_w]
                                rfl
                               refine pure_ (i:=19) (N:=some 94) (v:=?_) (a':=?_) #[true,true,true,true,true,true,true,true,true,false,false,false,true,true,true,true,false,false,false,true,false,false] rfl rfl (any_of HT_.out (by kernel_rfl)) (fun _ _ _ h => h) (Or.inl ⟨by rfl,?_⟩) ?_ ?_
                               rotate_left
                               ·intro w'
                                go_simp
                                with_reducible rfl
                               rotate_left
                               ·simp only [Act.put,sAx8,sBx8,sCx8,i64_w,i32_w]
                                rfl
                               refine take_ (i:=9) (N:=some 84) (v:=?_) (a':=?_) #[true,true,true,true,true,true,true,true,true,true,false,false,true,true,true,true,false,false,false,true,false,false] rfl rfl (take_ofW HT_.out HW_.out (by kernel_rfl)) (fun _ _ _ h => h) (Or.inl ⟨by rfl,?_⟩) hHeld ?_ ?_
                               rotate_left
                               ·rintro w' ⟨s0,s1,s2,s3,s4,s5,s6,s7,s8⟩
                                go_simp
                                with_reducible rfl
                               rotate_left
                               ·simp only [Act.put,sAx8,sBx8,sCx8,i64_w,i32_w]
                                rfl
                               refine pure_ (i:=10) (N:=some 85) (v:=?_) (a':=?_) #[true,true,true,true,true,true,true,true,true,true,true,false,true,true,true,true,false,false,false,true,false,false] rfl rfl (any_of HT_.out (by kernel_rfl)) (fun _ _ _ h => h) (Or.inl ⟨by rfl,?_⟩) ?_ ?_
                               rotate_left
                               ·intro w'
                                go_simp
                                with_reducible rfl
                               rotate_left
                               ·simp only [Act.put,sAx8,sBx8,sCx8,i64_w,i32_w]
                                rfl
                               refine take_ (i:=11) (N:=some 86) (v:=?_) (a':=?_) #[true,true,true,true,true,true,true,true,true,true,true,true,true,true,true,true,false,false,false,true,false,false] rfl rfl (take_ofW HT_.out HW_.out (by kernel_rfl)) (fun _ _ _ h => h) (Or.inl ⟨by rfl,?_⟩) hHeld ?_ ?_
                               rotate_left
                               ·rintro w' ⟨s0,s1,s2,s3,s4,s5,s6,s7,s8⟩
                                go_simp
                                with_reducible rfl
                               rotate_left
                               ·simp only [Act.put,sAx8,sBx8,sCx8,i64_w,i32_w]
                                rfl
                               refine take_ (i:=16) (N:=some 91) (v:=?_) (a':=?_) #[true,true,true,true,true,true,true,true,true,true,true,true,true,true,true,true,true,false,false,true,false,false] rfl rfl (take_ofW HT_.out HW_.out (by kernel_rfl)) (fun _ _ _ h => h) (Or.inl ⟨by rfl,?_⟩) hHeld ?_ ?_
                               rotate_left
                               ·rintro w' ⟨s0,s1,s2,s3,s4,s5,s6,s7,s8⟩
                                go_simp
                                with_reducible rfl
                               rotate_left
                               ·simp only [Act.put,sAx8,sBx8,sCx8,i64_w,i32_w]
                                rfl
                               refine pure_ (i:=17) (N:=some 92) (v:=?_) (a':=?_) #[true,true,true,true,true,true,true,true,true,true,true,true,true,true,true,true,true,true,false,true,false,false] rfl rfl (any_of HT_.out (by kernel_rfl)) (fun _ _ _ h => h) (Or.inl ⟨by rfl,?_⟩) ?_ ?_
                               rotate_left
                               ·intro w'
                                go_simp
                                with_reducible rfl
                               rotate_left
                               ·simp only [Act.put,sAx8,sBx8,sCx8,i64_w,i32_w]
                                rfl
                               refine take_ (i:=18) (N:=some 93) (v:=?_) (a':=?_) #[true,true,true,true,true,true,true,true,true,true,true,true,true,true,true,true,true,true,true,true,false,false] rfl rfl (take_ofW HT_.out HW_.out (by kernel_rfl)) (fun _ _ _ h => h) (Or.inl ⟨by rfl,?_⟩) hHeld ?_ ?_
                               rotate_left
                               ·rintro w' ⟨s0,s1,s2,s3,s4,s5,s6,s7,s8⟩
                                go_simp
                                with_reducible rfl
                               rotate_left
                               ·simp only [Act.put,sAx8,sBx8,sCx8,i64_w,i32_w]
                                rfl
                               refine one_ (i:=20) (N:=some 95) #[true,true,true,true,true,true,true,true,true,true,true,true,true,true,true,true,true,true,true,true,true,false] rfl rfl (one_of HT_.out (by kernel_rfl)) (by decide) (fun K hK => ?_)
                               refine goes_ Tryd.func80 (by kernel_rfl) rfl #[.agg #[.int .i64 ((rd_T47 l0 (rd x5_1 x10_3)).f0),.int .i64 ((rd_T47 l0 (rd x5_1 x10_3)).f1),.int .i64 ((rd_T47 l0 (rd x5_1 x10_3)).f2)],.agg #[.int .i64 ((rd_T47 l0 (rd x5_1 x11_4)).f0),.int .i64 ((rd_T47 l0 (rd x5_1 x11_4)).f1),.int .i64 ((rd_T47 l0 (rd x5_1 x11_4)).f2)],.int .i64 a1] (by rfl) rfl rfl (by (try simp only [List.map_toArray,List.map_cons,List.map_nil]);first | done | rfl | (simp only [List.length_drop,List.length_take];rfl)) ?_
                               with_reducible refine (lapidaryref10_joined.calls kj26 ((rd_T47 l0 (rd x5_1 x10_3)).f0) ((rd_T47 l0 (rd x5_1 x10_3)).f1) ((rd_T47 l0 (rd x5_1 x10_3)).f2) ((rd_T47 l0 (rd x5_1 x11_4)).f0) ((rd_T47 l0 (rd x5_1 x11_4)).f1) ((rd_T47 l0 (rd x5_1 x11_4)).f2) a1 true _ A43.out).mono ?_
                               rintro e w48 ⟨rfl,hb⟩
                               have HS0_:=(hb.cell (World.block_lt_of_cell? _ _ (hHeld.1))).trans (hHeld.1)
                               have HS1_:=(hb.cell (World.block_lt_of_cell? _ _ (hHeld.2.1))).trans (hHeld.2.1)
                               have HS5_:=(hb.cell (World.block_lt_of_cell? _ _ (hHeld.2.2.2.2.2.1))).trans (hHeld.2.2.2.2.2.1)
                               refine ⟨_,rfl,?_⟩
                               have n0_:=aMx8 (Kd.R_below (by (with_reducible repeat (first | apply Kd.R_alloc | apply Kd.R_drewN | apply Kd.R_drew));exact HO_5.out) hb)
                               have n1_:=aMx8 (Kd.R_below (by (with_reducible repeat (first | apply Kd.R_alloc | apply Kd.R_drewN | apply Kd.R_drew));exact HO_7.out) hb)
                               have n2_:=aMx8 (below_step (by repeat (first | (with_reducible first | exact HB.out | apply below_alloc | apply pw_below_drewN | apply below_drew1) | exact HB.out)) hb)
                               clear HO_5
                               clear HO_7
                               clear HB
                               have HO_5:=n0_
                               have HO_7:=n1_
                               have HB:=n2_
                               clear n0_ n1_ n2_
                               (try clear hb)
                               (try clear hb2)
                               (try clear hk)
                               (try clear hi)
                               refine hK.out _ _ ⟨HS0_,HS1_,((HB.out.cell (World.block_lt_of_cell? w _ hw173_0)).trans hw173_0),((HB.out.cell (World.block_lt_of_cell? w _ hw173_1)).trans hw173_1),((HB.out.cell (World.block_lt_of_cell? w _ hw173_2)).trans hw173_2),HS5_,((HB.out.cell (World.block_lt_of_cell? w _ hw175_0)).trans hw175_0),((HB.out.cell (World.block_lt_of_cell? w _ hw175_1)).trans hw175_1),((HB.out.cell (World.block_lt_of_cell? w _ hw175_2)).trans hw175_2)⟩ (fun hHeld => ?_)
                               clear hK K
                               refine norm_ (a':=?_) ?_ ?_
                               rotate_left
                               ·show Act.put _ (some 95) _ = _
                                simp only [Act.put,sAx8,sBx8,sCx8,i64_w,i32_w]
                                rfl
                               refine pure_ (i:=21) (N:=some 96) (v:=?_) (a':=?_) #[true,true,true,true,true,true,true,true,true,true,true,true,true,true,true,true,true,true,true,true,true,true] rfl rfl (any_of HT_.out (by kernel_rfl)) (fun _ _ _ h => h) (Or.inl ⟨by rfl,?_⟩) ?_ ?_
                               rotate_left
                               ·intro w'
                                go_simp
                                with_reducible rfl
                               rotate_left
                               ·simp only [Act.put,sAx8,sBx8,sCx8,i64_w,i32_w]
                                rfl
                               refine done_ (done_of HT_.out (by kernel_rfl)) ?_
                               have p46 : 0 ≤ (x10_3 : Int):=of_decide_eq_true (by first | (with_reducible assumption) | assumption)
                               have q46 : (x10_3 : Int) < ((x7_4.length : Int) : Int):=of_decide_eq_true (by first | (with_reducible assumption) | assumption)
                               obtain ⟨hx46_0,hf46_0⟩:=Kd.R_celln false HO_7.out (x10_3 : Int) p46 q46
                               replace p46:=eq_true p46
                               replace q46:=eq_true q46
                               obtain ⟨hy49_,hz49_⟩:=Kd.R_celln false HO_7.out (x10_3 : Int) (of_decide_eq_true (by first | (with_reducible assumption) | assumption)) (of_decide_eq_true (by first | (with_reducible assumption) | assumption))
                               have HP49:=Kd.R_putg HO_7.out (x10_3 : Int) true
                               try go_wp2_with (first|((with_reducible refine gate_store (t:=4) (p:=99) rfl ?_);refine store_event (t:=4) (p:=99) (v:=?vo_w50) (w1:=(w48.setCell ⟨go19,(x10_3 : Int).toNat,none⟩ (.bool true))) ?hg ?ho ?hn ?hr ?_;(case ho => rfl);(case hg => rfl);(case hn => rfl);(case hr => first|(go_simp;done)|(go_simp;rfl));intro w50 hw;have hg : w48.grownBy w50 (some go19):=(by rw [hw];exact HP49.2);have hp_ : Kd.R Kd.bool 4 w50 w.heap.size (fun _ => True) (.slice (some ⟨go19,0,none⟩) x7_4.length co19) y177:=(by rw [hw,Ny177.out];exact HP49.1);clear HP49;have n0_:=aMx8 (Kd.R_over' (v:=(.slice (some ⟨go19,0,none⟩) x7_4.length co19)) (by (with_reducible repeat (first|apply Kd.R_alloc|apply Kd.R_drewN|apply Kd.R_drew));exact HO_5.out) (Kd.R_typed HO_7.out) (by decide) hg);have n1_:=aMx8 (hp_);have n2_:=aMx8 ((by rw [hw];exact below_set (HB.out) GB19.out : Below w.heap.size w w50));clear HO_5;clear HO_7;clear HB;have HO_5:=n0_;have HO_7:=n1_;have HB:=n2_;clear n0_ n1_ n2_;clear hg hw hp_))
                               (try simp only [← hl7_4])
                               go_roundg kj26
                               case measure => have:=HK1.out;have:=HK2.out;have:=HK3.out;have:=HK4.out;have:=HJ26.out;omega
                               case rel => exact ⟨(y177),(wrap64 (x8_4+1)),(true),(wrap64 (x11_4+1)),(by first | rfl | (simp;done) | (simp [*];done) | (simp [wrap64];done)),(by first | rfl | (simp;done) | (simp [*];done) | (simp [wrap64];done)),(by first | rfl | (simp;done) | (simp [*];done) | (simp [wrap64];done)),H',⟨by have:=HK1.out;have:=HK2.out;have:=HK3.out;have:=HK4.out;have:=HJ26.out;omega⟩,⟨by (try simp only [hl7_2]);(try simp only [hl7_3]);(try simp only [hl7_4]);(with_reducible repeat (first | apply Kd.R_alloc | apply Kd.R_drewN | apply Kd.R_drew));exact HO_5.out⟩,⟨by (try simp only [hl7_2]);(try simp only [hl7_3]);(try simp only [hl7_4]);(with_reducible repeat (first | apply Kd.R_alloc | apply Kd.R_drewN | apply Kd.R_drew));exact HO_7.out⟩,⟨by repeat (first | (with_reducible first | exact HB.out | apply below_alloc | apply pw_below_drewN | apply below_drew1) | exact HB.out)⟩⟩
                              ·rw [if_neg c45] at H
                               exact absurd H (by simp)
                             ·replace c44:=Bool.eq_false_iff.mpr c44
                              subst c44
                              have H1 : (lapidaryref10_one.l3 kj26 l0 a1 x5_1 x7_4 x8_4 x9_4 x10_3 (wrap64 (x11_4+1))) = some r:=by rw [if_neg (show ¬ (false = true) by decide)] at H;exact H
                              clear H
                              have H:=H1
                              clear H1
                              have H':=aMx8 H
                              clear H
                              try go_wp2
                              have n0_:=aMx8 (Kd.R_drew HO_5.out)
                              have n1_:=aMx8 (Kd.R_drew HO_7.out)
                              have n2_:=aMx8 (below_drew1 HB.out)
                              clear HO_5
                              clear HO_7
                              clear HB
                              have HO_5:=n0_
                              have HO_7:=n1_
                              have HB:=n2_
                              clear n0_ n1_ n2_
                              have p171 : 0 ≤ (x11_4 : Int):=of_decide_eq_true (by first | (with_reducible assumption) | assumption)
                              have q171 : x11_4 < (x7_4.length : Int):=of_decide_eq_true (by first | (with_reducible assumption) | assumption)
                              obtain ⟨ad171,e171,hx171_0⟩:=Kd.at_bool (Kd.R_reads' HO_7.out).2.2 x11_4 p171 q171
                              (try rw [← Nbq34.out] at hx171_0)
                              obtain rfl : (⟨go19,0,none⟩ : Addr) = ad171:=(by injection e171)
                              (first | simp only [add_plain] at hx171_0 | simp only [add_at] at hx171_0 | simp only [Addr.add,Nat.zero_add] at hx171_0 | skip)
                              replace p171:=eq_true p171
                              replace q171:=eq_true q171
                              have p172 : 0 ≤ (x10_3 : Int):=of_decide_eq_true (by first | (with_reducible assumption) | assumption)
                              have q172 : x10_3 < (x5_1.length : Int):=of_decide_eq_true (by first | (with_reducible assumption) | assumption)
                              obtain ⟨ad172,e172,hx172_0⟩:=Kd.at_int (Kd.R_reads' HO_5.out).2.2 x10_3 p172 q172
                              cases e172
                              replace p172:=eq_true p172
                              replace q172:=eq_true q172
                              have p173 : 0 ≤ ((rd x5_1 x10_3) : Int):=of_decide_eq_true (by first | (with_reducible assumption) | assumption)
                              have q173 : (rd x5_1 x10_3) < (l0.length : Int):=of_decide_eq_true (by first | (with_reducible assumption) | assumption)
                              obtain ⟨ad173,e173,hx173_0,hx173_1,hx173_2⟩:=at_T47 HR0.out (rd x5_1 x10_3) p173 q173
                              have hw173_2:=hx173_2
                              have hw173_1:=hx173_1
                              have hw173_0:=hx173_0
                              cases e173
                              replace hx173_0:=(HB.out.cell (World.block_lt_of_cell? w _ hx173_0)).trans hx173_0
                              replace hx173_1:=(HB.out.cell (World.block_lt_of_cell? w _ hx173_1)).trans hx173_1
                              replace hx173_2:=(HB.out.cell (World.block_lt_of_cell? w _ hx173_2)).trans hx173_2
                              replace p173:=eq_true p173
                              replace q173:=eq_true q173
                              have p174 : 0 ≤ (x11_4 : Int):=of_decide_eq_true (by first | (with_reducible assumption) | assumption)
                              have q174 : x11_4 < (x5_1.length : Int):=of_decide_eq_true (by first | (with_reducible assumption) | assumption)
                              obtain ⟨ad174,e174,hx174_0⟩:=Kd.at_int (Kd.R_reads' HO_5.out).2.2 x11_4 p174 q174
                              obtain rfl : ad172 = ad174:=(by injection e174)
                              replace p174:=eq_true p174
                              replace q174:=eq_true q174
                              have p175 : 0 ≤ ((rd x5_1 x11_4) : Int):=of_decide_eq_true (by first | (with_reducible assumption) | assumption)
                              have q175 : (rd x5_1 x11_4) < (l0.length : Int):=of_decide_eq_true (by first | (with_reducible assumption) | assumption)
                              obtain ⟨ad175,e175,hx175_0,hx175_1,hx175_2⟩:=at_T47 HR0.out (rd x5_1 x11_4) p175 q175
                              have hw175_2:=hx175_2
                              have hw175_1:=hx175_1
                              have hw175_0:=hx175_0
                              obtain rfl : ad173 = ad175:=(by injection e175)
                              replace hx175_0:=(HB.out.cell (World.block_lt_of_cell? w _ hx175_0)).trans hx175_0
                              replace hx175_1:=(HB.out.cell (World.block_lt_of_cell? w _ hx175_1)).trans hx175_1
                              replace hx175_2:=(HB.out.cell (World.block_lt_of_cell? w _ hx175_2)).trans hx175_2
                              replace p175:=eq_true p175
                              replace q175:=eq_true q175
                              refine start_ (n:=22) (S:=fun w' => w'.cell? ⟨go19,(x11_4).toNat,none⟩ = some (.bool true) ∧ w'.cell? (ad172.add (x10_3).toNat) = some (.int .i64 (rd x5_1 x10_3)) ∧ w'.cell? (ad173.add (((rd x5_1 x10_3)).toNat * 3)) = some (.int .i64 ((rd_T47 l0 (rd x5_1 x10_3)).f0)) ∧ w'.cell? ⟨(ad173.add (((rd x5_1 x10_3)).toNat * 3)).block,(ad173.add (((rd x5_1 x10_3)).toNat * 3)).off+1,none⟩ = some (.int .i64 ((rd_T47 l0 (rd x5_1 x10_3)).f1)) ∧ w'.cell? ⟨(ad173.add (((rd x5_1 x10_3)).toNat * 3)).block,(ad173.add (((rd x5_1 x10_3)).toNat * 3)).off+2,none⟩ = some (.int .i64 ((rd_T47 l0 (rd x5_1 x10_3)).f2)) ∧ w'.cell? (ad172.add (x11_4).toNat) = some (.int .i64 (rd x5_1 x11_4)) ∧ w'.cell? (ad173.add (((rd x5_1 x11_4)).toNat * 3)) = some (.int .i64 ((rd_T47 l0 (rd x5_1 x11_4)).f0)) ∧ w'.cell? ⟨(ad173.add (((rd x5_1 x11_4)).toNat * 3)).block,(ad173.add (((rd x5_1 x11_4)).toNat * 3)).off+1,none⟩ = some (.int .i64 ((rd_T47 l0 (rd x5_1 x11_4)).f1)) ∧ w'.cell? ⟨(ad173.add (((rd x5_1 x11_4)).toNat * 3)).block,(ad173.add (((rd x5_1 x11_4)).toNat * 3)).off+2,none⟩ = some (.int .i64 ((rd_T47 l0 (rd x5_1 x11_4)).f2))) (ds:=[]) #[false,false,false,false,false,false,false,false,false,false,false,false,false,false,false,false,false,false,false,false,false,false] (by kernel_rfl) rfl rfl ⟨hx171_0,hx172_0,((HB.out.cell (World.block_lt_of_cell? w _ hw173_0)).trans hw173_0),((HB.out.cell (World.block_lt_of_cell? w _ hw173_1)).trans hw173_1),((HB.out.cell (World.block_lt_of_cell? w _ hw173_2)).trans hw173_2),hx174_0,((HB.out.cell (World.block_lt_of_cell? w _ hw175_0)).trans hw175_0),((HB.out.cell (World.block_lt_of_cell? w _ hw175_1)).trans hw175_1),((HB.out.cell (World.block_lt_of_cell? w _ hw175_2)).trans hw175_2)⟩ (fun hHeld => ?_);refine with_tabW lapidaryref10_one.tab21 lapidaryref10_one.bits21 (fun HT_ HW_ => ?_)
                              generalize wc.drew = w51 at HO_5 HO_7 HB hx171_0 hx172_0 hx173_0 hx173_1 hx173_2 hx174_0 hx175_0 hx175_1 hx175_2 hHeld ⊢
                              refine pure_ (i:=0) (N:=some 75) (v:=?_) (a':=?_) #[true,false,false,false,false,false,false,false,false,false,false,false,false,false,false,false,false,false,false,false,false,false] rfl rfl (any_of HT_.out (by kernel_rfl)) (fun _ _ _ h => h) (Or.inl ⟨by rfl,?_⟩) ?_ ?_
                              rotate_left
                              ·intro w'
                               go_simp
                               with_reducible rfl
                              rotate_left
                              ·simp only [Act.put,sAx8,sBx8,sCx8,i64_w,i32_w]
                               rfl
                              refine pure_ (i:=1) (N:=some 76) (v:=?_) (a':=?_) #[true,true,false,false,false,false,false,false,false,false,false,false,false,false,false,false,false,false,false,false,false,false] rfl rfl (any_of HT_.out (by kernel_rfl)) (fun _ _ _ h => h) (Or.inl ⟨by rfl,?_⟩) ?_ ?_
                              rotate_left
                              ·intro w'
                               go_simp
                               with_reducible rfl
                              rotate_left
                              ·simp only [Act.put,sAx8,sBx8,sCx8,i64_w,i32_w]
                               rfl
                              refine pure_ (i:=2) (N:=some 77) (v:=?_) (a':=?_) #[true,true,true,false,false,false,false,false,false,false,false,false,false,false,false,false,false,false,false,false,false,false] rfl rfl (any_of HT_.out (by kernel_rfl)) (fun _ _ _ h => h) (Or.inl ⟨by rfl,?_⟩) ?_ ?_
                              rotate_left
                              ·intro w'
                               go_simp
                               with_reducible rfl
                              rotate_left
                              ·simp only [Act.put,sAx8,sBx8,sCx8,i64_w,i32_w]
                               rfl
                              refine take_ (i:=3) (N:=some 78) (v:=?_) (a':=?_) #[true,true,true,true,false,false,false,false,false,false,false,false,false,false,false,false,false,false,false,false,false,false] rfl rfl (take_ofW HT_.out HW_.out (by kernel_rfl)) (fun _ _ _ h => h) (Or.inl ⟨by rfl,?_⟩) hHeld ?_ ?_
                              rotate_left
                              ·rintro w' ⟨s0,s1,s2,s3,s4,s5,s6,s7,s8⟩
                               go_simp
                               with_reducible rfl
                              rotate_left
                              ·simp only [Act.put,sAx8,sBx8,sCx8,i64_w,i32_w]
                               rfl
                              refine pure_ (i:=4) (N:=some 79) (v:=?_) (a':=?_) #[true,true,true,true,true,false,false,false,false,false,false,false,false,false,false,false,false,false,false,false,false,false] rfl rfl (any_of HT_.out (by kernel_rfl)) (fun _ _ _ h => h) (Or.inl ⟨by rfl,?_⟩) ?_ ?_
                              rotate_left
                              ·intro w'
                               go_simp
                               with_reducible rfl
                              rotate_left
                              ·simp only [Act.put,sAx8,sBx8,sCx8,i64_w,i32_w]
                               rfl
                              refine pure_ (i:=5) (N:=some 80) (v:=?_) (a':=?_) #[true,true,true,true,true,true,false,false,false,false,false,false,false,false,false,false,false,false,false,false,false,false] rfl rfl (any_of HT_.out (by kernel_rfl)) (fun _ _ _ h => h) (Or.inl ⟨by rfl,?_⟩) ?_ ?_
                              rotate_left
                              ·intro w'
                               go_simp
                               with_reducible rfl
                              rotate_left
                              ·simp only [Act.put,sAx8,sBx8,sCx8,i64_w,i32_w]
                               rfl
                              refine pure_ (i:=6) (N:=some 81) (v:=?_) (a':=?_) #[true,true,true,true,true,true,true,false,false,false,false,false,false,false,false,false,false,false,false,false,false,false] rfl rfl (any_of HT_.out (by kernel_rfl)) (fun _ _ _ h => h) (Or.inl ⟨by rfl,?_⟩) ?_ ?_
                              rotate_left
                              ·intro w'
                               go_simp
                               with_reducible rfl
                              rotate_left
                              ·simp only [Act.put,sAx8,sBx8,sCx8,i64_w,i32_w]
                               rfl
                              refine pure_ (i:=7) (N:=some 82) (v:=?_) (a':=?_) #[true,true,true,true,true,true,true,true,false,false,false,false,false,false,false,false,false,false,false,false,false,false] rfl rfl (any_of HT_.out (by kernel_rfl)) (fun _ _ _ h => h) (Or.inl ⟨by rfl,?_⟩) ?_ ?_
                              rotate_left
                              ·intro w'
                               go_simp
                               with_reducible rfl
                              rotate_left
                              ·simp only [Act.put,sAx8,sBx8,sCx8,i64_w,i32_w]
                               rfl
                              refine pure_ (i:=8) (N:=some 83) (v:=?_) (a':=?_) #[true,true,true,true,true,true,true,true,true,false,false,false,false,false,false,false,false,false,false,false,false,false] rfl rfl (any_of HT_.out (by kernel_rfl)) (fun _ _ _ h => h) (Or.inl ⟨by rfl,?_⟩) ?_ ?_
                              rotate_left
                              ·intro w'
                               go_simp
                               with_reducible rfl
                              rotate_left
                              ·simp only [Act.put,sAx8,sBx8,sCx8,i64_w,i32_w]
                               rfl
                              refine pure_ (i:=12) (N:=some 87) (v:=?_) (a':=?_) #[true,true,true,true,true,true,true,true,true,false,false,false,true,false,false,false,false,false,false,false,false,false] rfl rfl (any_of HT_.out (by kernel_rfl)) (fun _ _ _ h => h) (Or.inl ⟨by rfl,?_⟩) ?_ ?_
                              rotate_left
                              ·intro w'
                               go_simp
                               with_reducible rfl
                              rotate_left
                              ·simp only [Act.put,sAx8,sBx8,sCx8,i64_w,i32_w]
                               rfl
                              refine pure_ (i:=13) (N:=some 88) (v:=?_) (a':=?_) #[true,true,true,true,true,true,true,true,true,false,false,false,true,true,false,false,false,false,false,false,false,false] rfl rfl (any_of HT_.out (by kernel_rfl)) (fun _ _ _ h => h) (Or.inl ⟨by rfl,?_⟩) ?_ ?_
                              rotate_left
                              ·intro w'
                               go_simp
                               with_reducible rfl
                              rotate_left
                              ·simp only [Act.put,sAx8,sBx8,sCx8,i64_w,i32_w]
                               rfl
                              refine pure_ (i:=14) (N:=some 89) (v:=?_) (a':=?_) #[true,true,true,true,true,true,true,true,true,false,false,false,true,true,true,false,false,false,false,false,false,false] rfl rfl (any_of HT_.out (by kernel_rfl)) (fun _ _ _ h => h) (Or.inl ⟨by rfl,?_⟩) ?_ ?_
                              rotate_left
                              ·intro w'
                               go_simp
                               with_reducible rfl
                              rotate_left
                              ·simp only [Act.put,sAx8,sBx8,sCx8,i64_w,i32_w]
                               rfl
                              refine pure_ (i:=15) (N:=some 90) (v:=?_) (a':=?_) #[true,true,true,true,true,true,true,true,true,false,false,false,true,true,true,true,false,false,false,false,false,false] rfl rfl (any_of HT_.out (by kernel_rfl)) (fun _ _ _ h => h) (Or.inl ⟨by rfl,?_⟩) ?_ ?_
                              rotate_left
                              ·intro w'
                               go_simp
                               with_reducible rfl
                              rotate_left
                              ·simp only [Act.put,sAx8,sBx8,sCx8,i64_w,i32_w]
                               rfl
                              refine pure_ (i:=19) (N:=some 94) (v:=?_) (a':=?_) #[true,true,true,true,true,true,true,true,true,false,false,false,true,true,true,true,false,false,false,true,false,false] rfl rfl (any_of HT_.out (by kernel_rfl)) (fun _ _ _ h => h) (Or.inl ⟨by rfl,?_⟩) ?_ ?_
                              rotate_left
                              ·intro w'
                               go_simp
                               with_reducible rfl
                              rotate_left
                              ·simp only [Act.put,sAx8,sBx8,sCx8,i64_w,i32_w]
                               rfl
                              refine take_ (i:=9) (N:=some 84) (v:=?_) (a':=?_) #[true,true,true,true,true,true,true,true,true,true,false,false,true,true,true,true,false,false,false,true,false,false] rfl rfl (take_ofW HT_.out HW_.out (by kernel_rfl)) (fun _ _ _ h => h) (Or.inl ⟨by rfl,?_⟩) hHeld ?_ ?_
                              rotate_left
                              ·rintro w' ⟨s0,s1,s2,s3,s4,s5,s6,s7,s8⟩
                               go_simp
                               with_reducible rfl
                              rotate_left
                              ·simp only [Act.put,sAx8,sBx8,sCx8,i64_w,i32_w]
                               rfl
                              refine pure_ (i:=10) (N:=some 85) (v:=?_) (a':=?_) #[true,true,true,true,true,true,true,true,true,true,true,false,true,true,true,true,false,false,false,true,false,false] rfl rfl (any_of HT_.out (by kernel_rfl)) (fun _ _ _ h => h) (Or.inl ⟨by rfl,?_⟩) ?_ ?_
                              rotate_left
                              ·intro w'
                               go_simp
                               with_reducible rfl
                              rotate_left
                              ·simp only [Act.put,sAx8,sBx8,sCx8,i64_w,i32_w]
                               rfl
                              refine take_ (i:=11) (N:=some 86) (v:=?_) (a':=?_) #[true,true,true,true,true,true,true,true,true,true,true,true,true,true,true,true,false,false,false,true,false,false] rfl rfl (take_ofW HT_.out HW_.out (by kernel_rfl)) (fun _ _ _ h => h) (Or.inl ⟨by rfl,?_⟩) hHeld ?_ ?_
                              rotate_left
                              ·rintro w' ⟨s0,s1,s2,s3,s4,s5,s6,s7,s8⟩
                               go_simp
                               with_reducible rfl
                              rotate_left
                              ·simp only [Act.put,sAx8,sBx8,sCx8,i64_w,i32_w]
                               rfl
                              refine take_ (i:=16) (N:=some 91) (v:=?_) (a':=?_) #[true,true,true,true,true,true,true,true,true,true,true,true,true,true,true,true,true,false,false,true,false,false] rfl rfl (take_ofW HT_.out HW_.out (by kernel_rfl)) (fun _ _ _ h => h) (Or.inl ⟨by rfl,?_⟩) hHeld ?_ ?_
                              rotate_left
                              ·rintro w' ⟨s0,s1,s2,s3,s4,s5,s6,s7,s8⟩
                               go_simp
                               with_reducible rfl
                              rotate_left
                              ·simp only [Act.put,sAx8,sBx8,sCx8,i64_w,i32_w]
                               rfl
                              refine pure_ (i:=17) (N:=some 92) (v:=?_) (a':=?_) #[true,true,true,true,true,true,true,true,true,true,true,true,true,true,true,true,true,true,false,true,false,false] rfl rfl (any_of HT_.out (by kernel_rfl)) (fun _ _ _ h => h) (Or.inl ⟨by rfl,?_⟩) ?_ ?_
                              rotate_left
                              ·intro w'
                               go_simp
                               with_reducible rfl
                              rotate_left
                              ·simp only [Act.put,sAx8,sBx8,sCx8,i64_w,i32_w]
                               rfl
                              refine take_ (i:=18) (N:=some 93) (v:=?_) (a':=?_) #[true,true,true,true,true,true,true,true,true,true,true,true,true,true,true,true,true,true,true,true,false,false] rfl rfl (take_ofW HT_.out HW_.out (by kernel_rfl)) (fun _ _ _ h => h) (Or.inl ⟨by rfl,?_⟩) hHeld ?_ ?_
                              rotate_left
                              ·rintro w' ⟨s0,s1,s2,s3,s4,s5,s6,s7,s8⟩
                               go_simp
                               with_reducible rfl
                              rotate_left
                              ·simp only [Act.put,sAx8,sBx8,sCx8,i64_w,i32_w]
                               rfl
                              refine one_ (i:=20) (N:=some 95) #[true,true,true,true,true,true,true,true,true,true,true,true,true,true,true,true,true,true,true,true,true,false] rfl rfl (one_of HT_.out (by kernel_rfl)) (by decide) (fun K hK => ?_)
                              refine goes_ Tryd.func80 (by kernel_rfl) rfl #[.agg #[.int .i64 ((rd_T47 l0 (rd x5_1 x10_3)).f0),.int .i64 ((rd_T47 l0 (rd x5_1 x10_3)).f1),.int .i64 ((rd_T47 l0 (rd x5_1 x10_3)).f2)],.agg #[.int .i64 ((rd_T47 l0 (rd x5_1 x11_4)).f0),.int .i64 ((rd_T47 l0 (rd x5_1 x11_4)).f1),.int .i64 ((rd_T47 l0 (rd x5_1 x11_4)).f2)],.int .i64 a1] (by rfl) rfl rfl (by (try simp only [List.map_toArray,List.map_cons,List.map_nil]);first | done | rfl | (simp only [List.length_drop,List.length_take];rfl)) ?_
                              with_reducible refine (lapidaryref10_joined.calls kj26 ((rd_T47 l0 (rd x5_1 x10_3)).f0) ((rd_T47 l0 (rd x5_1 x10_3)).f1) ((rd_T47 l0 (rd x5_1 x10_3)).f2) ((rd_T47 l0 (rd x5_1 x11_4)).f0) ((rd_T47 l0 (rd x5_1 x11_4)).f1) ((rd_T47 l0 (rd x5_1 x11_4)).f2) a1 false _ A43.out).mono ?_
                              rintro e w52 ⟨rfl,hb⟩
                              have HS0_:=(hb.cell (World.block_lt_of_cell? _ _ (hHeld.1))).trans (hHeld.1)
                              have HS1_:=(hb.cell (World.block_lt_of_cell? _ _ (hHeld.2.1))).trans (hHeld.2.1)
                              have HS5_:=(hb.cell (World.block_lt_of_cell? _ _ (hHeld.2.2.2.2.2.1))).trans (hHeld.2.2.2.2.2.1)
                              refine ⟨_,rfl,?_⟩
                              have n0_:=aMx8 (Kd.R_below (by (with_reducible repeat (first | apply Kd.R_alloc | apply Kd.R_drewN | apply Kd.R_drew));exact HO_5.out) hb)
                              have n1_:=aMx8 (Kd.R_below (by (with_reducible repeat (first | apply Kd.R_alloc | apply Kd.R_drewN | apply Kd.R_drew));exact HO_7.out) hb)
                              have n2_:=aMx8 (below_step (by repeat (first | (with_reducible first | exact HB.out | apply below_alloc | apply pw_below_drewN | apply below_drew1) | exact HB.out)) hb)
                              clear HO_5
                              clear HO_7
                              clear HB
                              have HO_5:=n0_
                              have HO_7:=n1_
                              have HB:=n2_
                              clear n0_ n1_ n2_
                              (try clear hb)
                              (try clear hb2)
                              (try clear hk)
                              (try clear hi)
                              refine hK.out _ _ ⟨HS0_,HS1_,((HB.out.cell (World.block_lt_of_cell? w _ hw173_0)).trans hw173_0),((HB.out.cell (World.block_lt_of_cell? w _ hw173_1)).trans hw173_1),((HB.out.cell (World.block_lt_of_cell? w _ hw173_2)).trans hw173_2),HS5_,((HB.out.cell (World.block_lt_of_cell? w _ hw175_0)).trans hw175_0),((HB.out.cell (World.block_lt_of_cell? w _ hw175_1)).trans hw175_1),((HB.out.cell (World.block_lt_of_cell? w _ hw175_2)).trans hw175_2)⟩ (fun hHeld => ?_)
                              clear hK K
                              refine norm_ (a':=?_) ?_ ?_
                              rotate_left
                              ·show Act.put _ (some 95) _ = _
                               simp only [Act.put,sAx8,sBx8,sCx8,i64_w,i32_w]
                               rfl
                              refine pure_ (i:=21) (N:=some 96) (v:=?_) (a':=?_) #[true,true,true,true,true,true,true,true,true,true,true,true,true,true,true,true,true,true,true,true,true,true] rfl rfl (any_of HT_.out (by kernel_rfl)) (fun _ _ _ h => h) (Or.inl ⟨by rfl,?_⟩) ?_ ?_
                              rotate_left
                              ·intro w'
                               go_simp
                               with_reducible rfl
                              rotate_left
                              ·simp only [Act.put,sAx8,sBx8,sCx8,i64_w,i32_w]
                               rfl
                              refine done_ (done_of HT_.out (by kernel_rfl)) ?_
                              try go_wp2
                              (try simp only [← hl7_4])
                              go_roundg kj26
                              case measure => have:=HK1.out;have:=HK2.out;have:=HK3.out;have:=HK4.out;have:=HJ26.out;omega
                              case rel => exact ⟨(x7_4),(x8_4),(x9_4),(wrap64 (x11_4+1)),(by first | rfl | (simp;done) | (simp [*];done) | (simp [wrap64];done)),(by first | rfl | (simp;done) | (simp [*];done) | (simp [wrap64];done)),(by first | rfl | (simp;done) | (simp [*];done) | (simp [wrap64];done)),H',⟨by have:=HK1.out;have:=HK2.out;have:=HK3.out;have:=HK4.out;have:=HJ26.out;omega⟩,⟨by (try simp only [hl7_2]);(try simp only [hl7_3]);(try simp only [hl7_4]);(with_reducible repeat (first | apply Kd.R_alloc | apply Kd.R_drewN | apply Kd.R_drew));exact HO_5.out⟩,⟨by (try simp only [hl7_2]);(try simp only [hl7_3]);(try simp only [hl7_4]);(with_reducible repeat (first | apply Kd.R_alloc | apply Kd.R_drewN | apply Kd.R_drew));exact HO_7.out⟩,⟨by repeat (first | (with_reducible first | exact HB.out | apply below_alloc | apply pw_below_drewN | apply below_drew1) | exact HB.out)⟩⟩
                            ·rw [if_neg c42] at H
                             exact absurd H (by simp)
                           ·rw [if_neg c41] at H
                            exact absurd H (by simp)
                          ·rw [if_neg c40] at H
                           exact absurd H (by simp)
                         ·rw [if_neg c39] at H
                          exact absurd H (by simp)
                        ·rw [if_neg c38] at H
                         exact absurd H (by simp)
                       ·rw [if_neg c37] at H
                        exact absurd H (by simp)
                      ·rw [if_neg c36] at H
                       exact absurd H (by simp)
                     ·replace c35:=Bool.eq_false_iff.mpr c35
                      subst c35
                      have H1 : (lapidaryref10_one.l3 kj26 l0 a1 x5_1 x7_4 x8_4 x9_4 x10_3 (wrap64 (x11_4+1))) = some r:=by rw [if_neg (show ¬ (false = true) by decide)] at H;exact H
                      clear H
                      have H:=H1
                      clear H1
                      have H':=aMx8 H
                      clear H
                      try go_wp2
                      have n0_:=aMx8 (Kd.R_drew HO_5.out)
                      have n1_:=aMx8 (Kd.R_drew HO_7.out)
                      have n2_:=aMx8 (below_drew1 HB.out)
                      clear HO_5
                      clear HO_7
                      clear HB
                      have HO_5:=n0_
                      have HO_7:=n1_
                      have HB:=n2_
                      clear n0_ n1_ n2_
                      have p171 : 0 ≤ (x11_4 : Int):=of_decide_eq_true (by first | (with_reducible assumption) | assumption)
                      have q171 : x11_4 < (x7_4.length : Int):=of_decide_eq_true (by first | (with_reducible assumption) | assumption)
                      obtain ⟨ad171,e171,hx171_0⟩:=Kd.at_bool (Kd.R_reads' HO_7.out).2.2 x11_4 p171 q171
                      (try rw [← Nbq34.out] at hx171_0)
                      obtain rfl : (⟨go19,0,none⟩ : Addr) = ad171:=(by injection e171)
                      (first | simp only [add_plain] at hx171_0 | simp only [add_at] at hx171_0 | simp only [Addr.add,Nat.zero_add] at hx171_0 | skip)
                      replace p171:=eq_true p171
                      replace q171:=eq_true q171
                      refine start_ (n:=22) (S:=fun w' => w'.cell? ⟨go19,(x11_4).toNat,none⟩ = some (.bool false)) (ds:=[]) #[false,false,false,false,false,false,false,false,false,false,false,false,false,false,false,false,false,false,false,false,false,false] (by kernel_rfl) rfl rfl (hx171_0) (fun hHeld => ?_);refine with_tabW lapidaryref10_one.tab21 lapidaryref10_one.bits21 (fun HT_ HW_ => ?_)
                      generalize wc.drew = w53 at HO_5 HO_7 HB hx171_0 hHeld ⊢
                      refine pure_ (i:=0) (N:=some 75) (v:=?_) (a':=?_) #[true,false,false,false,false,false,false,false,false,false,false,false,false,false,false,false,false,false,false,false,false,false] rfl rfl (any_of HT_.out (by kernel_rfl)) (fun _ _ _ h => h) (Or.inl ⟨by rfl,?_⟩) ?_ ?_
                      rotate_left
                      ·intro w'
                       go_simp
                       with_reducible rfl
                      rotate_left
                      ·simp only [Act.put,sAx8,sBx8,sCx8,i64_w,i32_w]
                       rfl
                      refine pure_ (i:=1) (N:=some 76) (v:=?_) (a':=?_) #[true,true,false,false,false,false,false,false,false,false,false,false,false,false,false,false,false,false,false,false,false,false] rfl rfl (any_of HT_.out (by kernel_rfl)) (fun _ _ _ h => h) (Or.inl ⟨by rfl,?_⟩) ?_ ?_
                      rotate_left
                      ·intro w'
                       go_simp
                       with_reducible rfl
                      rotate_left
                      ·simp only [Act.put,sAx8,sBx8,sCx8,i64_w,i32_w]
                       rfl
                      refine pure_ (i:=2) (N:=some 77) (v:=?_) (a':=?_) #[true,true,true,false,false,false,false,false,false,false,false,false,false,false,false,false,false,false,false,false,false,false] rfl rfl (any_of HT_.out (by kernel_rfl)) (fun _ _ _ h => h) (Or.inl ⟨by rfl,?_⟩) ?_ ?_
                      rotate_left
                      ·intro w'
                       go_simp
                       with_reducible rfl
                      rotate_left
                      ·simp only [Act.put,sAx8,sBx8,sCx8,i64_w,i32_w]
                       rfl
                      refine take_ (i:=3) (N:=some 78) (v:=?_) (a':=?_) #[true,true,true,true,false,false,false,false,false,false,false,false,false,false,false,false,false,false,false,false,false,false] rfl rfl (take_ofW HT_.out HW_.out (by kernel_rfl)) (fun _ _ _ h => h) (Or.inl ⟨by rfl,?_⟩) hHeld ?_ ?_
                      rotate_left
                      ·intro w' s0
                       go_simp
                       with_reducible rfl
                      rotate_left
                      ·simp only [Act.put,sAx8,sBx8,sCx8,i64_w,i32_w]
                       rfl
                      refine pure_ (i:=4) (N:=some 79) (v:=?_) (a':=?_) #[true,true,true,true,true,false,false,false,false,false,false,false,false,false,false,false,false,false,false,false,false,false] rfl rfl (any_of HT_.out (by kernel_rfl)) (fun _ _ _ h => h) (Or.inl ⟨by rfl,?_⟩) ?_ ?_
                      rotate_left
                      ·intro w'
                       go_simp
                       with_reducible rfl
                      rotate_left
                      ·simp only [Act.put,sAx8,sBx8,sCx8,i64_w,i32_w]
                       rfl
                      refine pure_ (i:=5) (N:=some 80) (v:=undef) (a':=?_) #[true,true,true,true,true,true,false,false,false,false,false,false,false,false,false,false,false,false,false,false,false,false] rfl rfl (any_of HT_.out (by kernel_rfl)) (fun _ _ _ h => h) (Or.inr ⟨by rfl,rfl⟩) ?_ ?_
                      rotate_left
                      ·simp only [Act.put,sAx8,sBx8,sCx8,i64_w,i32_w]
                       rfl
                      refine pure_ (i:=6) (N:=some 81) (v:=undef) (a':=?_) #[true,true,true,true,true,true,true,false,false,false,false,false,false,false,false,false,false,false,false,false,false,false] rfl rfl (any_of HT_.out (by kernel_rfl)) (fun _ _ _ h => h) (Or.inr ⟨by rfl,rfl⟩) ?_ ?_
                      rotate_left
                      ·simp only [Act.put,sAx8,sBx8,sCx8,i64_w,i32_w]
                       rfl
                      refine pure_ (i:=7) (N:=some 82) (v:=undef) (a':=?_) #[true,true,true,true,true,true,true,true,false,false,false,false,false,false,false,false,false,false,false,false,false,false] rfl rfl (any_of HT_.out (by kernel_rfl)) (fun _ _ _ h => h) (Or.inr ⟨by rfl,rfl⟩) ?_ ?_
                      rotate_left
                      ·simp only [Act.put,sAx8,sBx8,sCx8,i64_w,i32_w]
                       rfl
                      refine pure_ (i:=8) (N:=some 83) (v:=undef) (a':=?_) #[true,true,true,true,true,true,true,true,true,false,false,false,false,false,false,false,false,false,false,false,false,false] rfl rfl (any_of HT_.out (by kernel_rfl)) (fun _ _ _ h => h) (Or.inr ⟨by rfl,rfl⟩) ?_ ?_
                      rotate_left
                      ·simp only [Act.put,sAx8,sBx8,sCx8,i64_w,i32_w]
                       rfl
                      refine pure_ (i:=9) (N:=some 84) (v:=undef) (a':=?_) #[true,true,true,true,true,true,true,true,true,true,false,false,false,false,false,false,false,false,false,false,false,false] rfl rfl (any_of HT_.out (by kernel_rfl)) (fun _ _ _ h => h) (Or.inr ⟨by rfl,rfl⟩) ?_ ?_
                      rotate_left
                      ·simp only [Act.put,sAx8,sBx8,sCx8,i64_w,i32_w]
                       rfl
                      refine pure_ (i:=10) (N:=some 85) (v:=undef) (a':=?_) #[true,true,true,true,true,true,true,true,true,true,true,false,false,false,false,false,false,false,false,false,false,false] rfl rfl (any_of HT_.out (by kernel_rfl)) (fun _ _ _ h => h) (Or.inr ⟨by rfl,rfl⟩) ?_ ?_
                      rotate_left
                      ·simp only [Act.put,sAx8,sBx8,sCx8,i64_w,i32_w]
                       rfl
                      refine pure_ (i:=11) (N:=some 86) (v:=undef) (a':=?_) #[true,true,true,true,true,true,true,true,true,true,true,true,false,false,false,false,false,false,false,false,false,false] rfl rfl (any_of HT_.out (by kernel_rfl)) (fun _ _ _ h => h) (Or.inr ⟨by rfl,rfl⟩) ?_ ?_
                      rotate_left
                      ·simp only [Act.put,sAx8,sBx8,sCx8,i64_w,i32_w]
                       rfl
                      refine pure_ (i:=12) (N:=some 87) (v:=undef) (a':=?_) #[true,true,true,true,true,true,true,true,true,true,true,true,true,false,false,false,false,false,false,false,false,false] rfl rfl (any_of HT_.out (by kernel_rfl)) (fun _ _ _ h => h) (Or.inr ⟨by rfl,rfl⟩) ?_ ?_
                      rotate_left
                      ·simp only [Act.put,sAx8,sBx8,sCx8,i64_w,i32_w]
                       rfl
                      refine pure_ (i:=13) (N:=some 88) (v:=undef) (a':=?_) #[true,true,true,true,true,true,true,true,true,true,true,true,true,true,false,false,false,false,false,false,false,false] rfl rfl (any_of HT_.out (by kernel_rfl)) (fun _ _ _ h => h) (Or.inr ⟨by rfl,rfl⟩) ?_ ?_
                      rotate_left
                      ·simp only [Act.put,sAx8,sBx8,sCx8,i64_w,i32_w]
                       rfl
                      refine pure_ (i:=14) (N:=some 89) (v:=undef) (a':=?_) #[true,true,true,true,true,true,true,true,true,true,true,true,true,true,true,false,false,false,false,false,false,false] rfl rfl (any_of HT_.out (by kernel_rfl)) (fun _ _ _ h => h) (Or.inr ⟨by rfl,rfl⟩) ?_ ?_
                      rotate_left
                      ·simp only [Act.put,sAx8,sBx8,sCx8,i64_w,i32_w]
                       rfl
                      refine pure_ (i:=15) (N:=some 90) (v:=undef) (a':=?_) #[true,true,true,true,true,true,true,true,true,true,true,true,true,true,true,true,false,false,false,false,false,false] rfl rfl (any_of HT_.out (by kernel_rfl)) (fun _ _ _ h => h) (Or.inr ⟨by rfl,rfl⟩) ?_ ?_
                      rotate_left
                      ·simp only [Act.put,sAx8,sBx8,sCx8,i64_w,i32_w]
                       rfl
                      refine pure_ (i:=16) (N:=some 91) (v:=undef) (a':=?_) #[true,true,true,true,true,true,true,true,true,true,true,true,true,true,true,true,true,false,false,false,false,false] rfl rfl (any_of HT_.out (by kernel_rfl)) (fun _ _ _ h => h) (Or.inr ⟨by rfl,rfl⟩) ?_ ?_
                      rotate_left
                      ·simp only [Act.put,sAx8,sBx8,sCx8,i64_w,i32_w]
                       rfl
                      refine pure_ (i:=17) (N:=some 92) (v:=undef) (a':=?_) #[true,true,true,true,true,true,true,true,true,true,true,true,true,true,true,true,true,true,false,false,false,false] rfl rfl (any_of HT_.out (by kernel_rfl)) (fun _ _ _ h => h) (Or.inr ⟨by rfl,rfl⟩) ?_ ?_
                      rotate_left
                      ·simp only [Act.put,sAx8,sBx8,sCx8,i64_w,i32_w]
                       rfl
                      refine pure_ (i:=18) (N:=some 93) (v:=undef) (a':=?_) #[true,true,true,true,true,true,true,true,true,true,true,true,true,true,true,true,true,true,true,false,false,false] rfl rfl (any_of HT_.out (by kernel_rfl)) (fun _ _ _ h => h) (Or.inr ⟨by rfl,rfl⟩) ?_ ?_
                      rotate_left
                      ·simp only [Act.put,sAx8,sBx8,sCx8,i64_w,i32_w]
                       rfl
                      refine pure_ (i:=19) (N:=some 94) (v:=undef) (a':=?_) #[true,true,true,true,true,true,true,true,true,true,true,true,true,true,true,true,true,true,true,true,false,false] rfl rfl (any_of HT_.out (by kernel_rfl)) (fun _ _ _ h => h) (Or.inr ⟨by rfl,rfl⟩) ?_ ?_
                      rotate_left
                      ·simp only [Act.put,sAx8,sBx8,sCx8,i64_w,i32_w]
                       rfl
                      refine pure_ (i:=20) (N:=some 95) (v:=undef) (a':=?_) #[true,true,true,true,true,true,true,true,true,true,true,true,true,true,true,true,true,true,true,true,true,false] rfl rfl (any_of HT_.out (by kernel_rfl)) (fun _ _ _ h => h) (Or.inr ⟨by rfl,rfl⟩) ?_ ?_
                      rotate_left
                      ·simp only [Act.put,sAx8,sBx8,sCx8,i64_w,i32_w]
                       rfl
                      refine pure_ (i:=21) (N:=some 96) (v:=?_) (a':=?_) #[true,true,true,true,true,true,true,true,true,true,true,true,true,true,true,true,true,true,true,true,true,true] rfl rfl (any_of HT_.out (by kernel_rfl)) (fun _ _ _ h => h) (Or.inl ⟨by rfl,?_⟩) ?_ ?_
                      rotate_left
                      ·intro w'
                       go_simp
                       with_reducible rfl
                      rotate_left
                      ·simp only [Act.put,sAx8,sBx8,sCx8,i64_w,i32_w]
                       rfl
                      refine done_ (done_of HT_.out (by kernel_rfl)) ?_
                      try go_wp2
                      (try simp only [← hl7_4])
                      go_roundg kj26
                      case measure => have:=HK1.out;have:=HK2.out;have:=HK3.out;have:=HK4.out;have:=HJ26.out;omega
                      case rel => exact ⟨(x7_4),(x8_4),(x9_4),(wrap64 (x11_4+1)),(by first | rfl | (simp;done) | (simp [*];done) | (simp [wrap64];done)),(by first | rfl | (simp;done) | (simp [*];done) | (simp [wrap64];done)),(by first | rfl | (simp;done) | (simp [*];done) | (simp [wrap64];done)),H',⟨by have:=HK1.out;have:=HK2.out;have:=HK3.out;have:=HK4.out;have:=HJ26.out;omega⟩,⟨by (try simp only [hl7_2]);(try simp only [hl7_3]);(try simp only [hl7_4]);(with_reducible repeat (first | apply Kd.R_alloc | apply Kd.R_drewN | apply Kd.R_drew));exact HO_5.out⟩,⟨by (try simp only [hl7_2]);(try simp only [hl7_3]);(try simp only [hl7_4]);(with_reducible repeat (first | apply Kd.R_alloc | apply Kd.R_drewN | apply Kd.R_drew));exact HO_7.out⟩,⟨by repeat (first | (with_reducible first | exact HB.out | apply below_alloc | apply pw_below_drewN | apply below_drew1) | exact HB.out)⟩⟩
                    ·rw [if_neg c33] at H
                     exact absurd H (by simp)
                   ·rw [if_neg c32] at H
                    exact absurd H (by simp)
                  ·replace c31:=Bool.eq_false_iff.mpr c31
                   subst c31
                   have H1 : (lapidaryref10_one.l2 kj26 l0 a1 x5_1 x7_4 x8_4 x9_4 (wrap64 (x10_3+1))) = some r:=by rw [if_neg (show ¬ (false = true) by decide)] at H;exact H
                   clear H
                   have H:=H1
                   clear H1
                   have H':=aMx8 H
                   clear H
                   go_wp2
                   (try simp only [← hl7_3,← hl7_4])
                   go_roundg kj26
                   case measure => have:=HK1.out;have:=HK2.out;have:=HK3.out;have:=HK4.out;have:=HJ26.out;omega
                   case rel => exact ⟨(x7_4),(x8_4),(x9_4),(wrap64 (x10_3+1)),(by first | rfl | (simp;done) | (simp [*];done) | (simp [wrap64];done)),(by first | rfl | (simp;done) | (simp [*];done) | (simp [wrap64];done)),(by first | rfl | (simp;done) | (simp [*];done) | (simp [wrap64];done)),H',⟨by have:=HK1.out;have:=HK2.out;have:=HK3.out;have:=HK4.out;have:=HJ26.out;omega⟩,⟨by (try simp only [hl7_2]);(try simp only [hl7_3]);(try simp only [hl7_4]);(with_reducible repeat (first | apply Kd.R_alloc | apply Kd.R_drewN | apply Kd.R_drew));exact HO_5.out⟩,⟨by (try simp only [hl7_2]);(try simp only [hl7_3]);(try simp only [hl7_4]);(with_reducible repeat (first | apply Kd.R_alloc | apply Kd.R_drewN | apply Kd.R_drew));exact HO_7.out⟩,⟨by repeat (first | (with_reducible first | exact HB.out | apply below_alloc | apply pw_below_drewN | apply below_drew1) | exact HB.out)⟩⟩
             ·rw [if_neg c26] at H
              have c26b0 : decide (x10_3 < (x5_1.length : Int)) = false:=decide_eq_false c26
              clear c26
              have H':=aMx8 H
              clear H
              go_wp2
              (try simp only [← hl7_2,← hl7_3])
              go_roundg k3
              case measure => have:=HK1.out;have:=HK2.out;have:=HK3.out;omega
              case rel => exact ⟨(x7_3),(x8_3),(x9_3),(by first | rfl | (simp;done) | (simp [*];done) | (simp [wrap64];done)),(by first | rfl | (simp;done) | (simp [*];done) | (simp [wrap64];done)),H',⟨by have:=HK1.out;have:=HK2.out;have:=HK3.out;omega⟩,⟨by (try simp only [hl7_2]);(try simp only [hl7_3]);(with_reducible repeat (first | apply Kd.R_alloc | apply Kd.R_drewN | apply Kd.R_drew));exact HO_5.out⟩,⟨by (try simp only [hl7_2]);(try simp only [hl7_3]);(with_reducible repeat (first | apply Kd.R_alloc | apply Kd.R_drewN | apply Kd.R_drew));exact HO_7.out⟩,⟨by repeat (first | (with_reducible first | exact HB.out | apply below_alloc | apply pw_below_drewN | apply below_drew1) | exact HB.out)⟩⟩
          ·replace c25:=Bool.eq_false_iff.mpr c25
           subst c25
           have H1 : (some (x8_2 == (x5_1.length : Int))) = some r:=by rw [if_neg (show ¬ (false = true) by decide)] at H;exact H
           clear H
           have H:=H1
           clear H1
           obtain rfl:=Option.some.inj H
           go_wp2
           go_ret
           exact ⟨by first | rfl | (simp [errW_none,errW_some]<;>rfl) | (simp [*,errW_none,errW_some]<;>rfl),by repeat (first | (with_reducible first | exact HB.out | apply below_alloc | apply pw_below_drewN | apply below_drew1) | exact HB.out)⟩
       ·rw [if_neg c18] at H
        exact absurd H (by simp)
      ·rw [if_neg c17] at H
       exact absurd H (by simp)
     ·rw [if_neg c16] at H
      exact absurd H (by simp)
end Go.Proofs.YtomknjmgcbbjlaaDoor.PWlk
