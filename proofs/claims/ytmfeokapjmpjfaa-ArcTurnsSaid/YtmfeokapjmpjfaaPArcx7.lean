-- Written for this claim by a program of this session.
import Derived.Test.YtmfeokapjmpjfaaPArcx0
import Derived.Test.YtmfeokapjmpjfaaPArcx1
import Derived.Test.YtmfeokapjmpjfaaPArcx6
namespace Go.Proofs.Ytmfeokapjmpjfaa.PArc
open Go.RowKit Go.Proofs.YtmfeokapjmpjfaaW.PrintWords Go.Proofs.YtmfeokapjmpjfaaW.PrintLast Go.Proofs.YtmfeokapjmpjfaaW.PrintMore
attribute [local go_sem] max2_int min2_int max_two min_two max_three min_three max_four min_four   -- for this text's walks alone
set_option linter.unusedVariables false
set_option linter.unusedSimpArgs false

attribute [local go_sem high] eqA48
/-! ### lapidaryref15_Check: function 16 -/
mutual
def lapidaryref15_Check.l0 : Nat → List (List (S48)) → Int → Int → Option (Int)
  | 0, _, _, _ => none
  | k + 1, x0, x3, x4 => if x4 < (x0.length : Int) then (if 0 ≤ x4 then (lapidaryref15_Check.l0 k x0 (wrap64 (x3 + ((rd_L2 x0 x4).length : Int))) (wrap64 (x4 + 1))) else (none)) else (if (x0.length : Int) > 2000 then (lapidaryref15_Check.j1 k x0 true) else (lapidaryref15_Check.j1 k x0 (decide (x3 > 20000))))
def lapidaryref15_Check.j1 : Nat → List (List (S48)) → Bool → Option (Int)
  | 0, _, _ => none
  | k + 1, x0, x26 => if x26 = true then (some 3) else (lapidaryref15_Check.l1 k x0 0)
def lapidaryref15_Check.l1 : Nat → List (List (S48)) → Int → Option (Int)
  | 0, _, _ => none
  | k + 1, x0, x5 => if x5 < (x0.length : Int) then (if 0 ≤ x5 then (if ((rd_L2 x0 x5).length : Int) < 2 then (lapidaryref15_Check.j3 k x0 x5 true) else ((lapidaryref09_Right.f k (rd_L2 x0 x5)).bind fun t200 => (lapidaryref15_Check.j3 k x0 x5 (!t200)))) else (none)) else (some 0)
def lapidaryref15_Check.j3 : Nat → List (List (S48)) → Int → Bool → Option (Int)
  | 0, _, _, _ => none
  | k + 1, x0, x5, x46 => if x46 = true then (some 2) else (lapidaryref15_Check.l2 k x0 x5 1)
def lapidaryref15_Check.l2 : Nat → List (List (S48)) → Int → Int → Option (Int)
  | 0, _, _, _ => none
  | k + 1, x0, x5, x6 => if 0 ≤ x5 then (if x5 < (x0.length : Int) then (if x6 < ((rd_L2 x0 x5).length : Int) then (if 0 ≤ x6 then (if 0 ≤ (wrap64 (x6 - 1)) then (if (wrap64 (x6 - 1)) < ((rd_L2 x0 x5).length : Int) then (if (((rd_T48 (rd_L2 x0 x5) x6).f0) == ((rd_T48 (rd_L2 x0 x5) (wrap64 (x6 - 1))).f0) && (((rd_T48 (rd_L2 x0 x5) x6).f1) == ((rd_T48 (rd_L2 x0 x5) (wrap64 (x6 - 1))).f1) && (((rd_T48 (rd_L2 x0 x5) x6).f2) == ((rd_T48 (rd_L2 x0 x5) (wrap64 (x6 - 1))).f2)))) = true then (some 2) else (lapidaryref15_Check.l2 k x0 x5 (wrap64 (x6 + 1)))) else (none)) else (none)) else (none)) else (lapidaryref15_Check.l1 k x0 (wrap64 (x5 + 1)))) else (none)) else (none)
end
def lapidaryref15_Check.f (k : Nat) (l0 : List (List (S48))) : Option (Int) := lapidaryref15_Check.l0 k l0 0 0
theorem lapidaryref15_Check.mono_l : ∀ k, (∀ y0 y1 y2, LeO (lapidaryref15_Check.l0 k y0 y1 y2) (lapidaryref15_Check.l0 (k + 1) y0 y1 y2)) ∧ (∀ y0 y1, LeO (lapidaryref15_Check.j1 k y0 y1) (lapidaryref15_Check.j1 (k + 1) y0 y1)) ∧ (∀ y0 y1, LeO (lapidaryref15_Check.l1 k y0 y1) (lapidaryref15_Check.l1 (k + 1) y0 y1)) ∧ (∀ y0 y1 y2, LeO (lapidaryref15_Check.j3 k y0 y1 y2) (lapidaryref15_Check.j3 (k + 1) y0 y1 y2)) ∧ (∀ y0 y1 y2, LeO (lapidaryref15_Check.l2 k y0 y1 y2) (lapidaryref15_Check.l2 (k + 1) y0 y1 y2))
  | 0 => ⟨fun _ _ _ r h => by simp [lapidaryref15_Check.l0] at h, fun _ _ r h => by simp [lapidaryref15_Check.j1] at h, fun _ _ r h => by simp [lapidaryref15_Check.l1] at h, fun _ _ _ r h => by simp [lapidaryref15_Check.j3] at h, fun _ _ _ r h => by simp [lapidaryref15_Check.l2] at h⟩
  | k + 1 => by
    obtain ⟨ih0, ih1, ih2, ih3, ih4⟩ := lapidaryref15_Check.mono_l k
    refine ⟨?_, ?_, ?_, ?_, ?_⟩
    · intro y0 y1 y2
      unfold lapidaryref15_Check.l0
      repeat' first
      | (with_reducible exact ih0 _ _ _)
      | (with_reducible exact ih1 _ _)
      | (with_reducible exact ih2 _ _)
      | (with_reducible exact ih3 _ _ _)
      | (with_reducible exact ih4 _ _ _)
      | (with_reducible exact lapidaryref09_Right.mono _ _)
      | (with_reducible exact LeO.refl _)
      | (with_reducible exact LeO.none _)
      | (with_reducible refine LeO.ite ?_ ?_)
      | (with_reducible refine LeO.bind ?_ (fun _ => ?_))
      | exact ih0 _ _ _
      | exact ih1 _ _
      | exact ih2 _ _
      | exact ih3 _ _ _
      | exact ih4 _ _ _
      | exact lapidaryref09_Right.mono _ _
      | exact LeO.none _
      | refine LeO.ite ?_ ?_
      | refine LeO.bind ?_ (fun _ => ?_)
    · intro y0 y1
      unfold lapidaryref15_Check.j1
      repeat' first
      | (with_reducible exact ih0 _ _ _)
      | (with_reducible exact ih1 _ _)
      | (with_reducible exact ih2 _ _)
      | (with_reducible exact ih3 _ _ _)
      | (with_reducible exact ih4 _ _ _)
      | (with_reducible exact lapidaryref09_Right.mono _ _)
      | (with_reducible exact LeO.refl _)
      | (with_reducible exact LeO.none _)
      | (with_reducible refine LeO.ite ?_ ?_)
      | (with_reducible refine LeO.bind ?_ (fun _ => ?_))
      | exact ih0 _ _ _
      | exact ih1 _ _
      | exact ih2 _ _
      | exact ih3 _ _ _
      | exact ih4 _ _ _
      | exact lapidaryref09_Right.mono _ _
      | exact LeO.none _
      | refine LeO.ite ?_ ?_
      | refine LeO.bind ?_ (fun _ => ?_)
    · intro y0 y1
      unfold lapidaryref15_Check.l1
      repeat' first
      | (with_reducible exact ih0 _ _ _)
      | (with_reducible exact ih1 _ _)
      | (with_reducible exact ih2 _ _)
      | (with_reducible exact ih3 _ _ _)
      | (with_reducible exact ih4 _ _ _)
      | (with_reducible exact lapidaryref09_Right.mono _ _)
      | (with_reducible exact LeO.refl _)
      | (with_reducible exact LeO.none _)
      | (with_reducible refine LeO.ite ?_ ?_)
      | (with_reducible refine LeO.bind ?_ (fun _ => ?_))
      | exact ih0 _ _ _
      | exact ih1 _ _
      | exact ih2 _ _
      | exact ih3 _ _ _
      | exact ih4 _ _ _
      | exact lapidaryref09_Right.mono _ _
      | exact LeO.none _
      | refine LeO.ite ?_ ?_
      | refine LeO.bind ?_ (fun _ => ?_)
    · intro y0 y1 y2
      unfold lapidaryref15_Check.j3
      repeat' first
      | (with_reducible exact ih0 _ _ _)
      | (with_reducible exact ih1 _ _)
      | (with_reducible exact ih2 _ _)
      | (with_reducible exact ih3 _ _ _)
      | (with_reducible exact ih4 _ _ _)
      | (with_reducible exact lapidaryref09_Right.mono _ _)
      | (with_reducible exact LeO.refl _)
      | (with_reducible exact LeO.none _)
      | (with_reducible refine LeO.ite ?_ ?_)
      | (with_reducible refine LeO.bind ?_ (fun _ => ?_))
      | exact ih0 _ _ _
      | exact ih1 _ _
      | exact ih2 _ _
      | exact ih3 _ _ _
      | exact ih4 _ _ _
      | exact lapidaryref09_Right.mono _ _
      | exact LeO.none _
      | refine LeO.ite ?_ ?_
      | refine LeO.bind ?_ (fun _ => ?_)
    · intro y0 y1 y2
      unfold lapidaryref15_Check.l2
      repeat' first
      | (with_reducible exact ih0 _ _ _)
      | (with_reducible exact ih1 _ _)
      | (with_reducible exact ih2 _ _)
      | (with_reducible exact ih3 _ _ _)
      | (with_reducible exact ih4 _ _ _)
      | (with_reducible exact lapidaryref09_Right.mono _ _)
      | (with_reducible exact LeO.refl _)
      | (with_reducible exact LeO.none _)
      | (with_reducible refine LeO.ite ?_ ?_)
      | (with_reducible refine LeO.bind ?_ (fun _ => ?_))
      | exact ih0 _ _ _
      | exact ih1 _ _
      | exact ih2 _ _
      | exact ih3 _ _ _
      | exact ih4 _ _ _
      | exact lapidaryref09_Right.mono _ _
      | exact LeO.none _
      | refine LeO.ite ?_ ?_
      | refine LeO.bind ?_ (fun _ => ?_)
theorem lapidaryref15_Check.mono : ∀ a0 k, LeO (lapidaryref15_Check.f k a0) (lapidaryref15_Check.f (k + 1) a0) := by
  intro a0 k
  obtain ⟨ih0, ih1, ih2, ih3, ih4⟩ := lapidaryref15_Check.mono_l k
  unfold lapidaryref15_Check.f
  repeat' first
      | (with_reducible exact ih0 _ _ _)
      | (with_reducible exact ih1 _ _)
      | (with_reducible exact ih2 _ _)
      | (with_reducible exact ih3 _ _ _)
      | (with_reducible exact ih4 _ _ _)
      | (with_reducible exact lapidaryref09_Right.mono _ _)
      | (with_reducible exact LeO.refl _)
      | (with_reducible exact LeO.none _)
      | (with_reducible refine LeO.ite ?_ ?_)
      | (with_reducible refine LeO.bind ?_ (fun _ => ?_))
      | exact ih0 _ _ _
      | exact ih1 _ _
      | exact ih2 _ _
      | exact ih3 _ _ _
      | exact ih4 _ _ _
      | exact lapidaryref09_Right.mono _ _
      | exact LeO.none _
      | refine LeO.ite ?_ ?_
      | refine LeO.bind ?_ (fun _ => ?_)
set_option maxHeartbeats 8000000 in
set_option maxRecDepth 100000 in
theorem lapidaryref15_Check.calls (k : Nat) (A0 : Option Addr) (c0 : Nat) (l0 : List (List (S48))) (r : Int) (w : World) (hr0 : Kd.C (Kd.slice 48 k48) w A0 l0.length l0) (hc0 : l0.length ≤ c0) (h : lapidaryref15_Check.f k l0 = some r) :
    Calls Try.prog 16 #[.slice A0 l0.length c0] w fun e w' => e = .returned (.int .i64 r) ∧ Below w.heap.size w w' := by
  have hu48 := Try.underlying48
  have HR0 := Aside0.mk hr0
  have HC0 := Aside0.mk hc0
  clear hr0 hc0
  have HB := Aside0.mk (Below.refl w.heap.size w)
  have H : (lapidaryref15_Check.l0 k l0 0 0) = some r := h
  clear h
  have H' := Aside0.mk H
  clear H
  go_enter Try.func16, Try.ntmps16
  go_wp2
  repeat (go_quiet (fail); try go_wp2)
  go_loopg [3, 4] k (fun kq v3 v4 w' => ∃ (x3_1 : Int) (x4_1 : Int), v3 = .int .i64 x3_1 ∧ v4 = .int .i64 x4_1 ∧ Aside0 (lapidaryref15_Check.l0 kq l0 x3_1 x4_1 = some r) ∧ Aside0 (kq ≤ k) ∧ Aside0 (Below w.heap.size w w'))
  case atStart => exact ⟨(0), (0), (by first | rfl | (simp; done) | (simp [*]; done)), (by first | rfl | (simp; done) | (simp [*]; done)), H', ⟨Nat.le_refl _⟩, ⟨by repeat (first | (with_reducible first | exact HB.out | apply below_alloc | apply pw_below_drewN | apply below_drew1) | exact HB.out)⟩⟩
  case round =>
    clear H'
    try clear c1
    obtain ⟨x3_1, x4_1, rfl, rfl, HA, HK1, HB⟩ := hrel
    cases gk with
    | zero => exact absurd HA.out (by simp [lapidaryref15_Check.l0])
    | succ k1 =>
      have H := HA.out
      clear HA
      simp only [lapidaryref15_Check.l0] at H
      by_cases c2 : x4_1 < (l0.length : Int)
      · rw [if_pos c2] at H
        have c2b0 : decide (x4_1 < (l0.length : Int)) = true := decide_eq_true c2
        clear c2
        by_cases c3 : 0 ≤ x4_1
        · rw [if_pos c3] at H
          have c3b0 : decide (0 ≤ x4_1) = true := decide_eq_true c3
          clear c3
          have H' := Aside0.mk H
          clear H
          have p197 : 0 ≤ (x4_1 : Int) := of_decide_eq_true (by first | (with_reducible assumption) | assumption)
          have q197 : x4_1 < (l0.length : Int) := of_decide_eq_true (by first | (with_reducible assumption) | assumption)
          obtain ⟨ad197, A197_0, c197_0, e197, hx197_0, hl197_0, hi197_0⟩ := at_L2 HR0.out x4_1 p197 q197
          cases e197
          replace hx197_0 := (HB.out.cell (World.block_lt_of_cell? w _ hx197_0)).trans hx197_0
          have HR197_0 := Aside0.mk hi197_0
          have HC197_0 := Aside0.mk hl197_0
          clear hi197_0 hl197_0
          replace p197 := eq_true p197
          replace q197 := eq_true q197
          go_wp2
          repeat (go_quiet (fail); try go_wp2)
          go_roundg k1
          case measure => have := HK1.out; omega
          case rel => exact ⟨(wrap64 (x3_1 + ((rd_L2 l0 x4_1).length : Int))), (wrap64 (x4_1 + 1)), (by first | rfl | (simp; done) | (simp [*]; done)), (by first | rfl | (simp; done) | (simp [*]; done)), H', ⟨by have := HK1.out; omega⟩, ⟨by repeat (first | (with_reducible first | exact HB.out | apply below_alloc | apply pw_below_drewN | apply below_drew1) | exact HB.out)⟩⟩
        · rw [if_neg c3] at H
          exact absurd H (by simp)
      · rw [if_neg c2] at H
        have c2b0 : decide (x4_1 < (l0.length : Int)) = false := decide_eq_false c2
        clear c2
        have HC4 := Aside0.mk H
        clear H
        go_upto_region 6 with (fail)
        repeat (go_quiet (fail); go_upto_region 6 with (fail))
        go_cut [26] (fun v26 wc => ∃ (kq : Nat) (x26_3 : Bool), v26 = .bool x26_3 ∧ Aside0 (lapidaryref15_Check.j1 kq l0 x26_3 = some r) ∧ Aside0 (kq ≤ k1) ∧ Aside0 (Below w.heap.size w wc))
        case first =>
          have H := HC4.out
          clear HC4
          by_cases c5 : (l0.length : Int) > 2000
          · rw [if_pos c5] at H
            have c5b0 : decide (2000 < (l0.length : Int)) = true := decide_eq_true c5
            have c5b1 : decide (2000 < l0.length) = true := decide_eq_true (by omega)
            clear c5
            (first | rw [c5b0] | (simp only [i64_w, i32_w]; rw [c5b0]) | skip)
            have H' := Aside0.mk H
            clear H
            go_wp2
            repeat (go_quiet (fail); try go_wp2)
            go_meet
            case rel => exact ⟨_, (true), (by first | rfl | (simp; done) | (simp [*]; done)), H', ⟨by have := HK1.out; first | omega | exact Nat.le_refl _⟩, ⟨by repeat (first | (with_reducible first | exact HB.out | apply below_alloc | apply pw_below_drewN | apply below_drew1) | exact HB.out)⟩⟩
          · rw [if_neg c5] at H
            have c5b0 : decide (2000 < (l0.length : Int)) = false := decide_eq_false c5
            have c5b1 : decide (2000 < l0.length) = false := decide_eq_false (by omega)
            clear c5
            (first | rw [c5b0] | (simp only [i64_w, i32_w]; rw [c5b0]) | skip)
            have H' := Aside0.mk H
            clear H
            go_wp2
            repeat (go_quiet (fail); try go_wp2)
            go_meet
            case rel => exact ⟨_, (decide (x3_1 > 20000)), (by first | rfl | (simp; done) | (simp [*]; done)), H', ⟨by have := HK1.out; first | omega | exact Nat.le_refl _⟩, ⟨by repeat (first | (with_reducible first | exact HB.out | apply below_alloc | apply pw_below_drewN | apply below_drew1) | exact HB.out)⟩⟩
        case rest =>
          clear HC4
          try clear c1
          try clear p1
          try clear q1
          try clear hx1
          try clear c2
          try clear c2b0
          try clear p2
          try clear c3
          try clear c3b0
          try clear c5
          try clear c5b0
          try clear c5b1
          try clear hx197_0
          try clear p197
          try clear q197
          obtain ⟨kq, x26_3, rfl, HA, HJ3, HB⟩ := hcut
          cases kq with
          | zero => exact absurd HA.out (by simp [lapidaryref15_Check.j1])
          | succ kj3 =>
            have H := HA.out
            clear HA
            simp only [lapidaryref15_Check.j1] at H
            by_cases c6 : x26_3 = true
            · subst c6
              have H1 : (some 3) = some r := by rw [if_pos rfl] at H; exact H
              clear H
              have H := H1
              clear H1
              obtain rfl := Option.some.inj H
              go_wp2
              repeat (go_quiet (fail); try go_wp2)
              go_ret
              exact ⟨by first | rfl | (simp [errW_none, errW_some] <;> rfl) | (simp [*, errW_none, errW_some] <;> rfl), by repeat (first | (with_reducible first | exact HB.out | apply below_alloc | apply pw_below_drewN | apply below_drew1) | exact HB.out)⟩
            · replace c6 := Bool.eq_false_iff.mpr c6
              subst c6
              have H1 : (lapidaryref15_Check.l1 kj3 l0 0) = some r := by rw [if_neg (show ¬ (false = true) by decide)] at H; exact H
              clear H
              have H := H1
              clear H1
              have H' := Aside0.mk H
              clear H
              go_wp2
              repeat (go_quiet (fail); try go_wp2)
              go_loopg [5] kj3 (fun kq v5 w' => ∃ (x5_3 : Int), v5 = .int .i64 x5_3 ∧ Aside0 (lapidaryref15_Check.l1 kq l0 x5_3 = some r) ∧ Aside0 (kq ≤ kj3) ∧ Aside0 (Below w.heap.size w w'))
              case atStart => exact ⟨(0), (by first | rfl | (simp; done) | (simp [*]; done)), H', ⟨Nat.le_refl _⟩, ⟨by repeat (first | (with_reducible first | exact HB.out | apply below_alloc | apply pw_below_drewN | apply below_drew1) | exact HB.out)⟩⟩
              case round =>
                clear H'
                try clear c1
                try clear p1
                try clear q1
                try clear hx1
                try clear c2
                try clear c2b0
                try clear p2
                try clear c3
                try clear c3b0
                try clear c5
                try clear c5b0
                try clear c5b1
                try clear c6
                try clear p6
                try clear hx197_0
                try clear p1
                try clear p197
                try clear p2
                try clear q1
                try clear q197
                obtain ⟨x5_3, rfl, HA, HK3, HB⟩ := hrel
                cases gk with
                | zero => exact absurd HA.out (by simp [lapidaryref15_Check.l1])
                | succ k3 =>
                  have H := HA.out
                  clear HA
                  simp only [lapidaryref15_Check.l1] at H
                  by_cases c7 : x5_3 < (l0.length : Int)
                  · rw [if_pos c7] at H
                    have c7b0 : decide (x5_3 < (l0.length : Int)) = true := decide_eq_true c7
                    clear c7
                    have HC8 := Aside0.mk H
                    clear H
                    go_upto_region 11 with (fail)
                    repeat (go_quiet (fail); go_upto_region 11 with (fail))
                    go_cut [46] (fun v46 wc => ∃ (kq : Nat) (x46_7 : Bool), v46 = .bool x46_7 ∧ Aside0 (lapidaryref15_Check.j3 kq l0 x5_3 x46_7 = some r) ∧ Aside0 (kq ≤ k3) ∧ Aside0 (Below w.heap.size w wc))
                    case first =>
                      have H := HC8.out
                      clear HC8
                      by_cases c9 : 0 ≤ x5_3
                      · rw [if_pos c9] at H
                        have c9b0 : decide (0 ≤ x5_3) = true := decide_eq_true c9
                        clear c9
                        (first | rw [c9b0] | (simp only [i64_w, i32_w]; rw [c9b0]) | skip)
                        by_cases c10 : ((rd_L2 l0 x5_3).length : Int) < 2
                        · rw [if_pos c10] at H
                          have c10b0 : decide (((rd_L2 l0 x5_3).length : Int) < 2) = true := decide_eq_true c10
                          have c10b1 : decide ((rd_L2 l0 x5_3).length < 2) = true := decide_eq_true (by omega)
                          clear c10
                          have H' := Aside0.mk H
                          clear H
                          have p198 : 0 ≤ (x5_3 : Int) := of_decide_eq_true (by first | (with_reducible assumption) | assumption)
                          have q198 : x5_3 < (l0.length : Int) := of_decide_eq_true (by first | (with_reducible assumption) | assumption)
                          obtain ⟨ad198, A198_0, c198_0, e198, hx198_0, hl198_0, hi198_0⟩ := at_L2 HR0.out x5_3 p198 q198
                          cases e198
                          replace hx198_0 := (HB.out.cell (World.block_lt_of_cell? w _ hx198_0)).trans hx198_0
                          have HR198_0 := Aside0.mk hi198_0
                          have HC198_0 := Aside0.mk hl198_0
                          clear hi198_0 hl198_0
                          replace p198 := eq_true p198
                          replace q198 := eq_true q198
                          go_wp2
                          repeat (go_quiet (fail); try go_wp2)
                          go_meet
                          case rel => exact ⟨_, (true), (by first | rfl | (simp; done) | (simp [*]; done)), H', ⟨by have := HK1.out; have := HJ3.out; have := HK3.out; first | omega | exact Nat.le_refl _⟩, ⟨by repeat (first | (with_reducible first | exact HB.out | apply below_alloc | apply pw_below_drewN | apply below_drew1) | exact HB.out)⟩⟩
                        · rw [if_neg c10] at H
                          have c10b0 : decide (((rd_L2 l0 x5_3).length : Int) < 2) = false := decide_eq_false c10
                          have c10b1 : decide ((rd_L2 l0 x5_3).length < 2) = false := decide_eq_false (by omega)
                          clear c10
                          replace H := Option.bind_eq_some_iff.mp H
                          obtain ⟨t200, A110, H⟩ := H
                          replace H : (lapidaryref15_Check.j3 k3 l0 x5_3 (!t200)) = some r := H
                          have A11 := Aside0.mk A110
                          clear A110
                          have H' := Aside0.mk H
                          clear H
                          have p198 : 0 ≤ (x5_3 : Int) := of_decide_eq_true (by first | (with_reducible assumption) | assumption)
                          have q198 : x5_3 < (l0.length : Int) := of_decide_eq_true (by first | (with_reducible assumption) | assumption)
                          obtain ⟨ad198, A198_0, c198_0, e198, hx198_0, hl198_0, hi198_0⟩ := at_L2 HR0.out x5_3 p198 q198
                          cases e198
                          replace hx198_0 := (HB.out.cell (World.block_lt_of_cell? w _ hx198_0)).trans hx198_0
                          have HR198_0 := Aside0.mk hi198_0
                          have HC198_0 := Aside0.mk hl198_0
                          clear hi198_0 hl198_0
                          replace p198 := eq_true p198
                          replace q198 := eq_true q198
                          have p199 : 0 ≤ (x5_3 : Int) := of_decide_eq_true (by first | (with_reducible assumption) | assumption)
                          have q199 : x5_3 < (l0.length : Int) := of_decide_eq_true (by first | (with_reducible assumption) | assumption)
                          obtain ⟨ad199, A199_0, c199_0, e199, hx199_0, hl199_0, hi199_0⟩ := at_L2 HR0.out x5_3 p199 q199
                          obtain rfl : ad198 = ad199 := (by injection e199)
                          replace hx199_0 := (HB.out.cell (World.block_lt_of_cell? w _ hx199_0)).trans hx199_0
                          have HR199_0 := Aside0.mk hi199_0
                          have HC199_0 := Aside0.mk hl199_0
                          clear hi199_0 hl199_0
                          replace p199 := eq_true p199
                          replace q199 := eq_true q199
                          have ea_ := Option.some.inj (hx198_0.symm.trans hx199_0)
                          injection ea_ with ea_ en_ ec_
                          subst ea_
                          subst ec_
                          clear en_
                          go_wp2_with (first | (go_at_call 30; (with_reducible refine (lapidaryref09_Right.calls k3 _ _ (rd_L2 l0 x5_3) t200 _ ?side1 ?side2 A11.out).mono ?_); (case side1 => repeat (first | exact (Kd.C_below HR199_0.out HB.out) | (with_reducible refine Kd.C_alloc ?_ _) | (with_reducible refine Kd.C_drewN ?_ _) | (with_reducible refine Kd.C_drew ?_))); (case side2 => exact HC199_0.out); rintro e w12 ⟨rfl, hb⟩; have n0_ := Aside0.mk (below_step (by repeat (first | (with_reducible first | exact HB.out | apply below_alloc | apply pw_below_drewN | apply below_drew1) | exact HB.out)) hb); clear HB; have HB := n0_; clear n0_; (try clear hb); (try clear hb2); (try clear hk); (try clear hi)))
                          repeat (go_quiet (first | (go_at_call 30; (with_reducible refine (lapidaryref09_Right.calls k3 _ _ (rd_L2 l0 x5_3) t200 _ ?side1 ?side2 A11.out).mono ?_); (case side1 => repeat (first | exact (Kd.C_below HR199_0.out HB.out) | (with_reducible refine Kd.C_alloc ?_ _) | (with_reducible refine Kd.C_drewN ?_ _) | (with_reducible refine Kd.C_drew ?_))); (case side2 => exact HC199_0.out); rintro e w12 ⟨rfl, hb⟩; have n0_ := Aside0.mk (below_step (by repeat (first | (with_reducible first | exact HB.out | apply below_alloc | apply pw_below_drewN | apply below_drew1) | exact HB.out)) hb); clear HB; have HB := n0_; clear n0_; (try clear hb); (try clear hb2); (try clear hk); (try clear hi))); try go_wp2_with (first | (go_at_call 30; (with_reducible refine (lapidaryref09_Right.calls k3 _ _ (rd_L2 l0 x5_3) t200 _ ?side1 ?side2 A11.out).mono ?_); (case side1 => repeat (first | exact (Kd.C_below HR199_0.out HB.out) | (with_reducible refine Kd.C_alloc ?_ _) | (with_reducible refine Kd.C_drewN ?_ _) | (with_reducible refine Kd.C_drew ?_))); (case side2 => exact HC199_0.out); rintro e w12 ⟨rfl, hb⟩; have n0_ := Aside0.mk (below_step (by repeat (first | (with_reducible first | exact HB.out | apply below_alloc | apply pw_below_drewN | apply below_drew1) | exact HB.out)) hb); clear HB; have HB := n0_; clear n0_; (try clear hb); (try clear hb2); (try clear hk); (try clear hi))))
                          go_meet
                          case rel => exact ⟨_, (!t200), (by first | rfl | (simp; done) | (simp [*]; done)), H', ⟨by have := HK1.out; have := HJ3.out; have := HK3.out; first | omega | exact Nat.le_refl _⟩, ⟨by repeat (first | (with_reducible first | exact HB.out | apply below_alloc | apply pw_below_drewN | apply below_drew1) | exact HB.out)⟩⟩
                      · rw [if_neg c9] at H
                        exact absurd H (by simp)
                    case rest =>
                      clear HC8
                      try clear c1
                      try clear p1
                      try clear q1
                      try clear hx1
                      try clear c2
                      try clear c2b0
                      try clear p2
                      try clear c3
                      try clear c3b0
                      try clear c5
                      try clear c5b0
                      try clear c5b1
                      try clear c6
                      try clear p6
                      try clear c7
                      try clear c7b0
                      try clear c9
                      try clear c9b0
                      try clear c10
                      try clear c10b0
                      try clear c10b1
                      try clear hx197_0
                      try clear hx198_0
                      try clear hx199_0
                      try clear p1
                      try clear p197
                      try clear p198
                      try clear p199
                      try clear p2
                      try clear p6
                      try clear q1
                      try clear q197
                      try clear q198
                      try clear q199
                      obtain ⟨kq, x46_7, rfl, HA, HJ7, HB⟩ := hcut
                      cases kq with
                      | zero => exact absurd HA.out (by simp [lapidaryref15_Check.j3])
                      | succ kj7 =>
                        have H := HA.out
                        clear HA
                        simp only [lapidaryref15_Check.j3] at H
                        by_cases c13 : x46_7 = true
                        · subst c13
                          have H1 : (some 2) = some r := by rw [if_pos rfl] at H; exact H
                          clear H
                          have H := H1
                          clear H1
                          obtain rfl := Option.some.inj H
                          go_wp2
                          repeat (go_quiet (fail); try go_wp2)
                          go_ret
                          exact ⟨by first | rfl | (simp [errW_none, errW_some] <;> rfl) | (simp [*, errW_none, errW_some] <;> rfl), by repeat (first | (with_reducible first | exact HB.out | apply below_alloc | apply pw_below_drewN | apply below_drew1) | exact HB.out)⟩
                        · replace c13 := Bool.eq_false_iff.mpr c13
                          subst c13
                          have H1 : (lapidaryref15_Check.l2 kj7 l0 x5_3 1) = some r := by rw [if_neg (show ¬ (false = true) by decide)] at H; exact H
                          clear H
                          have H := H1
                          clear H1
                          have H' := Aside0.mk H
                          clear H
                          go_wp2
                          repeat (go_quiet (fail); try go_wp2)
                          go_loopg [6] kj7 (fun kq v6 w' => ∃ (x6_5 : Int), v6 = .int .i64 x6_5 ∧ Aside0 (lapidaryref15_Check.l2 kq l0 x5_3 x6_5 = some r) ∧ Aside0 (kq ≤ kj7) ∧ Aside0 (Below w.heap.size w w'))
                          case atStart => exact ⟨(1), (by first | rfl | (simp; done) | (simp [*]; done)), H', ⟨Nat.le_refl _⟩, ⟨by repeat (first | (with_reducible first | exact HB.out | apply below_alloc | apply pw_below_drewN | apply below_drew1) | exact HB.out)⟩⟩
                          case round =>
                            clear H'
                            try clear c1
                            try clear p1
                            try clear q1
                            try clear hx1
                            try clear c2
                            try clear c2b0
                            try clear p2
                            try clear c3
                            try clear c3b0
                            try clear c5
                            try clear c5b0
                            try clear c5b1
                            try clear c6
                            try clear p6
                            try clear c7
                            try clear c7b0
                            try clear c9
                            try clear c9b0
                            try clear c10
                            try clear c10b0
                            try clear c10b1
                            try clear c13
                            try clear hx197_0
                            try clear hx198_0
                            try clear hx199_0
                            try clear p1
                            try clear p197
                            try clear p198
                            try clear p199
                            try clear p2
                            try clear p6
                            try clear q1
                            try clear q197
                            try clear q198
                            try clear q199
                            obtain ⟨x6_5, rfl, HA, HK5, HB⟩ := hrel
                            cases gk with
                            | zero => exact absurd HA.out (by simp [lapidaryref15_Check.l2])
                            | succ k5 =>
                              have H := HA.out
                              clear HA
                              simp only [lapidaryref15_Check.l2] at H
                              by_cases c14 : 0 ≤ x5_3
                              · rw [if_pos c14] at H
                                have c14b0 : decide (0 ≤ x5_3) = true := decide_eq_true c14
                                clear c14
                                by_cases c15 : x5_3 < (l0.length : Int)
                                · rw [if_pos c15] at H
                                  have c15b0 : decide (x5_3 < (l0.length : Int)) = true := decide_eq_true c15
                                  clear c15
                                  by_cases c16 : x6_5 < ((rd_L2 l0 x5_3).length : Int)
                                  · rw [if_pos c16] at H
                                    have c16b0 : decide (x6_5 < ((rd_L2 l0 x5_3).length : Int)) = true := decide_eq_true c16
                                    clear c16
                                    by_cases c17 : 0 ≤ x6_5
                                    · rw [if_pos c17] at H
                                      have c17b0 : decide (0 ≤ x6_5) = true := decide_eq_true c17
                                      clear c17
                                      obtain ⟨ji18, hji18⟩ : ∃ j_ : Int, (wrap64 (x6_5 - 1)) = j_ := ⟨_, rfl⟩
                                      replace H : (if 0 ≤ (ji18) then (if (ji18) < ((rd_L2 l0 x5_3).length : Int) then (if (((rd_T48 (rd_L2 l0 x5_3) x6_5).f0) == ((rd_T48 (rd_L2 l0 x5_3) (ji18)).f0) && (((rd_T48 (rd_L2 l0 x5_3) x6_5).f1) == ((rd_T48 (rd_L2 l0 x5_3) (ji18)).f1) && (((rd_T48 (rd_L2 l0 x5_3) x6_5).f2) == ((rd_T48 (rd_L2 l0 x5_3) (ji18)).f2)))) = true then (some 2) else (lapidaryref15_Check.l2 k5 l0 x5_3 (wrap64 (x6_5 + 1)))) else (none)) else (none)) = some r := by first | (rw [hji18] at H; exact H) | (simp only [hji18] at H ⊢; exact H)
                                      have hji18w : (IntKind.i64.wrap (x6_5 - 1)) = ji18 := (i64_w _).trans hji18
                                      by_cases c19 : 0 ≤ (ji18)
                                      · rw [if_pos c19] at H
                                        have c19b0 : decide (0 ≤ (ji18)) = true := decide_eq_true c19
                                        clear c19
                                        by_cases c20 : (ji18) < ((rd_L2 l0 x5_3).length : Int)
                                        · rw [if_pos c20] at H
                                          have c20b0 : decide ((ji18) < ((rd_L2 l0 x5_3).length : Int)) = true := decide_eq_true c20
                                          clear c20
                                          by_cases c21 : (((rd_T48 (rd_L2 l0 x5_3) x6_5).f0) == ((rd_T48 (rd_L2 l0 x5_3) (ji18)).f0) && (((rd_T48 (rd_L2 l0 x5_3) x6_5).f1) == ((rd_T48 (rd_L2 l0 x5_3) (ji18)).f1) && (((rd_T48 (rd_L2 l0 x5_3) x6_5).f2) == ((rd_T48 (rd_L2 l0 x5_3) (ji18)).f2)))) = true
                                          · rw [if_pos c21] at H
                                            have c21b0 : (((rd_T48 (rd_L2 l0 x5_3) x6_5).f0) == ((rd_T48 (rd_L2 l0 x5_3) (ji18)).f0) && (((rd_T48 (rd_L2 l0 x5_3) x6_5).f1) == ((rd_T48 (rd_L2 l0 x5_3) (ji18)).f1) && (((rd_T48 (rd_L2 l0 x5_3) x6_5).f2) == ((rd_T48 (rd_L2 l0 x5_3) (ji18)).f2)))) = true := c21
                                            (try (have c21b1 : decide (((rd_T48 (rd_L2 l0 x5_3) x6_5).f0) = ((rd_T48 (rd_L2 l0 x5_3) (ji18)).f0) && (((rd_T48 (rd_L2 l0 x5_3) x6_5).f1) == ((rd_T48 (rd_L2 l0 x5_3) (ji18)).f1) && (((rd_T48 (rd_L2 l0 x5_3) x6_5).f2) == ((rd_T48 (rd_L2 l0 x5_3) (ji18)).f2)))) = true := by simpa using c21))
                                            (try (have c21b2 : (((rd_T48 (rd_L2 l0 x5_3) x6_5).f0) == ((rd_T48 (rd_L2 l0 x5_3) (ji18)).f0) && (((rd_T48 (rd_L2 l0 x5_3) x6_5).f1) == ((rd_T48 (rd_L2 l0 x5_3) (ji18)).f1) && (((rd_T48 (rd_L2 l0 x5_3) x6_5).f2) == ((rd_T48 (rd_L2 l0 x5_3) (ji18)).f2)))) = true := by simpa using c21))
                                            clear c21
                                            obtain rfl := Option.some.inj H
                                            have p201 : 0 ≤ (x5_3 : Int) := of_decide_eq_true (by first | (with_reducible assumption) | assumption)
                                            have q201 : x5_3 < (l0.length : Int) := of_decide_eq_true (by first | (with_reducible assumption) | assumption)
                                            obtain ⟨ad201, A201_0, c201_0, e201, hx201_0, hl201_0, hi201_0⟩ := at_L2 HR0.out x5_3 p201 q201
                                            cases e201
                                            replace hx201_0 := (HB.out.cell (World.block_lt_of_cell? w _ hx201_0)).trans hx201_0
                                            have HR201_0 := Aside0.mk hi201_0
                                            have HC201_0 := Aside0.mk hl201_0
                                            clear hi201_0 hl201_0
                                            replace p201 := eq_true p201
                                            replace q201 := eq_true q201
                                            have p202 : 0 ≤ (x5_3 : Int) := of_decide_eq_true (by first | (with_reducible assumption) | assumption)
                                            have q202 : x5_3 < (l0.length : Int) := of_decide_eq_true (by first | (with_reducible assumption) | assumption)
                                            obtain ⟨ad202, A202_0, c202_0, e202, hx202_0, hl202_0, hi202_0⟩ := at_L2 HR0.out x5_3 p202 q202
                                            obtain rfl : ad201 = ad202 := (by injection e202)
                                            replace hx202_0 := (HB.out.cell (World.block_lt_of_cell? w _ hx202_0)).trans hx202_0
                                            have HR202_0 := Aside0.mk hi202_0
                                            have HC202_0 := Aside0.mk hl202_0
                                            clear hi202_0 hl202_0
                                            replace p202 := eq_true p202
                                            replace q202 := eq_true q202
                                            have ea_ := Option.some.inj (hx201_0.symm.trans hx202_0)
                                            injection ea_ with ea_ en_ ec_
                                            subst ea_
                                            subst ec_
                                            clear en_
                                            have p203 : 0 ≤ (x6_5 : Int) := of_decide_eq_true (by first | (with_reducible assumption) | assumption)
                                            have q203 : x6_5 < ((rd_L2 l0 x5_3).length : Int) := of_decide_eq_true (by first | (with_reducible assumption) | assumption)
                                            obtain ⟨ad203, e203, hx203_0, hx203_1, hx203_2⟩ := at_T48 HR202_0.out x6_5 p203 q203
                                            cases e203
                                            replace hx203_0 := (HB.out.cell (World.block_lt_of_cell? w _ hx203_0)).trans hx203_0
                                            replace hx203_1 := (HB.out.cell (World.block_lt_of_cell? w _ hx203_1)).trans hx203_1
                                            replace hx203_2 := (HB.out.cell (World.block_lt_of_cell? w _ hx203_2)).trans hx203_2
                                            replace p203 := eq_true p203
                                            replace q203 := eq_true q203
                                            have p204 : 0 ≤ (x5_3 : Int) := of_decide_eq_true (by first | (with_reducible assumption) | assumption)
                                            have q204 : x5_3 < (l0.length : Int) := of_decide_eq_true (by first | (with_reducible assumption) | assumption)
                                            obtain ⟨ad204, A204_0, c204_0, e204, hx204_0, hl204_0, hi204_0⟩ := at_L2 HR0.out x5_3 p204 q204
                                            obtain rfl : ad201 = ad204 := (by injection e204)
                                            replace hx204_0 := (HB.out.cell (World.block_lt_of_cell? w _ hx204_0)).trans hx204_0
                                            have HR204_0 := Aside0.mk hi204_0
                                            have HC204_0 := Aside0.mk hl204_0
                                            clear hi204_0 hl204_0
                                            replace p204 := eq_true p204
                                            replace q204 := eq_true q204
                                            have ea_ := Option.some.inj (hx201_0.symm.trans hx204_0)
                                            injection ea_ with ea_ en_ ec_
                                            subst ea_
                                            subst ec_
                                            clear en_
                                            have p205 : 0 ≤ ((ji18) : Int) := of_decide_eq_true (by first | (with_reducible assumption) | assumption)
                                            have q205 : (ji18) < ((rd_L2 l0 x5_3).length : Int) := of_decide_eq_true (by first | (with_reducible assumption) | assumption)
                                            obtain ⟨ad205, e205, hx205_0, hx205_1, hx205_2⟩ := at_T48 HR204_0.out (ji18) p205 q205
                                            cases e205
                                            replace hx205_0 := (HB.out.cell (World.block_lt_of_cell? w _ hx205_0)).trans hx205_0
                                            replace hx205_1 := (HB.out.cell (World.block_lt_of_cell? w _ hx205_1)).trans hx205_1
                                            replace hx205_2 := (HB.out.cell (World.block_lt_of_cell? w _ hx205_2)).trans hx205_2
                                            replace p205 := eq_true p205
                                            replace q205 := eq_true q205
                                            go_wp2
                                            repeat (go_quiet (fail); try go_wp2)
                                            go_ret
                                            exact ⟨by first | rfl | (simp [errW_none, errW_some] <;> rfl) | (simp only [← hji18]; first | rfl | (simp [errW_none, errW_some] <;> rfl)) | (simp [*, errW_none, errW_some] <;> rfl), by repeat (first | (with_reducible first | exact HB.out | apply below_alloc | apply pw_below_drewN | apply below_drew1) | exact HB.out)⟩
                                          · rw [if_neg c21] at H
                                            have c21b0 : (((rd_T48 (rd_L2 l0 x5_3) x6_5).f0) == ((rd_T48 (rd_L2 l0 x5_3) (ji18)).f0) && (((rd_T48 (rd_L2 l0 x5_3) x6_5).f1) == ((rd_T48 (rd_L2 l0 x5_3) (ji18)).f1) && (((rd_T48 (rd_L2 l0 x5_3) x6_5).f2) == ((rd_T48 (rd_L2 l0 x5_3) (ji18)).f2)))) = false := by simpa using c21
                                            (try (have c21b1 : decide (((rd_T48 (rd_L2 l0 x5_3) x6_5).f0) = ((rd_T48 (rd_L2 l0 x5_3) (ji18)).f0) && (((rd_T48 (rd_L2 l0 x5_3) x6_5).f1) == ((rd_T48 (rd_L2 l0 x5_3) (ji18)).f1) && (((rd_T48 (rd_L2 l0 x5_3) x6_5).f2) == ((rd_T48 (rd_L2 l0 x5_3) (ji18)).f2)))) = false := by simpa using c21))
                                            (try (have c21b2 : (((rd_T48 (rd_L2 l0 x5_3) x6_5).f0) == ((rd_T48 (rd_L2 l0 x5_3) (ji18)).f0) && (((rd_T48 (rd_L2 l0 x5_3) x6_5).f1) == ((rd_T48 (rd_L2 l0 x5_3) (ji18)).f1) && (((rd_T48 (rd_L2 l0 x5_3) x6_5).f2) == ((rd_T48 (rd_L2 l0 x5_3) (ji18)).f2)))) = false := by simpa using c21))
                                            (try (have c21b3 : ¬ (((rd_T48 (rd_L2 l0 x5_3) x6_5).f0) = ((rd_T48 (rd_L2 l0 x5_3) (ji18)).f0) && (((rd_T48 (rd_L2 l0 x5_3) x6_5).f1) == ((rd_T48 (rd_L2 l0 x5_3) (ji18)).f1) && (((rd_T48 (rd_L2 l0 x5_3) x6_5).f2) == ((rd_T48 (rd_L2 l0 x5_3) (ji18)).f2)))) := by simpa using c21))
                                            clear c21
                                            have H' := Aside0.mk H
                                            clear H
                                            have p201 : 0 ≤ (x5_3 : Int) := of_decide_eq_true (by first | (with_reducible assumption) | assumption)
                                            have q201 : x5_3 < (l0.length : Int) := of_decide_eq_true (by first | (with_reducible assumption) | assumption)
                                            obtain ⟨ad201, A201_0, c201_0, e201, hx201_0, hl201_0, hi201_0⟩ := at_L2 HR0.out x5_3 p201 q201
                                            cases e201
                                            replace hx201_0 := (HB.out.cell (World.block_lt_of_cell? w _ hx201_0)).trans hx201_0
                                            have HR201_0 := Aside0.mk hi201_0
                                            have HC201_0 := Aside0.mk hl201_0
                                            clear hi201_0 hl201_0
                                            replace p201 := eq_true p201
                                            replace q201 := eq_true q201
                                            have p202 : 0 ≤ (x5_3 : Int) := of_decide_eq_true (by first | (with_reducible assumption) | assumption)
                                            have q202 : x5_3 < (l0.length : Int) := of_decide_eq_true (by first | (with_reducible assumption) | assumption)
                                            obtain ⟨ad202, A202_0, c202_0, e202, hx202_0, hl202_0, hi202_0⟩ := at_L2 HR0.out x5_3 p202 q202
                                            obtain rfl : ad201 = ad202 := (by injection e202)
                                            replace hx202_0 := (HB.out.cell (World.block_lt_of_cell? w _ hx202_0)).trans hx202_0
                                            have HR202_0 := Aside0.mk hi202_0
                                            have HC202_0 := Aside0.mk hl202_0
                                            clear hi202_0 hl202_0
                                            replace p202 := eq_true p202
                                            replace q202 := eq_true q202
                                            have ea_ := Option.some.inj (hx201_0.symm.trans hx202_0)
                                            injection ea_ with ea_ en_ ec_
                                            subst ea_
                                            subst ec_
                                            clear en_
                                            have p203 : 0 ≤ (x6_5 : Int) := of_decide_eq_true (by first | (with_reducible assumption) | assumption)
                                            have q203 : x6_5 < ((rd_L2 l0 x5_3).length : Int) := of_decide_eq_true (by first | (with_reducible assumption) | assumption)
                                            obtain ⟨ad203, e203, hx203_0, hx203_1, hx203_2⟩ := at_T48 HR202_0.out x6_5 p203 q203
                                            cases e203
                                            replace hx203_0 := (HB.out.cell (World.block_lt_of_cell? w _ hx203_0)).trans hx203_0
                                            replace hx203_1 := (HB.out.cell (World.block_lt_of_cell? w _ hx203_1)).trans hx203_1
                                            replace hx203_2 := (HB.out.cell (World.block_lt_of_cell? w _ hx203_2)).trans hx203_2
                                            replace p203 := eq_true p203
                                            replace q203 := eq_true q203
                                            have p204 : 0 ≤ (x5_3 : Int) := of_decide_eq_true (by first | (with_reducible assumption) | assumption)
                                            have q204 : x5_3 < (l0.length : Int) := of_decide_eq_true (by first | (with_reducible assumption) | assumption)
                                            obtain ⟨ad204, A204_0, c204_0, e204, hx204_0, hl204_0, hi204_0⟩ := at_L2 HR0.out x5_3 p204 q204
                                            obtain rfl : ad201 = ad204 := (by injection e204)
                                            replace hx204_0 := (HB.out.cell (World.block_lt_of_cell? w _ hx204_0)).trans hx204_0
                                            have HR204_0 := Aside0.mk hi204_0
                                            have HC204_0 := Aside0.mk hl204_0
                                            clear hi204_0 hl204_0
                                            replace p204 := eq_true p204
                                            replace q204 := eq_true q204
                                            have ea_ := Option.some.inj (hx201_0.symm.trans hx204_0)
                                            injection ea_ with ea_ en_ ec_
                                            subst ea_
                                            subst ec_
                                            clear en_
                                            have p205 : 0 ≤ ((ji18) : Int) := of_decide_eq_true (by first | (with_reducible assumption) | assumption)
                                            have q205 : (ji18) < ((rd_L2 l0 x5_3).length : Int) := of_decide_eq_true (by first | (with_reducible assumption) | assumption)
                                            obtain ⟨ad205, e205, hx205_0, hx205_1, hx205_2⟩ := at_T48 HR204_0.out (ji18) p205 q205
                                            cases e205
                                            replace hx205_0 := (HB.out.cell (World.block_lt_of_cell? w _ hx205_0)).trans hx205_0
                                            replace hx205_1 := (HB.out.cell (World.block_lt_of_cell? w _ hx205_1)).trans hx205_1
                                            replace hx205_2 := (HB.out.cell (World.block_lt_of_cell? w _ hx205_2)).trans hx205_2
                                            replace p205 := eq_true p205
                                            replace q205 := eq_true q205
                                            go_wp2
                                            repeat (go_quiet (fail); try go_wp2)
                                            go_roundg k5
                                            case measure => have := HK1.out; have := HJ3.out; have := HK3.out; have := HJ7.out; have := HK5.out; omega
                                            case rel => exact ⟨(wrap64 (x6_5 + 1)), (by first | rfl | (simp; done) | (simp [*]; done)), H', ⟨by have := HK1.out; have := HJ3.out; have := HK3.out; have := HJ7.out; have := HK5.out; omega⟩, ⟨by repeat (first | (with_reducible first | exact HB.out | apply below_alloc | apply pw_below_drewN | apply below_drew1) | exact HB.out)⟩⟩
                                        · rw [if_neg c20] at H
                                          exact absurd H (by simp)
                                      · rw [if_neg c19] at H
                                        exact absurd H (by simp)
                                    · rw [if_neg c17] at H
                                      exact absurd H (by simp)
                                  · rw [if_neg c16] at H
                                    have c16b0 : decide (x6_5 < ((rd_L2 l0 x5_3).length : Int)) = false := decide_eq_false c16
                                    clear c16
                                    have H' := Aside0.mk H
                                    clear H
                                    have p201 : 0 ≤ (x5_3 : Int) := of_decide_eq_true (by first | (with_reducible assumption) | assumption)
                                    have q201 : x5_3 < (l0.length : Int) := of_decide_eq_true (by first | (with_reducible assumption) | assumption)
                                    obtain ⟨ad201, A201_0, c201_0, e201, hx201_0, hl201_0, hi201_0⟩ := at_L2 HR0.out x5_3 p201 q201
                                    cases e201
                                    replace hx201_0 := (HB.out.cell (World.block_lt_of_cell? w _ hx201_0)).trans hx201_0
                                    have HR201_0 := Aside0.mk hi201_0
                                    have HC201_0 := Aside0.mk hl201_0
                                    clear hi201_0 hl201_0
                                    replace p201 := eq_true p201
                                    replace q201 := eq_true q201
                                    go_wp2
                                    repeat (go_quiet (fail); try go_wp2)
                                    go_roundg k5
                                    case measure => have := HK1.out; have := HJ3.out; have := HK3.out; have := HJ7.out; have := HK5.out; omega
                                    case rel => exact ⟨(wrap64 (x5_3 + 1)), (by first | rfl | (simp; done) | (simp [*]; done)), H', ⟨by have := HK1.out; have := HJ3.out; have := HK3.out; have := HJ7.out; have := HK5.out; omega⟩, ⟨by repeat (first | (with_reducible first | exact HB.out | apply below_alloc | apply pw_below_drewN | apply below_drew1) | exact HB.out)⟩⟩
                                · rw [if_neg c15] at H
                                  exact absurd H (by simp)
                              · rw [if_neg c14] at H
                                exact absurd H (by simp)
                  · rw [if_neg c7] at H
                    have c7b0 : decide (x5_3 < (l0.length : Int)) = false := decide_eq_false c7
                    clear c7
                    obtain rfl := Option.some.inj H
                    go_wp2
                    repeat (go_quiet (fail); try go_wp2)
                    go_ret
                    exact ⟨by first | rfl | (simp [errW_none, errW_some] <;> rfl) | (simp [*, errW_none, errW_some] <;> rfl), by repeat (first | (with_reducible first | exact HB.out | apply below_alloc | apply pw_below_drewN | apply below_drew1) | exact HB.out)⟩

/-! ### lapidaryref01_Put: function 24 -/
def lapidaryref01_Put.l0 : Nat → Int → List Int → Option (List Int)
  | 0, _, _ => none
  | k + 1, x0, x3 => if x0 > 0 then (if 0 ≤ (wrap64 ((x3.length : Int) - 1)) then (if (wrap64 ((x3.length : Int) - 1)) < (x3.length : Int) then ((some (x3.set ((wrap64 ((x3.length : Int) - 1)) : Int).toNat (((rd x3 (wrap64 ((x3.length : Int) - 1))) + 128) % 256) : List Int)).bind fun y210 => (if y210.length < 140737488355328 then (lapidaryref01_Put.l0 k (IntKind.u64.wrap (Int.tdiv x0 128)) (y210 ++ [(Int.tmod x0 128) % 256])) else (none))) else (none)) else (none)) else (some x3)
def lapidaryref01_Put.f (k : Nat) (a0 : Int) : Option (List Int) := lapidaryref01_Put.l0 k (IntKind.u64.wrap (Int.tdiv a0 128)) (([(Int.tmod a0 128) % 256] : List Int))
theorem lapidaryref01_Put.mono_l : ∀ k, (∀ y0 y1, LeO (lapidaryref01_Put.l0 k y0 y1) (lapidaryref01_Put.l0 (k + 1) y0 y1))
  | 0 => fun _ _ r h => by simp [lapidaryref01_Put.l0] at h
  | k + 1 => by
    have ih0 := lapidaryref01_Put.mono_l k
    · intro y0 y1
      unfold lapidaryref01_Put.l0
      repeat' first
      | (with_reducible exact ih0 _ _)
      | (with_reducible exact LeO.refl _)
      | (with_reducible exact LeO.none _)
      | (with_reducible refine LeO.ite ?_ ?_)
      | (with_reducible refine LeO.bind ?_ (fun _ => ?_))
      | exact ih0 _ _
      | exact LeO.none _
      | refine LeO.ite ?_ ?_
      | refine LeO.bind ?_ (fun _ => ?_)
theorem lapidaryref01_Put.mono : ∀ a0 k, LeO (lapidaryref01_Put.f k a0) (lapidaryref01_Put.f (k + 1) a0) := by
  intro a0 k
  have ih0 := lapidaryref01_Put.mono_l k
  unfold lapidaryref01_Put.f
  repeat' first
      | (with_reducible exact ih0 _ _)
      | (with_reducible exact LeO.refl _)
      | (with_reducible exact LeO.none _)
      | (with_reducible refine LeO.ite ?_ ?_)
      | (with_reducible refine LeO.bind ?_ (fun _ => ?_))
      | exact ih0 _ _
      | exact LeO.none _
      | refine LeO.ite ?_ ?_
      | refine LeO.bind ?_ (fun _ => ?_)
set_option maxHeartbeats 8000000 in
set_option maxRecDepth 100000 in
theorem lapidaryref01_Put.calls (k : Nat) (a0 : Int) (r : List Int) (w : World) (h : lapidaryref01_Put.f k a0 = some r) :
    Calls Try.prog 24 #[.int .u64 a0] w fun e w' => ∃ v0_ : Value, e = .returned (v0_) ∧ Kd.R (Kd.int .u8) 5 w' w.heap.size (fun _ => True) v0_ r ∧ Below w.heap.size w w' := by
  have HB := Aside0.mk (Below.refl w.heap.size w)
  have H : (lapidaryref01_Put.l0 k (IntKind.u64.wrap (Int.tdiv a0 128)) (([(Int.tmod a0 128) % 256] : List Int))) = some r := h
  clear h
  obtain ⟨y206, hy206⟩ : ∃ y_ : List Int, y_ = (([(Int.tmod a0 128) % 256] : List Int)) := ⟨_, rfl⟩
  replace H : (lapidaryref01_Put.l0 k (IntKind.u64.wrap (Int.tdiv a0 128)) y206) = some r := by first | (rw [hy206]; with_reducible exact H) | (have H2_ := (Option.bind_some _ _).symm.trans H; rw [hy206]; with_reducible exact H2_) | (have H2_ := (Option.bind_some _ _).symm.trans H; with_reducible exact H2_) | with_reducible exact H | (rw [hy206]; exact H) | exact H
  have Ny206 := Aside0.mk hy206
  clear hy206
  have H' := Aside0.mk H
  clear H
  go_enter Try.func24, Try.ntmps24
  go_wp2_with (first | ((with_reducible refine gate_dst (N := 7) rfl ?_); refine Kd.R_lit (Kd.int .u8) _ 5 ?hg (N := 7) ?hd (xs := ([(Int.tmod a0 128) % 256] : List Int)) (inner := [.int .u8 ((Int.tmod a0 128) % 256)]) (ok := fun _ => True) (okp := fun _ => True) ?hr ?hp (fun _ hk => hk) trivial (Below.refl _ _) (Nat.le_refl _) (by simp) ?_; (case hd => rfl); (case hg => rfl); (case hr => first | (go_simp; done) | (go_simp; rfl)); (case hp => exact (Reps.one (show Kd.M (Kd.int .u8) _ _ _ ((Int.tmod a0 128) % 256) [.int .u8 ((Int.tmod a0 128) % 256)] from rfl) (Reps.none _ _))); intro v207 w2 ho3 hb hg_ hnew_; clear hg_ hnew_; (first | rw [← Ny206.out] at ho3 | (simp only [Int.reduceToNat] at ho3; rw [← Ny206.out] at ho3)); have n0_ := Aside0.mk (Kd.R_lower ho3 (below_size (by repeat (first | (with_reducible first | exact HB.out | apply below_alloc | apply pw_below_drewN | apply below_drew1) | exact HB.out)))); have n1_ := Aside0.mk (below_step (by repeat (first | (with_reducible first | exact HB.out | apply below_alloc | apply pw_below_drewN | apply below_drew1) | exact HB.out)) hb); clear HB; have HO208 := n0_; have HB := n1_; clear n0_ n1_; clear hb ho3))
  go_loopg [0, 3] k (fun kq v0 v3 w' => ∃ (x0_1 : Int) (x3_1 : List Int), v0 = .int .u64 x0_1 ∧ Aside0 (lapidaryref01_Put.l0 kq x0_1 x3_1 = some r) ∧ Aside0 (kq ≤ k) ∧ Aside0 (Kd.R (Kd.int .u8) 5 w' w.heap.size (fun _ => True) v3 x3_1) ∧ Aside0 (Below w.heap.size w w'))
  case atStart => exact ⟨(IntKind.u64.wrap (Int.tdiv a0 128)), (y206), (by first | rfl | (simp; done) | (simp [*]; done)), H', ⟨Nat.le_refl _⟩, ⟨by (with_reducible repeat (first | apply Kd.R_alloc | apply Kd.R_drewN | apply Kd.R_drew)); exact HO208.out⟩, ⟨by repeat (first | (with_reducible first | exact HB.out | apply below_alloc | apply pw_below_drewN | apply below_drew1) | exact HB.out)⟩⟩
  case round =>
    clear H'
    try clear c2
    try clear p2
    obtain ⟨x0_1, x3_1, rfl, HA, HK1, HO_3, HB⟩ := hrel
    cases gk with
    | zero => exact absurd HA.out (by simp [lapidaryref01_Put.l0])
    | succ k1 =>
      have H := HA.out
      clear HA
      simp only [lapidaryref01_Put.l0] at H
      by_cases c4 : x0_1 > 0
      · rw [if_pos c4] at H
        have c4b0 : decide (0 < x0_1) = true := decide_eq_true c4
        clear c4
        obtain ⟨ji5, hji5⟩ : ∃ j_ : Int, (wrap64 ((x3_1.length : Int) - 1)) = j_ := ⟨_, rfl⟩
        replace H : (if 0 ≤ (ji5) then (if (ji5) < (x3_1.length : Int) then ((some (x3_1.set ((ji5) : Int).toNat (((rd x3_1 (ji5)) + 128) % 256) : List Int)).bind fun y210 => (if y210.length < 140737488355328 then (lapidaryref01_Put.l0 k1 (IntKind.u64.wrap (Int.tdiv x0_1 128)) (y210 ++ [(Int.tmod x0_1 128) % 256])) else (none))) else (none)) else (none)) = some r := by first | (rw [hji5] at H; exact H) | (simp only [hji5] at H ⊢; exact H)
        have hji5w : (IntKind.i64.wrap ((x3_1.length : Int) - 1)) = ji5 := (i64_w _).trans hji5
        by_cases c6 : 0 ≤ (ji5)
        · rw [if_pos c6] at H
          have c6b0 : decide (0 ≤ (ji5)) = true := decide_eq_true c6
          clear c6
          by_cases c7 : (ji5) < (x3_1.length : Int)
          · rw [if_pos c7] at H
            have c7b0 : decide ((ji5) < (x3_1.length : Int)) = true := decide_eq_true c7
            clear c7
            obtain ⟨y210, hy210⟩ : ∃ y_ : List Int, y_ = (x3_1.set ((ji5) : Int).toNat (((rd x3_1 (ji5)) + 128) % 256)) := ⟨_, rfl⟩
            replace H : (if y210.length < 140737488355328 then (lapidaryref01_Put.l0 k1 (IntKind.u64.wrap (Int.tdiv x0_1 128)) (y210 ++ [(Int.tmod x0_1 128) % 256])) else (none)) = some r := by first | (rw [hy210]; with_reducible exact H) | (have H2_ := (Option.bind_some _ _).symm.trans H; rw [hy210]; with_reducible exact H2_) | (have H2_ := (Option.bind_some _ _).symm.trans H; with_reducible exact H2_) | with_reducible exact H | (rw [hy210]; exact H) | exact H
            have Ny210 := Aside0.mk hy210
            clear hy210
            by_cases c9 : y210.length < 140737488355328
            · rw [if_pos c9] at H
              have LMc9 := Aside0.mk c9
              clear c9
              obtain ⟨y211, hy211⟩ : ∃ y_ : List Int, y_ = (y210 ++ [(Int.tmod x0_1 128) % 256]) := ⟨_, rfl⟩
              replace H : (lapidaryref01_Put.l0 k1 (IntKind.u64.wrap (Int.tdiv x0_1 128)) y211) = some r := by first | (rw [hy211]; with_reducible exact H) | (have H2_ := (Option.bind_some _ _).symm.trans H; rw [hy211]; with_reducible exact H2_) | (have H2_ := (Option.bind_some _ _).symm.trans H; with_reducible exact H2_) | with_reducible exact H | (rw [hy211]; exact H) | exact H
              have Ny211 := Aside0.mk hy211
              clear hy211
              have H' := Aside0.mk H
              clear H
              obtain ⟨Ao10, co10, eo10⟩ := Kd.R_slice HO_3.out
              subst eo10
              have p209 : 0 ≤ ((ji5) : Int) := of_decide_eq_true (by first | (with_reducible assumption) | assumption)
              have q209 : (ji5) < (x3_1.length : Int) := of_decide_eq_true (by first | (with_reducible assumption) | assumption)
              obtain ⟨ad209, e209, hx209_0⟩ := Kd.at_int (Kd.R_reads' HO_3.out).2.2 (ji5) p209 q209
              cases e209
              replace p209 := eq_true p209
              replace q209 := eq_true q209
              have p8 : 0 ≤ ((ji5) : Int) := of_decide_eq_true (by first | (with_reducible assumption) | assumption)
              have q8 : ((ji5) : Int) < ((x3_1.length : Int) : Int) := of_decide_eq_true (by first | (with_reducible assumption) | assumption)
              obtain ⟨go8, co8, eo8, gb8, gl8, cl8, HG8⟩ := Kd.R_form HO_3.out (by omega)
              (first | cases eo8 | (injection eo8 with ea_ en_ ec_; (first | subst ea_ | (injection ea_ with ea_; subst ea_)); subst ec_; clear en_))
              have GB8 := Aside0.mk gb8
              have GG8 := Aside0.mk HG8
              clear gb8 gl8 HG8
              (first | simp only [add_plain] at hx209_0 | skip)
              obtain ⟨hx8_0, hf8_0⟩ := Kd.R_celln 0 HO_3.out ((ji5) : Int) p8 q8
              replace p8 := eq_true p8
              replace q8 := eq_true q8
              have HP11 := Kd.R_putg HO_3.out ((ji5) : Int) (((rd x3_1 (ji5)) + 128) % 256)
              go_wp2_with (first | ((with_reducible refine gate_store (t := 5) (p := 23) rfl ?_); refine store_event (t := 5) (p := 23) (v := ?vo_w12) (w1 := (wr.setCell ⟨go8, ((ji5) : Int).toNat, none⟩ (.int .u8 (((rd x3_1 (ji5)) + 128) % 256)))) ?hg ?ho ?hn ?hr ?_; (case ho => rfl); (case hg => rfl); (case hn => rfl); (case hr => first | (go_simp; done) | (go_simp; rfl)); intro w12 hw; have hg : wr.grownBy w12 (some go8) := (by rw [hw]; exact HP11.2); have hp_ : Kd.R (Kd.int .u8) 5 w12 w.heap.size (fun _ => True) (.slice (some ⟨go8, 0, none⟩) x3_1.length co10) y210 := (by rw [hw, Ny210.out]; exact HP11.1); clear HP11; have n0_ := Aside0.mk (hp_); have n1_ := Aside0.mk ((by rw [hw]; exact below_set (HB.out) GB8.out : Below w.heap.size w w12)); clear HO_3; clear HB; have HO_3 := n0_; have HB := n1_; clear n0_ n1_; clear hg hw hp_) | ((with_reducible refine gate_builtin (b := .append) (xs := #[.tmp 24, .tmp 28]) rfl ?_); at_builtin; refine Kd.R_append (Kd.int .u8) (w0 := w) w.heap.size rfl (.tmp 24) (.tmp 28) 23 5 (.int .u8 0) 1 rfl Try.underlying23 info5 rfl (by decide) (by omega) (.slice (some ⟨go8, 0, none⟩) x3_1.length co10) y210 ((Int.tmod x0_1 128) % 256) [.int .u8 ((Int.tmod x0_1 128) % 256)] (fun _ => True) (fun _ => False) rfl rfl ?aP (fun _ hk => hk.elim) ?aF ?aO ?aB ?aS ?aL ?_; (case aP => exact rfl); (case aB => exact (by repeat (first | (with_reducible first | exact HB.out | apply below_alloc | apply pw_below_drewN | apply below_drew1) | exact HB.out))); (case aF => exact (fun _ _ => trivial)); (case aO => exact (by (with_reducible repeat (first | apply Kd.R_alloc | apply Kd.R_drewN | apply Kd.R_drew)); exact HO_3.out)); (case aS => exact (below_size (by repeat (first | (with_reducible first | exact HB.out | apply below_alloc | apply pw_below_drewN | apply below_drew1) | exact HB.out)))); (case aL => have := LMc9.out; omega); intro v212 w13 ho hb hg hat; rw [← Ny211.out] at ho; have n0_ := Aside0.mk (hb); have n1_ := Aside0.mk (ho); clear HB; clear HO_3; have HB := n0_; have HO213 := n1_; clear n0_ n1_; clear ho hb hg hat))
              go_roundg k1
              case measure => have := HK1.out; omega
              case rel => exact ⟨(IntKind.u64.wrap (Int.tdiv x0_1 128)), (y211), (by first | rfl | (simp; done) | (simp [*]; done)), H', ⟨by have := HK1.out; omega⟩, ⟨by (with_reducible repeat (first | apply Kd.R_alloc | apply Kd.R_drewN | apply Kd.R_drew)); exact HO213.out⟩, ⟨by repeat (first | (with_reducible first | exact HB.out | apply below_alloc | apply pw_below_drewN | apply below_drew1) | exact HB.out)⟩⟩
            · rw [if_neg c9] at H
              exact absurd H (by simp)
          · rw [if_neg c7] at H
            exact absurd H (by simp)
        · rw [if_neg c6] at H
          exact absurd H (by simp)
      · rw [if_neg c4] at H
        have c4b0 : decide (0 < x0_1) = false := decide_eq_false c4
        clear c4
        obtain rfl := Option.some.inj H
        go_wp2
        go_ret
        exact ⟨_, by first | rfl | (simp [errW_none, errW_some] <;> rfl) | (simp [*, errW_none, errW_some] <;> rfl), by (with_reducible repeat (first | apply Kd.R_alloc | apply Kd.R_drewN | apply Kd.R_drew)); exact HO_3.out, by repeat (first | (with_reducible first | exact HB.out | apply below_alloc | apply pw_below_drewN | apply below_drew1) | exact HB.out)⟩

/-! ### lapidaryref01_Zig: function 33 -/
def lapidaryref01_Zig.f (a0 : Int) : Option (Int) := if a0 ≥ 0 then (some (IntKind.u64.wrap (2 * (IntKind.u64.wrap (a0))))) else (some (IntKind.u64.wrap ((IntKind.u64.wrap (2 * (IntKind.u64.wrap (wrap64 (-(wrap64 (a0 + 1))))))) + 1)))
set_option maxHeartbeats 8000000 in
set_option maxRecDepth 100000 in
theorem lapidaryref01_Zig.calls (a0 : Int) (r : Int) (w : World) (h : lapidaryref01_Zig.f a0 = some r) :
    Calls Try.prog 33 #[.int .i64 a0] w fun e w' => e = .returned (.int .u64 r) ∧ Drawn0 w w' := by
  have H : (if a0 ≥ 0 then (some (IntKind.u64.wrap (2 * (IntKind.u64.wrap (a0))))) else (some (IntKind.u64.wrap ((IntKind.u64.wrap (2 * (IntKind.u64.wrap (wrap64 (-(wrap64 (a0 + 1))))))) + 1)))) = some r := h
  clear h
  by_cases c2 : a0 ≥ 0
  · rw [if_pos c2] at H
    have c2b0 : decide (0 ≤ a0) = true := decide_eq_true c2
    clear c2
    obtain rfl := Option.some.inj H
    go_enter Try.func33, Try.ntmps33
    go_wp2
    go_ret
    exact ⟨by first | rfl | (simp; done) | (simp [*]; done), by repeat (first | exact Drawn0.refl _ | apply Drawn0.step)⟩
  · rw [if_neg c2] at H
    have c2b0 : decide (0 ≤ a0) = false := decide_eq_false c2
    clear c2
    obtain rfl := Option.some.inj H
    go_enter Try.func33, Try.ntmps33
    go_wp2
    go_ret
    exact ⟨by first | rfl | (simp; done) | (simp [*]; done), by repeat (first | exact Drawn0.refl _ | apply Drawn0.step)⟩

end Go.Proofs.Ytmfeokapjmpjfaa.PArc
