-- Written for this claim by a program of this session.
import Derived.Test.YtmfeokapjmpjfaaPArcx0
import Derived.Test.YtmfeokapjmpjfaaPArcx1
import Derived.Test.YtmfeokapjmpjfaaPArcx5
import Derived.Test.YtmfeokapjmpjfaaPArcx6
import Derived.Test.YtmfeokapjmpjfaaPArcx10
import Derived.Test.YtmfeokapjmpjfaaArcStub
namespace Go.Proofs.Ytmfeokapjmpjfaa.PArc
open Go.RowKit Go.Proofs.YtmfeokapjmpjfaaW.PrintWords Go.Proofs.YtmfeokapjmpjfaaW.PrintLast Go.Proofs.YtmfeokapjmpjfaaW.PrintMore
attribute [local go_sem] max2_int min2_int max_two min_two max_three min_three max_four min_four   -- for this text's walks alone
set_option linter.unusedVariables false
set_option linter.unusedSimpArgs false

attribute [local go_sem high] eqA48
/-! ### arc_Back: function 19 -/
def arc_Back.l0 : Nat → List (S48) → List (S48) → Int → Option ((List (S48)))
  | 0, _, _, _ => none
  | k + 1, x0, x3, x4 => if x4 ≥ 0 then (if 0 ≤ x4 then (if x4 < (x0.length : Int) then (if x3.length < 5864062014805 then (arc_Back.l0 k x0 (x3 ++ [(⟨(rd_T48 x0 x4).f0, (rd_T48 x0 x4).f1, (rd_T48 x0 x4).f2⟩ : S48)]) (wrap64 (x4 - 1))) else (none)) else (none)) else (none)) else (some x3)
def arc_Back.f (k : Nat) (l0 : List (S48)) : Option ((List (S48))) := arc_Back.l0 k l0 ([] : List (S48)) (wrap64 ((l0.length : Int) - 1))
theorem arc_Back.mono_l : ∀ k, (∀ y0 y1 y2, LeO (arc_Back.l0 k y0 y1 y2) (arc_Back.l0 (k + 1) y0 y1 y2))
  | 0 => fun _ _ _ r h => by simp [arc_Back.l0] at h
  | k + 1 => by
    have ih0 := arc_Back.mono_l k
    · intro y0 y1 y2
      unfold arc_Back.l0
      repeat' first
      | (with_reducible exact ih0 _ _ _)
      | (with_reducible exact LeO.refl _)
      | (with_reducible exact LeO.none _)
      | (with_reducible refine LeO.ite ?_ ?_)
      | (with_reducible refine LeO.bind ?_ (fun _ => ?_))
      | exact ih0 _ _ _
      | exact LeO.none _
      | refine LeO.ite ?_ ?_
      | refine LeO.bind ?_ (fun _ => ?_)
theorem arc_Back.mono : ∀ a0 k, LeO (arc_Back.f k a0) (arc_Back.f (k + 1) a0) := by
  intro a0 k
  have ih0 := arc_Back.mono_l k
  unfold arc_Back.f
  repeat' first
      | (with_reducible exact ih0 _ _ _)
      | (with_reducible exact LeO.refl _)
      | (with_reducible exact LeO.none _)
      | (with_reducible refine LeO.ite ?_ ?_)
      | (with_reducible refine LeO.bind ?_ (fun _ => ?_))
      | exact ih0 _ _ _
      | exact LeO.none _
      | refine LeO.ite ?_ ?_
      | refine LeO.bind ?_ (fun _ => ?_)
set_option maxHeartbeats 8000000 in
set_option maxRecDepth 100000 in
theorem arc_Back.calls (k : Nat) (A0 : Option Addr) (c0 : Nat) (l0 : List (S48)) (r : List (S48)) (w : World) (hr0 : Kd.C k48 w A0 l0.length l0) (hc0 : l0.length ≤ c0) (h : arc_Back.f k l0 = some r) :
    Calls Try.prog 19 #[.slice A0 l0.length c0] w fun e w' => ∃ v0_ : Value, e = .returned (v0_) ∧ Kd.R k48 48 w' w.heap.size (fun _ => True) v0_ r ∧ Below w.heap.size w w' := by
  have hu48 := Try.underlying48
  have HR0 := Aside0.mk hr0
  have HC0 := Aside0.mk hc0
  clear hr0 hc0
  have HB := Aside0.mk (Below.refl w.heap.size w)
  have H : (arc_Back.l0 k l0 ([] : List (S48)) (wrap64 ((l0.length : Int) - 1))) = some r := h
  clear h
  have H' := Aside0.mk H
  clear H
  go_enter Try.func19, Try.ntmps19
  go_wp2
  go_loopg [3, 4] k (fun kq v3 v4 w' => ∃ (x3_1 : List (S48)) (x4_1 : Int), v4 = .int .i64 x4_1 ∧ Aside0 (arc_Back.l0 kq l0 x3_1 x4_1 = some r) ∧ Aside0 (kq ≤ k) ∧ Aside0 (Kd.R k48 48 w' w.heap.size (fun _ => True) v3 x3_1) ∧ Aside0 (Below w.heap.size w w'))
  case atStart => exact ⟨(([] : List (S48))), (wrap64 ((l0.length : Int) - 1)), (by first | rfl | (simp; done) | (simp [*]; done)), H', ⟨Nat.le_refl _⟩, ⟨by first | exact Kd.R_nil _ _ _ _ _ | exact Kd.N_nil _ _ _ _ _ | exact Kd.V_nil _ _ _ _ _ | exact Kd.Q_nil _ _ _ _ _ | exact Kd.S_nil _ _ _ _ _⟩, ⟨by repeat (first | (with_reducible first | exact HB.out | apply below_alloc | apply pw_below_drewN | apply below_drew1) | exact HB.out)⟩⟩
  case round =>
    clear H'
    try clear c1
    obtain ⟨x3_1, x4_1, rfl, HA, HK1, HO_3, HB⟩ := hrel
    cases gk with
    | zero => exact absurd HA.out (by simp [arc_Back.l0])
    | succ k1 =>
      have H := HA.out
      clear HA
      simp only [arc_Back.l0] at H
      by_cases c2 : x4_1 ≥ 0
      · rw [if_pos c2] at H
        have c2b0 : decide (0 ≤ x4_1) = true := decide_eq_true c2
        clear c2
        by_cases c3 : 0 ≤ x4_1
        · rw [if_pos c3] at H
          have c3b0 : decide (0 ≤ x4_1) = true := decide_eq_true c3
          clear c3
          by_cases c4 : x4_1 < (l0.length : Int)
          · rw [if_pos c4] at H
            have c4b0 : decide (x4_1 < (l0.length : Int)) = true := decide_eq_true c4
            clear c4
            by_cases c5 : x3_1.length < 5864062014805
            · rw [if_pos c5] at H
              have LMc5 := Aside0.mk c5
              clear c5
              obtain ⟨y367, hy367⟩ : ∃ y_ : List (S48), y_ = (x3_1 ++ [(⟨(rd_T48 l0 x4_1).f0, (rd_T48 l0 x4_1).f1, (rd_T48 l0 x4_1).f2⟩ : S48)]) := ⟨_, rfl⟩
              replace H : (arc_Back.l0 k1 l0 y367 (wrap64 (x4_1 - 1))) = some r := by first | (rw [hy367]; with_reducible exact H) | (have H2_ := (Option.bind_some _ _).symm.trans H; rw [hy367]; with_reducible exact H2_) | (have H2_ := (Option.bind_some _ _).symm.trans H; with_reducible exact H2_) | with_reducible exact H | (rw [hy367]; exact H) | exact H
              have Ny367 := Aside0.mk hy367
              clear hy367
              have H' := Aside0.mk H
              clear H
              have p366 : 0 ≤ (x4_1 : Int) := of_decide_eq_true (by first | (with_reducible assumption) | assumption)
              have q366 : x4_1 < (l0.length : Int) := of_decide_eq_true (by first | (with_reducible assumption) | assumption)
              obtain ⟨ad366, e366, hx366_0, hx366_1, hx366_2⟩ := at_T48 HR0.out x4_1 p366 q366
              cases e366
              replace hx366_0 := (HB.out.cell (World.block_lt_of_cell? w _ hx366_0)).trans hx366_0
              replace hx366_1 := (HB.out.cell (World.block_lt_of_cell? w _ hx366_1)).trans hx366_1
              replace hx366_2 := (HB.out.cell (World.block_lt_of_cell? w _ hx366_2)).trans hx366_2
              replace p366 := eq_true p366
              replace q366 := eq_true q366
              go_wp2_with (first | ((with_reducible refine gate_builtin (b := .append) (xs := #[.tmp 12, .tmp 17]) rfl ?_); at_builtin; refine Kd.R_append k48 (w0 := w) w.heap.size rfl (.tmp 12) (.tmp 17) 44 48 (.agg #[(.int .i64 0), (.int .i64 0), (.int .i64 0)]) 24 rfl Try.underlying44 info48 rfl (by decide) (by omega) u3 x3_1 (⟨(rd_T48 l0 x4_1).f0, (rd_T48 l0 x4_1).f1, (rd_T48 l0 x4_1).f2⟩ : S48) [.int .i64 ((rd_T48 l0 x4_1).f0), .int .i64 ((rd_T48 l0 x4_1).f1), .int .i64 ((rd_T48 l0 x4_1).f2)] (fun _ => True) (fun _ => False) rfl rfl ?aP (fun _ hk => hk.elim) ?aF ?aO ?aB ?aS ?aL ?_; (case aP => exact k48_mkM _ _ _ (⟨(rd_T48 l0 x4_1).f0, (rd_T48 l0 x4_1).f1, (rd_T48 l0 x4_1).f2⟩ : S48)); (case aB => exact (by repeat (first | (with_reducible first | exact HB.out | apply below_alloc | apply pw_below_drewN | apply below_drew1) | exact HB.out))); (case aF => exact (fun _ _ => trivial)); (case aO => exact (by (with_reducible repeat (first | apply Kd.R_alloc | apply Kd.R_drewN | apply Kd.R_drew)); exact HO_3.out)); (case aS => exact (below_size (by repeat (first | (with_reducible first | exact HB.out | apply below_alloc | apply pw_below_drewN | apply below_drew1) | exact HB.out)))); (case aL => have := LMc5.out; omega); intro v368 w6 ho hb hg hat; rw [← Ny367.out] at ho; have n0_ := Aside0.mk (hb); have n1_ := Aside0.mk (ho); clear HB; clear HO_3; have HB := n0_; have HO369 := n1_; clear n0_ n1_; clear ho hb hg hat))
              go_roundg k1
              case measure => have := HK1.out; omega
              case rel => exact ⟨(y367), (wrap64 (x4_1 - 1)), (by first | rfl | (simp; done) | (simp [*]; done)), H', ⟨by have := HK1.out; omega⟩, ⟨by (with_reducible repeat (first | apply Kd.R_alloc | apply Kd.R_drewN | apply Kd.R_drew)); exact HO369.out⟩, ⟨by repeat (first | (with_reducible first | exact HB.out | apply below_alloc | apply pw_below_drewN | apply below_drew1) | exact HB.out)⟩⟩
            · rw [if_neg c5] at H
              exact absurd H (by simp)
          · rw [if_neg c4] at H
            exact absurd H (by simp)
        · rw [if_neg c3] at H
          exact absurd H (by simp)
      · rw [if_neg c2] at H
        have c2b0 : decide (0 ≤ x4_1) = false := decide_eq_false c2
        clear c2
        obtain rfl := Option.some.inj H
        go_wp2
        go_ret
        exact ⟨_, by first | rfl | (simp [errW_none, errW_some] <;> rfl) | (simp [*, errW_none, errW_some] <;> rfl), by (with_reducible repeat (first | apply Kd.R_alloc | apply Kd.R_drewN | apply Kd.R_drew)); exact HO_3.out, by repeat (first | (with_reducible first | exact HB.out | apply below_alloc | apply pw_below_drewN | apply below_drew1) | exact HB.out)⟩

/-! ### lapidaryref07_SamePoints: function 20 -/
def lapidaryref07_SamePoints.l0 : Nat → List (S48) → List (S48) → Int → Option (Bool)
  | 0, _, _, _ => none
  | k + 1, x0, x1, x5 => if x5 < (x0.length : Int) then (if 0 ≤ x5 then (if x5 < (x1.length : Int) then (if (!(((rd_T48 x0 x5).f0) == ((rd_T48 x1 x5).f0)) || (!(((rd_T48 x0 x5).f1) == ((rd_T48 x1 x5).f1)) || (!(((rd_T48 x0 x5).f2) == ((rd_T48 x1 x5).f2))))) = true then (some false) else (lapidaryref07_SamePoints.l0 k x0 x1 (wrap64 (x5 + 1)))) else (none)) else (none)) else (some true)
def lapidaryref07_SamePoints.f (k : Nat) (l0 : List (S48)) (l1 : List (S48)) : Option (Bool) := if (l0.length : Int) = (l1.length : Int) then (lapidaryref07_SamePoints.l0 k l0 l1 0) else (some false)
theorem lapidaryref07_SamePoints.mono_l : ∀ k, (∀ y0 y1 y2, LeO (lapidaryref07_SamePoints.l0 k y0 y1 y2) (lapidaryref07_SamePoints.l0 (k + 1) y0 y1 y2))
  | 0 => fun _ _ _ r h => by simp [lapidaryref07_SamePoints.l0] at h
  | k + 1 => by
    have ih0 := lapidaryref07_SamePoints.mono_l k
    · intro y0 y1 y2
      unfold lapidaryref07_SamePoints.l0
      repeat' first
      | (with_reducible exact ih0 _ _ _)
      | (with_reducible exact LeO.refl _)
      | (with_reducible exact LeO.none _)
      | (with_reducible refine LeO.ite ?_ ?_)
      | (with_reducible refine LeO.bind ?_ (fun _ => ?_))
      | exact ih0 _ _ _
      | exact LeO.none _
      | refine LeO.ite ?_ ?_
      | refine LeO.bind ?_ (fun _ => ?_)
theorem lapidaryref07_SamePoints.mono : ∀ a0 a1 k, LeO (lapidaryref07_SamePoints.f k a0 a1) (lapidaryref07_SamePoints.f (k + 1) a0 a1) := by
  intro a0 a1 k
  have ih0 := lapidaryref07_SamePoints.mono_l k
  unfold lapidaryref07_SamePoints.f
  repeat' first
      | (with_reducible exact ih0 _ _ _)
      | (with_reducible exact LeO.refl _)
      | (with_reducible exact LeO.none _)
      | (with_reducible refine LeO.ite ?_ ?_)
      | (with_reducible refine LeO.bind ?_ (fun _ => ?_))
      | exact ih0 _ _ _
      | exact LeO.none _
      | refine LeO.ite ?_ ?_
      | refine LeO.bind ?_ (fun _ => ?_)
set_option maxHeartbeats 8000000 in
set_option maxRecDepth 100000 in
theorem lapidaryref07_SamePoints.calls (k : Nat) (A0 : Option Addr) (c0 : Nat) (l0 : List (S48)) (A1 : Option Addr) (c1 : Nat) (l1 : List (S48)) (r : Bool) (w : World) (hr0 : Kd.C k48 w A0 l0.length l0) (hc0 : l0.length ≤ c0) (hr1 : Kd.C k48 w A1 l1.length l1) (hc1 : l1.length ≤ c1) (h : lapidaryref07_SamePoints.f k l0 l1 = some r) :
    Calls Try.prog 20 #[.slice A0 l0.length c0, .slice A1 l1.length c1] w fun e w' => e = .returned (.bool r) ∧ Drawn0 w w' := by
  have hu48 := Try.underlying48
  have HR0 := Aside0.mk hr0
  have HC0 := Aside0.mk hc0
  clear hr0 hc0
  have HR1 := Aside0.mk hr1
  have HC1 := Aside0.mk hc1
  clear hr1 hc1
  have H : (if (l0.length : Int) = (l1.length : Int) then (lapidaryref07_SamePoints.l0 k l0 l1 0) else (some false)) = some r := h
  clear h
  by_cases c3 : (l0.length : Int) = (l1.length : Int)
  · rw [if_pos c3] at H
    have c3b0 : ((l0.length : Int) == (l1.length : Int)) = true := beq_iff_eq.mpr c3
    have c3b1 : ((l0.length : Int) != (l1.length : Int)) = false := bne_eq_false_iff_eq.mpr c3
    have c3b2 : (l0.length == l1.length) = true := by first | simpa using c3 | (simp at c3 ⊢; omega)
    clear c3
    have H' := Aside0.mk H
    clear H
    go_enter Try.func20, Try.ntmps20
    go_wp2
    repeat (go_quiet (fail); try go_wp2)
    go_loopg [5] k (fun kq v5 w' => ∃ (x5_1 : Int), v5 = .int .i64 x5_1 ∧ Aside0 (lapidaryref07_SamePoints.l0 kq l0 l1 x5_1 = some r) ∧ Aside0 (kq ≤ k) ∧ Drawn0 w w')
    case atStart => exact ⟨(0), (by first | rfl | (simp; done) | (simp [*]; done)), H', ⟨Nat.le_refl _⟩, by repeat (first | exact Drawn0.refl _ | apply Drawn0.step)⟩
    case round =>
      clear H'
      try clear c1
      try clear c2
      try clear p2
      try clear c3
      try clear c3b0
      try clear c3b1
      try clear c3b2
      obtain ⟨x5_1, rfl, HA, HK1, ⟨m1, rfl⟩⟩ := hrel
      cases gk with
      | zero => exact absurd HA.out (by simp [lapidaryref07_SamePoints.l0])
      | succ k1 =>
        have H := HA.out
        clear HA
        simp only [lapidaryref07_SamePoints.l0] at H
        by_cases c4 : x5_1 < (l0.length : Int)
        · rw [if_pos c4] at H
          have c4b0 : decide (x5_1 < (l0.length : Int)) = true := decide_eq_true c4
          clear c4
          by_cases c5 : 0 ≤ x5_1
          · rw [if_pos c5] at H
            have c5b0 : decide (0 ≤ x5_1) = true := decide_eq_true c5
            clear c5
            by_cases c6 : x5_1 < (l1.length : Int)
            · rw [if_pos c6] at H
              have c6b0 : decide (x5_1 < (l1.length : Int)) = true := decide_eq_true c6
              clear c6
              by_cases c7 : (!(((rd_T48 l0 x5_1).f0) == ((rd_T48 l1 x5_1).f0)) || (!(((rd_T48 l0 x5_1).f1) == ((rd_T48 l1 x5_1).f1)) || (!(((rd_T48 l0 x5_1).f2) == ((rd_T48 l1 x5_1).f2))))) = true
              · rw [if_pos c7] at H
                have c7b0 : (!(((rd_T48 l0 x5_1).f0) == ((rd_T48 l1 x5_1).f0)) || (!(((rd_T48 l0 x5_1).f1) == ((rd_T48 l1 x5_1).f1)) || (!(((rd_T48 l0 x5_1).f2) == ((rd_T48 l1 x5_1).f2))))) = true := c7
                clear c7
                obtain rfl := Option.some.inj H
                have p370 : 0 ≤ (x5_1 : Int) := of_decide_eq_true (by first | (with_reducible assumption) | assumption)
                have q370 : x5_1 < (l0.length : Int) := of_decide_eq_true (by first | (with_reducible assumption) | assumption)
                obtain ⟨ad370, e370, hx370_0, hx370_1, hx370_2⟩ := at_T48 HR0.out x5_1 p370 q370
                cases e370
                replace p370 := eq_true p370
                replace q370 := eq_true q370
                have p371 : 0 ≤ (x5_1 : Int) := of_decide_eq_true (by first | (with_reducible assumption) | assumption)
                have q371 : x5_1 < (l1.length : Int) := of_decide_eq_true (by first | (with_reducible assumption) | assumption)
                obtain ⟨ad371, e371, hx371_0, hx371_1, hx371_2⟩ := at_T48 HR1.out x5_1 p371 q371
                cases e371
                replace p371 := eq_true p371
                replace q371 := eq_true q371
                go_wp2
                repeat (go_quiet (fail); try go_wp2)
                go_ret
                exact ⟨by first | rfl | (simp; done) | (simp [*]; done), by repeat (first | exact Drawn0.refl _ | apply Drawn0.step)⟩
              · rw [if_neg c7] at H
                have c7b0 : (!(((rd_T48 l0 x5_1).f0) == ((rd_T48 l1 x5_1).f0)) || (!(((rd_T48 l0 x5_1).f1) == ((rd_T48 l1 x5_1).f1)) || (!(((rd_T48 l0 x5_1).f2) == ((rd_T48 l1 x5_1).f2))))) = false := by simpa using c7
                clear c7
                have H' := Aside0.mk H
                clear H
                have p370 : 0 ≤ (x5_1 : Int) := of_decide_eq_true (by first | (with_reducible assumption) | assumption)
                have q370 : x5_1 < (l0.length : Int) := of_decide_eq_true (by first | (with_reducible assumption) | assumption)
                obtain ⟨ad370, e370, hx370_0, hx370_1, hx370_2⟩ := at_T48 HR0.out x5_1 p370 q370
                cases e370
                replace p370 := eq_true p370
                replace q370 := eq_true q370
                have p371 : 0 ≤ (x5_1 : Int) := of_decide_eq_true (by first | (with_reducible assumption) | assumption)
                have q371 : x5_1 < (l1.length : Int) := of_decide_eq_true (by first | (with_reducible assumption) | assumption)
                obtain ⟨ad371, e371, hx371_0, hx371_1, hx371_2⟩ := at_T48 HR1.out x5_1 p371 q371
                cases e371
                replace p371 := eq_true p371
                replace q371 := eq_true q371
                go_wp2
                repeat (go_quiet (fail); try go_wp2)
                go_roundg k1
                case measure => have := HK1.out; omega
                case rel => exact ⟨(wrap64 (x5_1 + 1)), (by first | rfl | (simp; done) | (simp [*]; done)), H', ⟨by have := HK1.out; omega⟩, by repeat (first | exact Drawn0.refl _ | apply Drawn0.step)⟩
            · rw [if_neg c6] at H
              exact absurd H (by simp)
          · rw [if_neg c5] at H
            exact absurd H (by simp)
        · rw [if_neg c4] at H
          have c4b0 : decide (x5_1 < (l0.length : Int)) = false := decide_eq_false c4
          clear c4
          obtain rfl := Option.some.inj H
          go_wp2
          repeat (go_quiet (fail); try go_wp2)
          go_ret
          exact ⟨by first | rfl | (simp; done) | (simp [*]; done), by repeat (first | exact Drawn0.refl _ | apply Drawn0.step)⟩
  · rw [if_neg c3] at H
    have c3b0 : ((l0.length : Int) == (l1.length : Int)) = false := beq_eq_false_iff_ne.mpr c3
    have c3b1 : ((l0.length : Int) != (l1.length : Int)) = true := bne_iff_ne.mpr c3
    have c3b2 : (l0.length == l1.length) = false := by first | simpa using c3 | (simp at c3 ⊢; omega)
    obtain rfl := Option.some.inj H
    go_enter Try.func20, Try.ntmps20
    go_wp2
    repeat (go_quiet (fail); try go_wp2)
    go_ret
    exact ⟨by first | rfl | (simp; done) | (simp [*]; done), by repeat (first | exact Drawn0.refl _ | apply Drawn0.step)⟩

/-! ### arc_Same: function 21 -/
mutual
def arc_Same.l0 : Nat → List (List (S48)) → List (List (S48)) → Int → Int → Option (Bool)
  | 0, _, _, _, _ => none
  | k + 1, x0, x1, x14, x15 => if x15 < x14 then (if 0 ≤ x15 then (if x15 < (x0.length : Int) then (if x15 < (x1.length : Int) then (if ((rd_L2 x0 x15).length : Int) = ((rd_L2 x1 x15).length : Int) then (arc_Same.l1 k x0 x1 x15 x14 x15 (rd_L2 x0 x15) ((rd_L2 x0 x15).length : Int) 0) else (some false)) else (none)) else (none)) else (none)) else (some true)
def arc_Same.l1 : Nat → List (List (S48)) → List (List (S48)) → Int → Int → Int → List (S48) → Int → Int → Option (Bool)
  | 0, _, _, _, _, _, _, _, _ => none
  | k + 1, x0, x1, x5, x14, x15, x32, x33, x34 => if x34 < x33 then (if 0 ≤ x34 then (if x34 < (x32.length : Int) then (if 0 ≤ x5 then (if x5 < (x1.length : Int) then (if x34 < ((rd_L2 x1 x5).length : Int) then (if (!(((rd_T48 x32 x34).f0) == ((rd_T48 (rd_L2 x1 x5) x34).f0)) || (!(((rd_T48 x32 x34).f1) == ((rd_T48 (rd_L2 x1 x5) x34).f1)) || (!(((rd_T48 x32 x34).f2) == ((rd_T48 (rd_L2 x1 x5) x34).f2))))) = true then (some false) else (arc_Same.l1 k x0 x1 x5 x14 x15 x32 x33 (wrap64 (x34 + 1)))) else (none)) else (none)) else (none)) else (none)) else (none)) else (arc_Same.l0 k x0 x1 x14 (wrap64 (x15 + 1)))
end
def arc_Same.f (k : Nat) (l0 : List (List (S48))) (l1 : List (List (S48))) : Option (Bool) := if (l0.length : Int) = (l1.length : Int) then (arc_Same.l0 k l0 l1 (l0.length : Int) 0) else (some false)
theorem arc_Same.mono_l : ∀ k, (∀ y0 y1 y2 y3, LeO (arc_Same.l0 k y0 y1 y2 y3) (arc_Same.l0 (k + 1) y0 y1 y2 y3)) ∧ (∀ y0 y1 y2 y3 y4 y5 y6 y7, LeO (arc_Same.l1 k y0 y1 y2 y3 y4 y5 y6 y7) (arc_Same.l1 (k + 1) y0 y1 y2 y3 y4 y5 y6 y7))
  | 0 => ⟨fun _ _ _ _ r h => by simp [arc_Same.l0] at h, fun _ _ _ _ _ _ _ _ r h => by simp [arc_Same.l1] at h⟩
  | k + 1 => by
    obtain ⟨ih0, ih1⟩ := arc_Same.mono_l k
    refine ⟨?_, ?_⟩
    · intro y0 y1 y2 y3
      unfold arc_Same.l0
      repeat' first
      | (with_reducible exact ih0 _ _ _ _)
      | (with_reducible exact ih1 _ _ _ _ _ _ _ _)
      | (with_reducible exact LeO.refl _)
      | (with_reducible exact LeO.none _)
      | (with_reducible refine LeO.ite ?_ ?_)
      | (with_reducible refine LeO.bind ?_ (fun _ => ?_))
      | exact ih0 _ _ _ _
      | exact ih1 _ _ _ _ _ _ _ _
      | exact LeO.none _
      | refine LeO.ite ?_ ?_
      | refine LeO.bind ?_ (fun _ => ?_)
    · intro y0 y1 y2 y3 y4 y5 y6 y7
      unfold arc_Same.l1
      repeat' first
      | (with_reducible exact ih0 _ _ _ _)
      | (with_reducible exact ih1 _ _ _ _ _ _ _ _)
      | (with_reducible exact LeO.refl _)
      | (with_reducible exact LeO.none _)
      | (with_reducible refine LeO.ite ?_ ?_)
      | (with_reducible refine LeO.bind ?_ (fun _ => ?_))
      | exact ih0 _ _ _ _
      | exact ih1 _ _ _ _ _ _ _ _
      | exact LeO.none _
      | refine LeO.ite ?_ ?_
      | refine LeO.bind ?_ (fun _ => ?_)
theorem arc_Same.mono : ∀ a0 a1 k, LeO (arc_Same.f k a0 a1) (arc_Same.f (k + 1) a0 a1) := by
  intro a0 a1 k
  obtain ⟨ih0, ih1⟩ := arc_Same.mono_l k
  unfold arc_Same.f
  repeat' first
      | (with_reducible exact ih0 _ _ _ _)
      | (with_reducible exact ih1 _ _ _ _ _ _ _ _)
      | (with_reducible exact LeO.refl _)
      | (with_reducible exact LeO.none _)
      | (with_reducible refine LeO.ite ?_ ?_)
      | (with_reducible refine LeO.bind ?_ (fun _ => ?_))
      | exact ih0 _ _ _ _
      | exact ih1 _ _ _ _ _ _ _ _
      | exact LeO.none _
      | refine LeO.ite ?_ ?_
      | refine LeO.bind ?_ (fun _ => ?_)
set_option maxHeartbeats 8000000 in
set_option maxRecDepth 100000 in
theorem arc_Same.calls (k : Nat) (A0 : Option Addr) (c0 : Nat) (l0 : List (List (S48))) (A1 : Option Addr) (c1 : Nat) (l1 : List (List (S48))) (r : Bool) (w : World) (hr0 : Kd.C (Kd.slice 48 k48) w A0 l0.length l0) (hc0 : l0.length ≤ c0) (hr1 : Kd.C (Kd.slice 48 k48) w A1 l1.length l1) (hc1 : l1.length ≤ c1) (h : arc_Same.f k l0 l1 = some r) :
    Calls Try.prog 21 #[.slice A0 l0.length c0, .slice A1 l1.length c1] w fun e w' => e = .returned (.bool r) ∧ Below w.heap.size w w' := by
  have hu48 := Try.underlying48
  have HR0 := Aside0.mk hr0
  have HC0 := Aside0.mk hc0
  clear hr0 hc0
  have HR1 := Aside0.mk hr1
  have HC1 := Aside0.mk hc1
  clear hr1 hc1
  have HB := Aside0.mk (Below.refl w.heap.size w)
  have H : (if (l0.length : Int) = (l1.length : Int) then (arc_Same.l0 k l0 l1 (l0.length : Int) 0) else (some false)) = some r := h
  clear h
  by_cases c3 : (l0.length : Int) = (l1.length : Int)
  · rw [if_pos c3] at H
    have c3b0 : ((l0.length : Int) == (l1.length : Int)) = true := beq_iff_eq.mpr c3
    have c3b1 : ((l0.length : Int) != (l1.length : Int)) = false := bne_eq_false_iff_eq.mpr c3
    have c3b2 : (l0.length == l1.length) = true := by first | simpa using c3 | (simp at c3 ⊢; omega)
    clear c3
    have H' := Aside0.mk H
    clear H
    go_enter Try.func21, Try.ntmps21
    go_wp2
    repeat (go_quiet (fail); try go_wp2)
    go_loopg [15] k (fun kq v15 w' => ∃ (x15_1 : Int), v15 = .int .i64 x15_1 ∧ Aside0 (arc_Same.l0 kq l0 l1 (l0.length : Int) x15_1 = some r) ∧ Aside0 (kq ≤ k) ∧ Aside0 (Below w.heap.size w w'))
    case atStart => exact ⟨(0), (by first | rfl | (simp; done) | (simp [*]; done)), H', ⟨Nat.le_refl _⟩, ⟨by repeat (first | (with_reducible first | exact HB.out | apply below_alloc | apply pw_below_drewN | apply below_drew1) | exact HB.out)⟩⟩
    case round =>
      clear H'
      try clear c1
      try clear c2
      try clear p2
      try clear c3
      try clear c3b0
      try clear c3b1
      try clear c3b2
      obtain ⟨x15_1, rfl, HA, HK1, HB⟩ := hrel
      cases gk with
      | zero => exact absurd HA.out (by simp [arc_Same.l0])
      | succ k1 =>
        have H := HA.out
        clear HA
        simp only [arc_Same.l0] at H
        by_cases c4 : x15_1 < (l0.length : Int)
        · rw [if_pos c4] at H
          have c4b0 : decide (x15_1 < (l0.length : Int)) = true := decide_eq_true c4
          clear c4
          by_cases c5 : 0 ≤ x15_1
          · rw [if_pos c5] at H
            have c5b0 : decide (0 ≤ x15_1) = true := decide_eq_true c5
            clear c5
            by_cases c6 : x15_1 < (l0.length : Int)
            · rw [if_pos c6] at H
              have c6b0 : decide (x15_1 < (l0.length : Int)) = true := decide_eq_true c6
              clear c6
              by_cases c7 : x15_1 < (l1.length : Int)
              · rw [if_pos c7] at H
                have c7b0 : decide (x15_1 < (l1.length : Int)) = true := decide_eq_true c7
                clear c7
                by_cases c8 : ((rd_L2 l0 x15_1).length : Int) = ((rd_L2 l1 x15_1).length : Int)
                · rw [if_pos c8] at H
                  have c8b0 : (((rd_L2 l0 x15_1).length : Int) == ((rd_L2 l1 x15_1).length : Int)) = true := beq_iff_eq.mpr c8
                  have c8b1 : (((rd_L2 l0 x15_1).length : Int) != ((rd_L2 l1 x15_1).length : Int)) = false := bne_eq_false_iff_eq.mpr c8
                  have c8b2 : ((rd_L2 l0 x15_1).length == (rd_L2 l1 x15_1).length) = true := by first | simpa using c8 | (simp at c8 ⊢; omega)
                  clear c8
                  have H' := Aside0.mk H
                  clear H
                  have p372 : 0 ≤ (x15_1 : Int) := of_decide_eq_true (by first | (with_reducible assumption) | assumption)
                  have q372 : x15_1 < (l0.length : Int) := of_decide_eq_true (by first | (with_reducible assumption) | assumption)
                  obtain ⟨ad372, A372_0, c372_0, e372, hx372_0, hl372_0, hi372_0⟩ := at_L2 HR0.out x15_1 p372 q372
                  cases e372
                  replace hx372_0 := (HB.out.cell (World.block_lt_of_cell? w _ hx372_0)).trans hx372_0
                  have HR372_0 := Aside0.mk hi372_0
                  have HC372_0 := Aside0.mk hl372_0
                  clear hi372_0 hl372_0
                  replace p372 := eq_true p372
                  replace q372 := eq_true q372
                  have p373 : 0 ≤ (x15_1 : Int) := of_decide_eq_true (by first | (with_reducible assumption) | assumption)
                  have q373 : x15_1 < (l1.length : Int) := of_decide_eq_true (by first | (with_reducible assumption) | assumption)
                  obtain ⟨ad373, A373_0, c373_0, e373, hx373_0, hl373_0, hi373_0⟩ := at_L2 HR1.out x15_1 p373 q373
                  cases e373
                  replace hx373_0 := (HB.out.cell (World.block_lt_of_cell? w _ hx373_0)).trans hx373_0
                  have HR373_0 := Aside0.mk hi373_0
                  have HC373_0 := Aside0.mk hl373_0
                  clear hi373_0 hl373_0
                  replace p373 := eq_true p373
                  replace q373 := eq_true q373
                  have p374 : 0 ≤ (x15_1 : Int) := of_decide_eq_true (by first | (with_reducible assumption) | assumption)
                  have q374 : x15_1 < (l0.length : Int) := of_decide_eq_true (by first | (with_reducible assumption) | assumption)
                  obtain ⟨ad374, A374_0, c374_0, e374, hx374_0, hl374_0, hi374_0⟩ := at_L2 HR0.out x15_1 p374 q374
                  obtain rfl : ad372 = ad374 := (by injection e374)
                  replace hx374_0 := (HB.out.cell (World.block_lt_of_cell? w _ hx374_0)).trans hx374_0
                  have HR374_0 := Aside0.mk hi374_0
                  have HC374_0 := Aside0.mk hl374_0
                  clear hi374_0 hl374_0
                  replace p374 := eq_true p374
                  replace q374 := eq_true q374
                  have ea_ := Option.some.inj (hx372_0.symm.trans hx374_0)
                  injection ea_ with ea_ en_ ec_
                  subst ea_
                  subst ec_
                  clear en_
                  go_wp2
                  repeat (go_quiet (fail); try go_wp2)
                  go_loopg [34] k1 (fun kq v34 w' => ∃ (x34_2 : Int), v34 = .int .i64 x34_2 ∧ Aside0 (arc_Same.l1 kq l0 l1 x15_1 (l0.length : Int) x15_1 (rd_L2 l0 x15_1) ((rd_L2 l0 x15_1).length : Int) x34_2 = some r) ∧ Aside0 (kq ≤ k1) ∧ Aside0 (Below w.heap.size w w'))
                  case atStart => exact ⟨(0), (by first | rfl | (simp; done) | (simp [*]; done)), H', ⟨Nat.le_refl _⟩, ⟨by repeat (first | (with_reducible first | exact HB.out | apply below_alloc | apply pw_below_drewN | apply below_drew1) | exact HB.out)⟩⟩
                  case round =>
                    clear H'
                    try clear c1
                    try clear c2
                    try clear p2
                    try clear c3
                    try clear c3b0
                    try clear c3b1
                    try clear c3b2
                    try clear p3
                    try clear q3
                    try clear hx3
                    try clear c4
                    try clear c4b0
                    try clear c5
                    try clear c5b0
                    try clear c6
                    try clear c6b0
                    try clear c7
                    try clear c7b0
                    try clear c8
                    try clear c8b0
                    try clear c8b1
                    try clear c8b2
                    try clear hx372_0
                    try clear hx373_0
                    try clear hx374_0
                    try clear p2
                    try clear p372
                    try clear p373
                    try clear p374
                    try clear q372
                    try clear q373
                    try clear q374
                    obtain ⟨x34_2, rfl, HA, HK2, HB⟩ := hrel
                    cases gk with
                    | zero => exact absurd HA.out (by simp [arc_Same.l1])
                    | succ k2 =>
                      have H := HA.out
                      clear HA
                      simp only [arc_Same.l1] at H
                      by_cases c9 : x34_2 < ((rd_L2 l0 x15_1).length : Int)
                      · rw [if_pos c9] at H
                        have c9b0 : decide (x34_2 < ((rd_L2 l0 x15_1).length : Int)) = true := decide_eq_true c9
                        clear c9
                        by_cases c10 : 0 ≤ x34_2
                        · rw [if_pos c10] at H
                          have c10b0 : decide (0 ≤ x34_2) = true := decide_eq_true c10
                          clear c10
                          by_cases c11 : x34_2 < ((rd_L2 l0 x15_1).length : Int)
                          · rw [if_pos c11] at H
                            have c11b0 : decide (x34_2 < ((rd_L2 l0 x15_1).length : Int)) = true := decide_eq_true c11
                            clear c11
                            by_cases c12 : 0 ≤ x15_1
                            · rw [if_pos c12] at H
                              have c12b0 : decide (0 ≤ x15_1) = true := decide_eq_true c12
                              clear c12
                              by_cases c13 : x15_1 < (l1.length : Int)
                              · rw [if_pos c13] at H
                                have c13b0 : decide (x15_1 < (l1.length : Int)) = true := decide_eq_true c13
                                clear c13
                                by_cases c14 : x34_2 < ((rd_L2 l1 x15_1).length : Int)
                                · rw [if_pos c14] at H
                                  have c14b0 : decide (x34_2 < ((rd_L2 l1 x15_1).length : Int)) = true := decide_eq_true c14
                                  clear c14
                                  by_cases c15 : (!(((rd_T48 (rd_L2 l0 x15_1) x34_2).f0) == ((rd_T48 (rd_L2 l1 x15_1) x34_2).f0)) || (!(((rd_T48 (rd_L2 l0 x15_1) x34_2).f1) == ((rd_T48 (rd_L2 l1 x15_1) x34_2).f1)) || (!(((rd_T48 (rd_L2 l0 x15_1) x34_2).f2) == ((rd_T48 (rd_L2 l1 x15_1) x34_2).f2))))) = true
                                  · rw [if_pos c15] at H
                                    have c15b0 : (!(((rd_T48 (rd_L2 l0 x15_1) x34_2).f0) == ((rd_T48 (rd_L2 l1 x15_1) x34_2).f0)) || (!(((rd_T48 (rd_L2 l0 x15_1) x34_2).f1) == ((rd_T48 (rd_L2 l1 x15_1) x34_2).f1)) || (!(((rd_T48 (rd_L2 l0 x15_1) x34_2).f2) == ((rd_T48 (rd_L2 l1 x15_1) x34_2).f2))))) = true := c15
                                    clear c15
                                    obtain rfl := Option.some.inj H
                                    have p375 : 0 ≤ (x34_2 : Int) := of_decide_eq_true (by first | (with_reducible assumption) | assumption)
                                    have q375 : x34_2 < ((rd_L2 l0 x15_1).length : Int) := of_decide_eq_true (by first | (with_reducible assumption) | assumption)
                                    obtain ⟨ad375, e375, hx375_0, hx375_1, hx375_2⟩ := at_T48 HR374_0.out x34_2 p375 q375
                                    cases e375
                                    replace hx375_0 := (HB.out.cell (World.block_lt_of_cell? w _ hx375_0)).trans hx375_0
                                    replace hx375_1 := (HB.out.cell (World.block_lt_of_cell? w _ hx375_1)).trans hx375_1
                                    replace hx375_2 := (HB.out.cell (World.block_lt_of_cell? w _ hx375_2)).trans hx375_2
                                    replace p375 := eq_true p375
                                    replace q375 := eq_true q375
                                    go_wp2_with (first | ((with_reducible refine gate_dst (N := 7) rfl ?_); refine box_event ?hg (N := 7) ?hd (cs := #[.int .i64 0, .int .i64 0, .int .i64 0]) (t := 48) ?hr ?_; (case hd => rfl); (case hg => rfl); (case hr => first | (go_simp; done) | (go_simp; rfl)); intro gb376 hg w16 hbox hb; have n0_ := Aside0.mk (below_step (by repeat (first | (with_reducible first | exact HB.out | apply below_alloc | apply pw_below_drewN | apply below_drew1) | exact HB.out)) hb); have n1_ := Aside0.mk (hbox); have n2_ := Aside0.mk ((by rw [hg]; exact (below_size (by repeat (first | (with_reducible first | exact HB.out | apply below_alloc | apply pw_below_drewN | apply below_drew1) | exact HB.out))) : w.heap.size ≤ gb376)); have n3_ := Aside0.mk ((by rw [hg]; exact (below_size (by repeat (first | (with_reducible first | exact HB.out | apply below_alloc | apply pw_below_drewN | apply below_drew1) | exact HB.out))) : w.heap.size ≤ gb376)); clear HB; have HB := n0_; have BK376 := n1_; have GW376 := n2_; have GE376 := n3_; clear n0_ n1_ n2_ n3_; clear hb hbox hg; have hcz17_0 : w16.cell? ⟨gb376, 0, none⟩ = some (.int .i64 0) := (blk_cell BK376.out 0).trans rfl; have hcz17_1 : w16.cell? ⟨gb376, 1, none⟩ = some (.int .i64 0) := (blk_cell BK376.out 1).trans rfl; have hcz17_2 : w16.cell? ⟨gb376, 2, none⟩ = some (.int .i64 0) := (blk_cell BK376.out 2).trans rfl; have hfz17_0 := blk_frozen BK376.out 0; have hfz17_1 := blk_frozen BK376.out 1; have hfz17_2 := blk_frozen BK376.out 2; have p377 : 0 ≤ (x15_1 : Int) := of_decide_eq_true (by first | (with_reducible assumption) | assumption); have q377 : x15_1 < (l1.length : Int) := of_decide_eq_true (by first | (with_reducible assumption) | assumption); obtain ⟨ad377, A377_0, c377_0, e377, hx377_0, hl377_0, hi377_0⟩ := at_L2 HR1.out x15_1 p377 q377; obtain rfl : ad373 = ad377 := (by injection e377); have hn377_0 : ad373.block ≠ gb376 := Nat.ne_of_lt (Nat.lt_of_lt_of_le (by have := World.block_lt_of_cell? _ _ hx377_0; first | rwa [add_block] at this | exact this) GW376.out); have hn377_1 : ad373.block ≠ gb376 := Nat.ne_of_lt (Nat.lt_of_lt_of_le (by have := World.block_lt_of_cell? _ _ hx377_0; first | rwa [add_block] at this | exact this) GW376.out); have hn377_2 : ad373.block ≠ gb376 := Nat.ne_of_lt (Nat.lt_of_lt_of_le (by have := World.block_lt_of_cell? _ _ hx377_0; first | rwa [add_block] at this | exact this) GW376.out); replace hx377_0 := (HB.out.cell (World.block_lt_of_cell? w _ hx377_0)).trans hx377_0; have HR377_0 := Aside0.mk hi377_0; have HC377_0 := Aside0.mk hl377_0; clear hi377_0 hl377_0; replace hx377_0 := (cell_far (p := ⟨gb376, 0, none⟩) (by first | (rw [add_block]; exact hn377_0) | (show (Addr.add _ _).block ≠ _; rw [add_block]; exact hn377_0) | exact hn377_0) (.int .i64 ((rd_T48 (rd_L2 l0 x15_1) x34_2).f0))).trans hx377_0; replace hx377_0 := (cell_far (p := ⟨gb376, 1, none⟩) (by first | (rw [add_block]; exact hn377_1) | (show (Addr.add _ _).block ≠ _; rw [add_block]; exact hn377_1) | exact hn377_1) (.int .i64 ((rd_T48 (rd_L2 l0 x15_1) x34_2).f1))).trans hx377_0; replace hx377_0 := (cell_far (p := ⟨gb376, 2, none⟩) (by first | (rw [add_block]; exact hn377_2) | (show (Addr.add _ _).block ≠ _; rw [add_block]; exact hn377_2) | exact hn377_2) (.int .i64 ((rd_T48 (rd_L2 l0 x15_1) x34_2).f2))).trans hx377_0; (try have hy377_0 := fun (n_ : Nat) => (show (((((w16.drewN n_).setCell ⟨gb376, 0, none⟩ (.int .i64 ((rd_T48 (rd_L2 l0 x15_1) x34_2).f0))).setCell ⟨gb376, 1, none⟩ (.int .i64 ((rd_T48 (rd_L2 l0 x15_1) x34_2).f1))).setCell ⟨gb376, 2, none⟩ (.int .i64 ((rd_T48 (rd_L2 l0 x15_1) x34_2).f2)))).cell? _ = some _ from hx377_0)); clear hn377_0; clear hn377_1; clear hn377_2; replace p377 := eq_true p377; replace q377 := eq_true q377; have p378 : 0 ≤ (x34_2 : Int) := of_decide_eq_true (by first | (with_reducible assumption) | assumption); have q378 : x34_2 < ((rd_L2 l1 x15_1).length : Int) := of_decide_eq_true (by first | (with_reducible assumption) | assumption); obtain ⟨ad378, e378, hx378_0, hx378_1, hx378_2⟩ := at_T48 HR377_0.out x34_2 p378 q378; cases e378; have hn378_0 : ad378.block ≠ gb376 := Nat.ne_of_lt (Nat.lt_of_lt_of_le (by have := World.block_lt_of_cell? _ _ hx378_0; first | rwa [add_block] at this | exact this) GW376.out); have hn378_1 : ad378.block ≠ gb376 := Nat.ne_of_lt (Nat.lt_of_lt_of_le (by have := World.block_lt_of_cell? _ _ hx378_0; first | rwa [add_block] at this | exact this) GW376.out); have hn378_2 : ad378.block ≠ gb376 := Nat.ne_of_lt (Nat.lt_of_lt_of_le (by have := World.block_lt_of_cell? _ _ hx378_0; first | rwa [add_block] at this | exact this) GW376.out); replace hx378_0 := (HB.out.cell (World.block_lt_of_cell? w _ hx378_0)).trans hx378_0; replace hx378_1 := (HB.out.cell (World.block_lt_of_cell? w _ hx378_1)).trans hx378_1; replace hx378_2 := (HB.out.cell (World.block_lt_of_cell? w _ hx378_2)).trans hx378_2; replace hx378_0 := (cell_far (p := ⟨gb376, 0, none⟩) (by first | (rw [add_block]; exact hn378_0) | (show (Addr.add _ _).block ≠ _; rw [add_block]; exact hn378_0) | exact hn378_0) (.int .i64 ((rd_T48 (rd_L2 l0 x15_1) x34_2).f0))).trans hx378_0; replace hx378_1 := (cell_far (p := ⟨gb376, 0, none⟩) (by first | (rw [add_block]; exact hn378_0) | (show (Addr.add _ _).block ≠ _; rw [add_block]; exact hn378_0) | exact hn378_0) (.int .i64 ((rd_T48 (rd_L2 l0 x15_1) x34_2).f0))).trans hx378_1; replace hx378_2 := (cell_far (p := ⟨gb376, 0, none⟩) (by first | (rw [add_block]; exact hn378_0) | (show (Addr.add _ _).block ≠ _; rw [add_block]; exact hn378_0) | exact hn378_0) (.int .i64 ((rd_T48 (rd_L2 l0 x15_1) x34_2).f0))).trans hx378_2; replace hx378_0 := (cell_far (p := ⟨gb376, 1, none⟩) (by first | (rw [add_block]; exact hn378_1) | (show (Addr.add _ _).block ≠ _; rw [add_block]; exact hn378_1) | exact hn378_1) (.int .i64 ((rd_T48 (rd_L2 l0 x15_1) x34_2).f1))).trans hx378_0; replace hx378_1 := (cell_far (p := ⟨gb376, 1, none⟩) (by first | (rw [add_block]; exact hn378_1) | (show (Addr.add _ _).block ≠ _; rw [add_block]; exact hn378_1) | exact hn378_1) (.int .i64 ((rd_T48 (rd_L2 l0 x15_1) x34_2).f1))).trans hx378_1; replace hx378_2 := (cell_far (p := ⟨gb376, 1, none⟩) (by first | (rw [add_block]; exact hn378_1) | (show (Addr.add _ _).block ≠ _; rw [add_block]; exact hn378_1) | exact hn378_1) (.int .i64 ((rd_T48 (rd_L2 l0 x15_1) x34_2).f1))).trans hx378_2; replace hx378_0 := (cell_far (p := ⟨gb376, 2, none⟩) (by first | (rw [add_block]; exact hn378_2) | (show (Addr.add _ _).block ≠ _; rw [add_block]; exact hn378_2) | exact hn378_2) (.int .i64 ((rd_T48 (rd_L2 l0 x15_1) x34_2).f2))).trans hx378_0; replace hx378_1 := (cell_far (p := ⟨gb376, 2, none⟩) (by first | (rw [add_block]; exact hn378_2) | (show (Addr.add _ _).block ≠ _; rw [add_block]; exact hn378_2) | exact hn378_2) (.int .i64 ((rd_T48 (rd_L2 l0 x15_1) x34_2).f2))).trans hx378_1; replace hx378_2 := (cell_far (p := ⟨gb376, 2, none⟩) (by first | (rw [add_block]; exact hn378_2) | (show (Addr.add _ _).block ≠ _; rw [add_block]; exact hn378_2) | exact hn378_2) (.int .i64 ((rd_T48 (rd_L2 l0 x15_1) x34_2).f2))).trans hx378_2; (try have hy378_0 := fun (n_ : Nat) => (show (((((w16.drewN n_).setCell ⟨gb376, 0, none⟩ (.int .i64 ((rd_T48 (rd_L2 l0 x15_1) x34_2).f0))).setCell ⟨gb376, 1, none⟩ (.int .i64 ((rd_T48 (rd_L2 l0 x15_1) x34_2).f1))).setCell ⟨gb376, 2, none⟩ (.int .i64 ((rd_T48 (rd_L2 l0 x15_1) x34_2).f2)))).cell? _ = some _ from hx378_0)); (try have hy378_1 := fun (n_ : Nat) => (show (((((w16.drewN n_).setCell ⟨gb376, 0, none⟩ (.int .i64 ((rd_T48 (rd_L2 l0 x15_1) x34_2).f0))).setCell ⟨gb376, 1, none⟩ (.int .i64 ((rd_T48 (rd_L2 l0 x15_1) x34_2).f1))).setCell ⟨gb376, 2, none⟩ (.int .i64 ((rd_T48 (rd_L2 l0 x15_1) x34_2).f2)))).cell? _ = some _ from hx378_1)); (try have hy378_2 := fun (n_ : Nat) => (show (((((w16.drewN n_).setCell ⟨gb376, 0, none⟩ (.int .i64 ((rd_T48 (rd_L2 l0 x15_1) x34_2).f0))).setCell ⟨gb376, 1, none⟩ (.int .i64 ((rd_T48 (rd_L2 l0 x15_1) x34_2).f1))).setCell ⟨gb376, 2, none⟩ (.int .i64 ((rd_T48 (rd_L2 l0 x15_1) x34_2).f2)))).cell? _ = some _ from hx378_2)); clear hn378_0; clear hn378_1; clear hn378_2; replace p378 := eq_true p378; replace q378 := eq_true q378))
                                    repeat (go_quiet (first | ((with_reducible refine gate_dst (N := 7) rfl ?_); refine box_event ?hg (N := 7) ?hd (cs := #[.int .i64 0, .int .i64 0, .int .i64 0]) (t := 48) ?hr ?_; (case hd => rfl); (case hg => rfl); (case hr => first | (go_simp; done) | (go_simp; rfl)); intro gb376 hg w16 hbox hb; have n0_ := Aside0.mk (below_step (by repeat (first | (with_reducible first | exact HB.out | apply below_alloc | apply pw_below_drewN | apply below_drew1) | exact HB.out)) hb); have n1_ := Aside0.mk (hbox); have n2_ := Aside0.mk ((by rw [hg]; exact (below_size (by repeat (first | (with_reducible first | exact HB.out | apply below_alloc | apply pw_below_drewN | apply below_drew1) | exact HB.out))) : w.heap.size ≤ gb376)); have n3_ := Aside0.mk ((by rw [hg]; exact (below_size (by repeat (first | (with_reducible first | exact HB.out | apply below_alloc | apply pw_below_drewN | apply below_drew1) | exact HB.out))) : w.heap.size ≤ gb376)); clear HB; have HB := n0_; have BK376 := n1_; have GW376 := n2_; have GE376 := n3_; clear n0_ n1_ n2_ n3_; clear hb hbox hg; have hcz17_0 : w16.cell? ⟨gb376, 0, none⟩ = some (.int .i64 0) := (blk_cell BK376.out 0).trans rfl; have hcz17_1 : w16.cell? ⟨gb376, 1, none⟩ = some (.int .i64 0) := (blk_cell BK376.out 1).trans rfl; have hcz17_2 : w16.cell? ⟨gb376, 2, none⟩ = some (.int .i64 0) := (blk_cell BK376.out 2).trans rfl; have hfz17_0 := blk_frozen BK376.out 0; have hfz17_1 := blk_frozen BK376.out 1; have hfz17_2 := blk_frozen BK376.out 2; have p377 : 0 ≤ (x15_1 : Int) := of_decide_eq_true (by first | (with_reducible assumption) | assumption); have q377 : x15_1 < (l1.length : Int) := of_decide_eq_true (by first | (with_reducible assumption) | assumption); obtain ⟨ad377, A377_0, c377_0, e377, hx377_0, hl377_0, hi377_0⟩ := at_L2 HR1.out x15_1 p377 q377; obtain rfl : ad373 = ad377 := (by injection e377); have hn377_0 : ad373.block ≠ gb376 := Nat.ne_of_lt (Nat.lt_of_lt_of_le (by have := World.block_lt_of_cell? _ _ hx377_0; first | rwa [add_block] at this | exact this) GW376.out); have hn377_1 : ad373.block ≠ gb376 := Nat.ne_of_lt (Nat.lt_of_lt_of_le (by have := World.block_lt_of_cell? _ _ hx377_0; first | rwa [add_block] at this | exact this) GW376.out); have hn377_2 : ad373.block ≠ gb376 := Nat.ne_of_lt (Nat.lt_of_lt_of_le (by have := World.block_lt_of_cell? _ _ hx377_0; first | rwa [add_block] at this | exact this) GW376.out); replace hx377_0 := (HB.out.cell (World.block_lt_of_cell? w _ hx377_0)).trans hx377_0; have HR377_0 := Aside0.mk hi377_0; have HC377_0 := Aside0.mk hl377_0; clear hi377_0 hl377_0; replace hx377_0 := (cell_far (p := ⟨gb376, 0, none⟩) (by first | (rw [add_block]; exact hn377_0) | (show (Addr.add _ _).block ≠ _; rw [add_block]; exact hn377_0) | exact hn377_0) (.int .i64 ((rd_T48 (rd_L2 l0 x15_1) x34_2).f0))).trans hx377_0; replace hx377_0 := (cell_far (p := ⟨gb376, 1, none⟩) (by first | (rw [add_block]; exact hn377_1) | (show (Addr.add _ _).block ≠ _; rw [add_block]; exact hn377_1) | exact hn377_1) (.int .i64 ((rd_T48 (rd_L2 l0 x15_1) x34_2).f1))).trans hx377_0; replace hx377_0 := (cell_far (p := ⟨gb376, 2, none⟩) (by first | (rw [add_block]; exact hn377_2) | (show (Addr.add _ _).block ≠ _; rw [add_block]; exact hn377_2) | exact hn377_2) (.int .i64 ((rd_T48 (rd_L2 l0 x15_1) x34_2).f2))).trans hx377_0; (try have hy377_0 := fun (n_ : Nat) => (show (((((w16.drewN n_).setCell ⟨gb376, 0, none⟩ (.int .i64 ((rd_T48 (rd_L2 l0 x15_1) x34_2).f0))).setCell ⟨gb376, 1, none⟩ (.int .i64 ((rd_T48 (rd_L2 l0 x15_1) x34_2).f1))).setCell ⟨gb376, 2, none⟩ (.int .i64 ((rd_T48 (rd_L2 l0 x15_1) x34_2).f2)))).cell? _ = some _ from hx377_0)); clear hn377_0; clear hn377_1; clear hn377_2; replace p377 := eq_true p377; replace q377 := eq_true q377; have p378 : 0 ≤ (x34_2 : Int) := of_decide_eq_true (by first | (with_reducible assumption) | assumption); have q378 : x34_2 < ((rd_L2 l1 x15_1).length : Int) := of_decide_eq_true (by first | (with_reducible assumption) | assumption); obtain ⟨ad378, e378, hx378_0, hx378_1, hx378_2⟩ := at_T48 HR377_0.out x34_2 p378 q378; cases e378; have hn378_0 : ad378.block ≠ gb376 := Nat.ne_of_lt (Nat.lt_of_lt_of_le (by have := World.block_lt_of_cell? _ _ hx378_0; first | rwa [add_block] at this | exact this) GW376.out); have hn378_1 : ad378.block ≠ gb376 := Nat.ne_of_lt (Nat.lt_of_lt_of_le (by have := World.block_lt_of_cell? _ _ hx378_0; first | rwa [add_block] at this | exact this) GW376.out); have hn378_2 : ad378.block ≠ gb376 := Nat.ne_of_lt (Nat.lt_of_lt_of_le (by have := World.block_lt_of_cell? _ _ hx378_0; first | rwa [add_block] at this | exact this) GW376.out); replace hx378_0 := (HB.out.cell (World.block_lt_of_cell? w _ hx378_0)).trans hx378_0; replace hx378_1 := (HB.out.cell (World.block_lt_of_cell? w _ hx378_1)).trans hx378_1; replace hx378_2 := (HB.out.cell (World.block_lt_of_cell? w _ hx378_2)).trans hx378_2; replace hx378_0 := (cell_far (p := ⟨gb376, 0, none⟩) (by first | (rw [add_block]; exact hn378_0) | (show (Addr.add _ _).block ≠ _; rw [add_block]; exact hn378_0) | exact hn378_0) (.int .i64 ((rd_T48 (rd_L2 l0 x15_1) x34_2).f0))).trans hx378_0; replace hx378_1 := (cell_far (p := ⟨gb376, 0, none⟩) (by first | (rw [add_block]; exact hn378_0) | (show (Addr.add _ _).block ≠ _; rw [add_block]; exact hn378_0) | exact hn378_0) (.int .i64 ((rd_T48 (rd_L2 l0 x15_1) x34_2).f0))).trans hx378_1; replace hx378_2 := (cell_far (p := ⟨gb376, 0, none⟩) (by first | (rw [add_block]; exact hn378_0) | (show (Addr.add _ _).block ≠ _; rw [add_block]; exact hn378_0) | exact hn378_0) (.int .i64 ((rd_T48 (rd_L2 l0 x15_1) x34_2).f0))).trans hx378_2; replace hx378_0 := (cell_far (p := ⟨gb376, 1, none⟩) (by first | (rw [add_block]; exact hn378_1) | (show (Addr.add _ _).block ≠ _; rw [add_block]; exact hn378_1) | exact hn378_1) (.int .i64 ((rd_T48 (rd_L2 l0 x15_1) x34_2).f1))).trans hx378_0; replace hx378_1 := (cell_far (p := ⟨gb376, 1, none⟩) (by first | (rw [add_block]; exact hn378_1) | (show (Addr.add _ _).block ≠ _; rw [add_block]; exact hn378_1) | exact hn378_1) (.int .i64 ((rd_T48 (rd_L2 l0 x15_1) x34_2).f1))).trans hx378_1; replace hx378_2 := (cell_far (p := ⟨gb376, 1, none⟩) (by first | (rw [add_block]; exact hn378_1) | (show (Addr.add _ _).block ≠ _; rw [add_block]; exact hn378_1) | exact hn378_1) (.int .i64 ((rd_T48 (rd_L2 l0 x15_1) x34_2).f1))).trans hx378_2; replace hx378_0 := (cell_far (p := ⟨gb376, 2, none⟩) (by first | (rw [add_block]; exact hn378_2) | (show (Addr.add _ _).block ≠ _; rw [add_block]; exact hn378_2) | exact hn378_2) (.int .i64 ((rd_T48 (rd_L2 l0 x15_1) x34_2).f2))).trans hx378_0; replace hx378_1 := (cell_far (p := ⟨gb376, 2, none⟩) (by first | (rw [add_block]; exact hn378_2) | (show (Addr.add _ _).block ≠ _; rw [add_block]; exact hn378_2) | exact hn378_2) (.int .i64 ((rd_T48 (rd_L2 l0 x15_1) x34_2).f2))).trans hx378_1; replace hx378_2 := (cell_far (p := ⟨gb376, 2, none⟩) (by first | (rw [add_block]; exact hn378_2) | (show (Addr.add _ _).block ≠ _; rw [add_block]; exact hn378_2) | exact hn378_2) (.int .i64 ((rd_T48 (rd_L2 l0 x15_1) x34_2).f2))).trans hx378_2; (try have hy378_0 := fun (n_ : Nat) => (show (((((w16.drewN n_).setCell ⟨gb376, 0, none⟩ (.int .i64 ((rd_T48 (rd_L2 l0 x15_1) x34_2).f0))).setCell ⟨gb376, 1, none⟩ (.int .i64 ((rd_T48 (rd_L2 l0 x15_1) x34_2).f1))).setCell ⟨gb376, 2, none⟩ (.int .i64 ((rd_T48 (rd_L2 l0 x15_1) x34_2).f2)))).cell? _ = some _ from hx378_0)); (try have hy378_1 := fun (n_ : Nat) => (show (((((w16.drewN n_).setCell ⟨gb376, 0, none⟩ (.int .i64 ((rd_T48 (rd_L2 l0 x15_1) x34_2).f0))).setCell ⟨gb376, 1, none⟩ (.int .i64 ((rd_T48 (rd_L2 l0 x15_1) x34_2).f1))).setCell ⟨gb376, 2, none⟩ (.int .i64 ((rd_T48 (rd_L2 l0 x15_1) x34_2).f2)))).cell? _ = some _ from hx378_1)); (try have hy378_2 := fun (n_ : Nat) => (show (((((w16.drewN n_).setCell ⟨gb376, 0, none⟩ (.int .i64 ((rd_T48 (rd_L2 l0 x15_1) x34_2).f0))).setCell ⟨gb376, 1, none⟩ (.int .i64 ((rd_T48 (rd_L2 l0 x15_1) x34_2).f1))).setCell ⟨gb376, 2, none⟩ (.int .i64 ((rd_T48 (rd_L2 l0 x15_1) x34_2).f2)))).cell? _ = some _ from hx378_2)); clear hn378_0; clear hn378_1; clear hn378_2; replace p378 := eq_true p378; replace q378 := eq_true q378)); try go_wp2_with (first | ((with_reducible refine gate_dst (N := 7) rfl ?_); refine box_event ?hg (N := 7) ?hd (cs := #[.int .i64 0, .int .i64 0, .int .i64 0]) (t := 48) ?hr ?_; (case hd => rfl); (case hg => rfl); (case hr => first | (go_simp; done) | (go_simp; rfl)); intro gb376 hg w16 hbox hb; have n0_ := Aside0.mk (below_step (by repeat (first | (with_reducible first | exact HB.out | apply below_alloc | apply pw_below_drewN | apply below_drew1) | exact HB.out)) hb); have n1_ := Aside0.mk (hbox); have n2_ := Aside0.mk ((by rw [hg]; exact (below_size (by repeat (first | (with_reducible first | exact HB.out | apply below_alloc | apply pw_below_drewN | apply below_drew1) | exact HB.out))) : w.heap.size ≤ gb376)); have n3_ := Aside0.mk ((by rw [hg]; exact (below_size (by repeat (first | (with_reducible first | exact HB.out | apply below_alloc | apply pw_below_drewN | apply below_drew1) | exact HB.out))) : w.heap.size ≤ gb376)); clear HB; have HB := n0_; have BK376 := n1_; have GW376 := n2_; have GE376 := n3_; clear n0_ n1_ n2_ n3_; clear hb hbox hg; have hcz17_0 : w16.cell? ⟨gb376, 0, none⟩ = some (.int .i64 0) := (blk_cell BK376.out 0).trans rfl; have hcz17_1 : w16.cell? ⟨gb376, 1, none⟩ = some (.int .i64 0) := (blk_cell BK376.out 1).trans rfl; have hcz17_2 : w16.cell? ⟨gb376, 2, none⟩ = some (.int .i64 0) := (blk_cell BK376.out 2).trans rfl; have hfz17_0 := blk_frozen BK376.out 0; have hfz17_1 := blk_frozen BK376.out 1; have hfz17_2 := blk_frozen BK376.out 2; have p377 : 0 ≤ (x15_1 : Int) := of_decide_eq_true (by first | (with_reducible assumption) | assumption); have q377 : x15_1 < (l1.length : Int) := of_decide_eq_true (by first | (with_reducible assumption) | assumption); obtain ⟨ad377, A377_0, c377_0, e377, hx377_0, hl377_0, hi377_0⟩ := at_L2 HR1.out x15_1 p377 q377; obtain rfl : ad373 = ad377 := (by injection e377); have hn377_0 : ad373.block ≠ gb376 := Nat.ne_of_lt (Nat.lt_of_lt_of_le (by have := World.block_lt_of_cell? _ _ hx377_0; first | rwa [add_block] at this | exact this) GW376.out); have hn377_1 : ad373.block ≠ gb376 := Nat.ne_of_lt (Nat.lt_of_lt_of_le (by have := World.block_lt_of_cell? _ _ hx377_0; first | rwa [add_block] at this | exact this) GW376.out); have hn377_2 : ad373.block ≠ gb376 := Nat.ne_of_lt (Nat.lt_of_lt_of_le (by have := World.block_lt_of_cell? _ _ hx377_0; first | rwa [add_block] at this | exact this) GW376.out); replace hx377_0 := (HB.out.cell (World.block_lt_of_cell? w _ hx377_0)).trans hx377_0; have HR377_0 := Aside0.mk hi377_0; have HC377_0 := Aside0.mk hl377_0; clear hi377_0 hl377_0; replace hx377_0 := (cell_far (p := ⟨gb376, 0, none⟩) (by first | (rw [add_block]; exact hn377_0) | (show (Addr.add _ _).block ≠ _; rw [add_block]; exact hn377_0) | exact hn377_0) (.int .i64 ((rd_T48 (rd_L2 l0 x15_1) x34_2).f0))).trans hx377_0; replace hx377_0 := (cell_far (p := ⟨gb376, 1, none⟩) (by first | (rw [add_block]; exact hn377_1) | (show (Addr.add _ _).block ≠ _; rw [add_block]; exact hn377_1) | exact hn377_1) (.int .i64 ((rd_T48 (rd_L2 l0 x15_1) x34_2).f1))).trans hx377_0; replace hx377_0 := (cell_far (p := ⟨gb376, 2, none⟩) (by first | (rw [add_block]; exact hn377_2) | (show (Addr.add _ _).block ≠ _; rw [add_block]; exact hn377_2) | exact hn377_2) (.int .i64 ((rd_T48 (rd_L2 l0 x15_1) x34_2).f2))).trans hx377_0; (try have hy377_0 := fun (n_ : Nat) => (show (((((w16.drewN n_).setCell ⟨gb376, 0, none⟩ (.int .i64 ((rd_T48 (rd_L2 l0 x15_1) x34_2).f0))).setCell ⟨gb376, 1, none⟩ (.int .i64 ((rd_T48 (rd_L2 l0 x15_1) x34_2).f1))).setCell ⟨gb376, 2, none⟩ (.int .i64 ((rd_T48 (rd_L2 l0 x15_1) x34_2).f2)))).cell? _ = some _ from hx377_0)); clear hn377_0; clear hn377_1; clear hn377_2; replace p377 := eq_true p377; replace q377 := eq_true q377; have p378 : 0 ≤ (x34_2 : Int) := of_decide_eq_true (by first | (with_reducible assumption) | assumption); have q378 : x34_2 < ((rd_L2 l1 x15_1).length : Int) := of_decide_eq_true (by first | (with_reducible assumption) | assumption); obtain ⟨ad378, e378, hx378_0, hx378_1, hx378_2⟩ := at_T48 HR377_0.out x34_2 p378 q378; cases e378; have hn378_0 : ad378.block ≠ gb376 := Nat.ne_of_lt (Nat.lt_of_lt_of_le (by have := World.block_lt_of_cell? _ _ hx378_0; first | rwa [add_block] at this | exact this) GW376.out); have hn378_1 : ad378.block ≠ gb376 := Nat.ne_of_lt (Nat.lt_of_lt_of_le (by have := World.block_lt_of_cell? _ _ hx378_0; first | rwa [add_block] at this | exact this) GW376.out); have hn378_2 : ad378.block ≠ gb376 := Nat.ne_of_lt (Nat.lt_of_lt_of_le (by have := World.block_lt_of_cell? _ _ hx378_0; first | rwa [add_block] at this | exact this) GW376.out); replace hx378_0 := (HB.out.cell (World.block_lt_of_cell? w _ hx378_0)).trans hx378_0; replace hx378_1 := (HB.out.cell (World.block_lt_of_cell? w _ hx378_1)).trans hx378_1; replace hx378_2 := (HB.out.cell (World.block_lt_of_cell? w _ hx378_2)).trans hx378_2; replace hx378_0 := (cell_far (p := ⟨gb376, 0, none⟩) (by first | (rw [add_block]; exact hn378_0) | (show (Addr.add _ _).block ≠ _; rw [add_block]; exact hn378_0) | exact hn378_0) (.int .i64 ((rd_T48 (rd_L2 l0 x15_1) x34_2).f0))).trans hx378_0; replace hx378_1 := (cell_far (p := ⟨gb376, 0, none⟩) (by first | (rw [add_block]; exact hn378_0) | (show (Addr.add _ _).block ≠ _; rw [add_block]; exact hn378_0) | exact hn378_0) (.int .i64 ((rd_T48 (rd_L2 l0 x15_1) x34_2).f0))).trans hx378_1; replace hx378_2 := (cell_far (p := ⟨gb376, 0, none⟩) (by first | (rw [add_block]; exact hn378_0) | (show (Addr.add _ _).block ≠ _; rw [add_block]; exact hn378_0) | exact hn378_0) (.int .i64 ((rd_T48 (rd_L2 l0 x15_1) x34_2).f0))).trans hx378_2; replace hx378_0 := (cell_far (p := ⟨gb376, 1, none⟩) (by first | (rw [add_block]; exact hn378_1) | (show (Addr.add _ _).block ≠ _; rw [add_block]; exact hn378_1) | exact hn378_1) (.int .i64 ((rd_T48 (rd_L2 l0 x15_1) x34_2).f1))).trans hx378_0; replace hx378_1 := (cell_far (p := ⟨gb376, 1, none⟩) (by first | (rw [add_block]; exact hn378_1) | (show (Addr.add _ _).block ≠ _; rw [add_block]; exact hn378_1) | exact hn378_1) (.int .i64 ((rd_T48 (rd_L2 l0 x15_1) x34_2).f1))).trans hx378_1; replace hx378_2 := (cell_far (p := ⟨gb376, 1, none⟩) (by first | (rw [add_block]; exact hn378_1) | (show (Addr.add _ _).block ≠ _; rw [add_block]; exact hn378_1) | exact hn378_1) (.int .i64 ((rd_T48 (rd_L2 l0 x15_1) x34_2).f1))).trans hx378_2; replace hx378_0 := (cell_far (p := ⟨gb376, 2, none⟩) (by first | (rw [add_block]; exact hn378_2) | (show (Addr.add _ _).block ≠ _; rw [add_block]; exact hn378_2) | exact hn378_2) (.int .i64 ((rd_T48 (rd_L2 l0 x15_1) x34_2).f2))).trans hx378_0; replace hx378_1 := (cell_far (p := ⟨gb376, 2, none⟩) (by first | (rw [add_block]; exact hn378_2) | (show (Addr.add _ _).block ≠ _; rw [add_block]; exact hn378_2) | exact hn378_2) (.int .i64 ((rd_T48 (rd_L2 l0 x15_1) x34_2).f2))).trans hx378_1; replace hx378_2 := (cell_far (p := ⟨gb376, 2, none⟩) (by first | (rw [add_block]; exact hn378_2) | (show (Addr.add _ _).block ≠ _; rw [add_block]; exact hn378_2) | exact hn378_2) (.int .i64 ((rd_T48 (rd_L2 l0 x15_1) x34_2).f2))).trans hx378_2; (try have hy378_0 := fun (n_ : Nat) => (show (((((w16.drewN n_).setCell ⟨gb376, 0, none⟩ (.int .i64 ((rd_T48 (rd_L2 l0 x15_1) x34_2).f0))).setCell ⟨gb376, 1, none⟩ (.int .i64 ((rd_T48 (rd_L2 l0 x15_1) x34_2).f1))).setCell ⟨gb376, 2, none⟩ (.int .i64 ((rd_T48 (rd_L2 l0 x15_1) x34_2).f2)))).cell? _ = some _ from hx378_0)); (try have hy378_1 := fun (n_ : Nat) => (show (((((w16.drewN n_).setCell ⟨gb376, 0, none⟩ (.int .i64 ((rd_T48 (rd_L2 l0 x15_1) x34_2).f0))).setCell ⟨gb376, 1, none⟩ (.int .i64 ((rd_T48 (rd_L2 l0 x15_1) x34_2).f1))).setCell ⟨gb376, 2, none⟩ (.int .i64 ((rd_T48 (rd_L2 l0 x15_1) x34_2).f2)))).cell? _ = some _ from hx378_1)); (try have hy378_2 := fun (n_ : Nat) => (show (((((w16.drewN n_).setCell ⟨gb376, 0, none⟩ (.int .i64 ((rd_T48 (rd_L2 l0 x15_1) x34_2).f0))).setCell ⟨gb376, 1, none⟩ (.int .i64 ((rd_T48 (rd_L2 l0 x15_1) x34_2).f1))).setCell ⟨gb376, 2, none⟩ (.int .i64 ((rd_T48 (rd_L2 l0 x15_1) x34_2).f2)))).cell? _ = some _ from hx378_2)); clear hn378_0; clear hn378_1; clear hn378_2; replace p378 := eq_true p378; replace q378 := eq_true q378)))
                                    go_ret
                                    exact ⟨by first | rfl | (simp [errW_none, errW_some] <;> rfl) | (simp [*, errW_none, errW_some] <;> rfl), by repeat (first | (with_reducible first | exact HB.out | apply below_alloc | apply pw_below_drewN | apply below_drew1 | refine below_set ?_ GE376.out) | exact HB.out)⟩
                                  · rw [if_neg c15] at H
                                    have c15b0 : (!(((rd_T48 (rd_L2 l0 x15_1) x34_2).f0) == ((rd_T48 (rd_L2 l1 x15_1) x34_2).f0)) || (!(((rd_T48 (rd_L2 l0 x15_1) x34_2).f1) == ((rd_T48 (rd_L2 l1 x15_1) x34_2).f1)) || (!(((rd_T48 (rd_L2 l0 x15_1) x34_2).f2) == ((rd_T48 (rd_L2 l1 x15_1) x34_2).f2))))) = false := by simpa using c15
                                    clear c15
                                    have H' := Aside0.mk H
                                    clear H
                                    have p375 : 0 ≤ (x34_2 : Int) := of_decide_eq_true (by first | (with_reducible assumption) | assumption)
                                    have q375 : x34_2 < ((rd_L2 l0 x15_1).length : Int) := of_decide_eq_true (by first | (with_reducible assumption) | assumption)
                                    obtain ⟨ad375, e375, hx375_0, hx375_1, hx375_2⟩ := at_T48 HR374_0.out x34_2 p375 q375
                                    cases e375
                                    replace hx375_0 := (HB.out.cell (World.block_lt_of_cell? w _ hx375_0)).trans hx375_0
                                    replace hx375_1 := (HB.out.cell (World.block_lt_of_cell? w _ hx375_1)).trans hx375_1
                                    replace hx375_2 := (HB.out.cell (World.block_lt_of_cell? w _ hx375_2)).trans hx375_2
                                    replace p375 := eq_true p375
                                    replace q375 := eq_true q375
                                    go_wp2_with (first | ((with_reducible refine gate_dst (N := 7) rfl ?_); refine box_event ?hg (N := 7) ?hd (cs := #[.int .i64 0, .int .i64 0, .int .i64 0]) (t := 48) ?hr ?_; (case hd => rfl); (case hg => rfl); (case hr => first | (go_simp; done) | (go_simp; rfl)); intro gb376 hg w18 hbox hb; have n0_ := Aside0.mk (below_step (by repeat (first | (with_reducible first | exact HB.out | apply below_alloc | apply pw_below_drewN | apply below_drew1) | exact HB.out)) hb); have n1_ := Aside0.mk (hbox); have n2_ := Aside0.mk ((by rw [hg]; exact (below_size (by repeat (first | (with_reducible first | exact HB.out | apply below_alloc | apply pw_below_drewN | apply below_drew1) | exact HB.out))) : w.heap.size ≤ gb376)); have n3_ := Aside0.mk ((by rw [hg]; exact (below_size (by repeat (first | (with_reducible first | exact HB.out | apply below_alloc | apply pw_below_drewN | apply below_drew1) | exact HB.out))) : w.heap.size ≤ gb376)); clear HB; have HB := n0_; have BK376 := n1_; have GW376 := n2_; have GE376 := n3_; clear n0_ n1_ n2_ n3_; clear hb hbox hg; have hcz19_0 : w18.cell? ⟨gb376, 0, none⟩ = some (.int .i64 0) := (blk_cell BK376.out 0).trans rfl; have hcz19_1 : w18.cell? ⟨gb376, 1, none⟩ = some (.int .i64 0) := (blk_cell BK376.out 1).trans rfl; have hcz19_2 : w18.cell? ⟨gb376, 2, none⟩ = some (.int .i64 0) := (blk_cell BK376.out 2).trans rfl; have hfz19_0 := blk_frozen BK376.out 0; have hfz19_1 := blk_frozen BK376.out 1; have hfz19_2 := blk_frozen BK376.out 2; have p377 : 0 ≤ (x15_1 : Int) := of_decide_eq_true (by first | (with_reducible assumption) | assumption); have q377 : x15_1 < (l1.length : Int) := of_decide_eq_true (by first | (with_reducible assumption) | assumption); obtain ⟨ad377, A377_0, c377_0, e377, hx377_0, hl377_0, hi377_0⟩ := at_L2 HR1.out x15_1 p377 q377; obtain rfl : ad373 = ad377 := (by injection e377); have hn377_0 : ad373.block ≠ gb376 := Nat.ne_of_lt (Nat.lt_of_lt_of_le (by have := World.block_lt_of_cell? _ _ hx377_0; first | rwa [add_block] at this | exact this) GW376.out); have hn377_1 : ad373.block ≠ gb376 := Nat.ne_of_lt (Nat.lt_of_lt_of_le (by have := World.block_lt_of_cell? _ _ hx377_0; first | rwa [add_block] at this | exact this) GW376.out); have hn377_2 : ad373.block ≠ gb376 := Nat.ne_of_lt (Nat.lt_of_lt_of_le (by have := World.block_lt_of_cell? _ _ hx377_0; first | rwa [add_block] at this | exact this) GW376.out); replace hx377_0 := (HB.out.cell (World.block_lt_of_cell? w _ hx377_0)).trans hx377_0; have HR377_0 := Aside0.mk hi377_0; have HC377_0 := Aside0.mk hl377_0; clear hi377_0 hl377_0; replace hx377_0 := (cell_far (p := ⟨gb376, 0, none⟩) (by first | (rw [add_block]; exact hn377_0) | (show (Addr.add _ _).block ≠ _; rw [add_block]; exact hn377_0) | exact hn377_0) (.int .i64 ((rd_T48 (rd_L2 l0 x15_1) x34_2).f0))).trans hx377_0; replace hx377_0 := (cell_far (p := ⟨gb376, 1, none⟩) (by first | (rw [add_block]; exact hn377_1) | (show (Addr.add _ _).block ≠ _; rw [add_block]; exact hn377_1) | exact hn377_1) (.int .i64 ((rd_T48 (rd_L2 l0 x15_1) x34_2).f1))).trans hx377_0; replace hx377_0 := (cell_far (p := ⟨gb376, 2, none⟩) (by first | (rw [add_block]; exact hn377_2) | (show (Addr.add _ _).block ≠ _; rw [add_block]; exact hn377_2) | exact hn377_2) (.int .i64 ((rd_T48 (rd_L2 l0 x15_1) x34_2).f2))).trans hx377_0; (try have hy377_0 := fun (n_ : Nat) => (show (((((w18.drewN n_).setCell ⟨gb376, 0, none⟩ (.int .i64 ((rd_T48 (rd_L2 l0 x15_1) x34_2).f0))).setCell ⟨gb376, 1, none⟩ (.int .i64 ((rd_T48 (rd_L2 l0 x15_1) x34_2).f1))).setCell ⟨gb376, 2, none⟩ (.int .i64 ((rd_T48 (rd_L2 l0 x15_1) x34_2).f2)))).cell? _ = some _ from hx377_0)); clear hn377_0; clear hn377_1; clear hn377_2; replace p377 := eq_true p377; replace q377 := eq_true q377; have p378 : 0 ≤ (x34_2 : Int) := of_decide_eq_true (by first | (with_reducible assumption) | assumption); have q378 : x34_2 < ((rd_L2 l1 x15_1).length : Int) := of_decide_eq_true (by first | (with_reducible assumption) | assumption); obtain ⟨ad378, e378, hx378_0, hx378_1, hx378_2⟩ := at_T48 HR377_0.out x34_2 p378 q378; cases e378; have hn378_0 : ad378.block ≠ gb376 := Nat.ne_of_lt (Nat.lt_of_lt_of_le (by have := World.block_lt_of_cell? _ _ hx378_0; first | rwa [add_block] at this | exact this) GW376.out); have hn378_1 : ad378.block ≠ gb376 := Nat.ne_of_lt (Nat.lt_of_lt_of_le (by have := World.block_lt_of_cell? _ _ hx378_0; first | rwa [add_block] at this | exact this) GW376.out); have hn378_2 : ad378.block ≠ gb376 := Nat.ne_of_lt (Nat.lt_of_lt_of_le (by have := World.block_lt_of_cell? _ _ hx378_0; first | rwa [add_block] at this | exact this) GW376.out); replace hx378_0 := (HB.out.cell (World.block_lt_of_cell? w _ hx378_0)).trans hx378_0; replace hx378_1 := (HB.out.cell (World.block_lt_of_cell? w _ hx378_1)).trans hx378_1; replace hx378_2 := (HB.out.cell (World.block_lt_of_cell? w _ hx378_2)).trans hx378_2; replace hx378_0 := (cell_far (p := ⟨gb376, 0, none⟩) (by first | (rw [add_block]; exact hn378_0) | (show (Addr.add _ _).block ≠ _; rw [add_block]; exact hn378_0) | exact hn378_0) (.int .i64 ((rd_T48 (rd_L2 l0 x15_1) x34_2).f0))).trans hx378_0; replace hx378_1 := (cell_far (p := ⟨gb376, 0, none⟩) (by first | (rw [add_block]; exact hn378_0) | (show (Addr.add _ _).block ≠ _; rw [add_block]; exact hn378_0) | exact hn378_0) (.int .i64 ((rd_T48 (rd_L2 l0 x15_1) x34_2).f0))).trans hx378_1; replace hx378_2 := (cell_far (p := ⟨gb376, 0, none⟩) (by first | (rw [add_block]; exact hn378_0) | (show (Addr.add _ _).block ≠ _; rw [add_block]; exact hn378_0) | exact hn378_0) (.int .i64 ((rd_T48 (rd_L2 l0 x15_1) x34_2).f0))).trans hx378_2; replace hx378_0 := (cell_far (p := ⟨gb376, 1, none⟩) (by first | (rw [add_block]; exact hn378_1) | (show (Addr.add _ _).block ≠ _; rw [add_block]; exact hn378_1) | exact hn378_1) (.int .i64 ((rd_T48 (rd_L2 l0 x15_1) x34_2).f1))).trans hx378_0; replace hx378_1 := (cell_far (p := ⟨gb376, 1, none⟩) (by first | (rw [add_block]; exact hn378_1) | (show (Addr.add _ _).block ≠ _; rw [add_block]; exact hn378_1) | exact hn378_1) (.int .i64 ((rd_T48 (rd_L2 l0 x15_1) x34_2).f1))).trans hx378_1; replace hx378_2 := (cell_far (p := ⟨gb376, 1, none⟩) (by first | (rw [add_block]; exact hn378_1) | (show (Addr.add _ _).block ≠ _; rw [add_block]; exact hn378_1) | exact hn378_1) (.int .i64 ((rd_T48 (rd_L2 l0 x15_1) x34_2).f1))).trans hx378_2; replace hx378_0 := (cell_far (p := ⟨gb376, 2, none⟩) (by first | (rw [add_block]; exact hn378_2) | (show (Addr.add _ _).block ≠ _; rw [add_block]; exact hn378_2) | exact hn378_2) (.int .i64 ((rd_T48 (rd_L2 l0 x15_1) x34_2).f2))).trans hx378_0; replace hx378_1 := (cell_far (p := ⟨gb376, 2, none⟩) (by first | (rw [add_block]; exact hn378_2) | (show (Addr.add _ _).block ≠ _; rw [add_block]; exact hn378_2) | exact hn378_2) (.int .i64 ((rd_T48 (rd_L2 l0 x15_1) x34_2).f2))).trans hx378_1; replace hx378_2 := (cell_far (p := ⟨gb376, 2, none⟩) (by first | (rw [add_block]; exact hn378_2) | (show (Addr.add _ _).block ≠ _; rw [add_block]; exact hn378_2) | exact hn378_2) (.int .i64 ((rd_T48 (rd_L2 l0 x15_1) x34_2).f2))).trans hx378_2; (try have hy378_0 := fun (n_ : Nat) => (show (((((w18.drewN n_).setCell ⟨gb376, 0, none⟩ (.int .i64 ((rd_T48 (rd_L2 l0 x15_1) x34_2).f0))).setCell ⟨gb376, 1, none⟩ (.int .i64 ((rd_T48 (rd_L2 l0 x15_1) x34_2).f1))).setCell ⟨gb376, 2, none⟩ (.int .i64 ((rd_T48 (rd_L2 l0 x15_1) x34_2).f2)))).cell? _ = some _ from hx378_0)); (try have hy378_1 := fun (n_ : Nat) => (show (((((w18.drewN n_).setCell ⟨gb376, 0, none⟩ (.int .i64 ((rd_T48 (rd_L2 l0 x15_1) x34_2).f0))).setCell ⟨gb376, 1, none⟩ (.int .i64 ((rd_T48 (rd_L2 l0 x15_1) x34_2).f1))).setCell ⟨gb376, 2, none⟩ (.int .i64 ((rd_T48 (rd_L2 l0 x15_1) x34_2).f2)))).cell? _ = some _ from hx378_1)); (try have hy378_2 := fun (n_ : Nat) => (show (((((w18.drewN n_).setCell ⟨gb376, 0, none⟩ (.int .i64 ((rd_T48 (rd_L2 l0 x15_1) x34_2).f0))).setCell ⟨gb376, 1, none⟩ (.int .i64 ((rd_T48 (rd_L2 l0 x15_1) x34_2).f1))).setCell ⟨gb376, 2, none⟩ (.int .i64 ((rd_T48 (rd_L2 l0 x15_1) x34_2).f2)))).cell? _ = some _ from hx378_2)); clear hn378_0; clear hn378_1; clear hn378_2; replace p378 := eq_true p378; replace q378 := eq_true q378))
                                    repeat (go_quiet (first | ((with_reducible refine gate_dst (N := 7) rfl ?_); refine box_event ?hg (N := 7) ?hd (cs := #[.int .i64 0, .int .i64 0, .int .i64 0]) (t := 48) ?hr ?_; (case hd => rfl); (case hg => rfl); (case hr => first | (go_simp; done) | (go_simp; rfl)); intro gb376 hg w18 hbox hb; have n0_ := Aside0.mk (below_step (by repeat (first | (with_reducible first | exact HB.out | apply below_alloc | apply pw_below_drewN | apply below_drew1) | exact HB.out)) hb); have n1_ := Aside0.mk (hbox); have n2_ := Aside0.mk ((by rw [hg]; exact (below_size (by repeat (first | (with_reducible first | exact HB.out | apply below_alloc | apply pw_below_drewN | apply below_drew1) | exact HB.out))) : w.heap.size ≤ gb376)); have n3_ := Aside0.mk ((by rw [hg]; exact (below_size (by repeat (first | (with_reducible first | exact HB.out | apply below_alloc | apply pw_below_drewN | apply below_drew1) | exact HB.out))) : w.heap.size ≤ gb376)); clear HB; have HB := n0_; have BK376 := n1_; have GW376 := n2_; have GE376 := n3_; clear n0_ n1_ n2_ n3_; clear hb hbox hg; have hcz19_0 : w18.cell? ⟨gb376, 0, none⟩ = some (.int .i64 0) := (blk_cell BK376.out 0).trans rfl; have hcz19_1 : w18.cell? ⟨gb376, 1, none⟩ = some (.int .i64 0) := (blk_cell BK376.out 1).trans rfl; have hcz19_2 : w18.cell? ⟨gb376, 2, none⟩ = some (.int .i64 0) := (blk_cell BK376.out 2).trans rfl; have hfz19_0 := blk_frozen BK376.out 0; have hfz19_1 := blk_frozen BK376.out 1; have hfz19_2 := blk_frozen BK376.out 2; have p377 : 0 ≤ (x15_1 : Int) := of_decide_eq_true (by first | (with_reducible assumption) | assumption); have q377 : x15_1 < (l1.length : Int) := of_decide_eq_true (by first | (with_reducible assumption) | assumption); obtain ⟨ad377, A377_0, c377_0, e377, hx377_0, hl377_0, hi377_0⟩ := at_L2 HR1.out x15_1 p377 q377; obtain rfl : ad373 = ad377 := (by injection e377); have hn377_0 : ad373.block ≠ gb376 := Nat.ne_of_lt (Nat.lt_of_lt_of_le (by have := World.block_lt_of_cell? _ _ hx377_0; first | rwa [add_block] at this | exact this) GW376.out); have hn377_1 : ad373.block ≠ gb376 := Nat.ne_of_lt (Nat.lt_of_lt_of_le (by have := World.block_lt_of_cell? _ _ hx377_0; first | rwa [add_block] at this | exact this) GW376.out); have hn377_2 : ad373.block ≠ gb376 := Nat.ne_of_lt (Nat.lt_of_lt_of_le (by have := World.block_lt_of_cell? _ _ hx377_0; first | rwa [add_block] at this | exact this) GW376.out); replace hx377_0 := (HB.out.cell (World.block_lt_of_cell? w _ hx377_0)).trans hx377_0; have HR377_0 := Aside0.mk hi377_0; have HC377_0 := Aside0.mk hl377_0; clear hi377_0 hl377_0; replace hx377_0 := (cell_far (p := ⟨gb376, 0, none⟩) (by first | (rw [add_block]; exact hn377_0) | (show (Addr.add _ _).block ≠ _; rw [add_block]; exact hn377_0) | exact hn377_0) (.int .i64 ((rd_T48 (rd_L2 l0 x15_1) x34_2).f0))).trans hx377_0; replace hx377_0 := (cell_far (p := ⟨gb376, 1, none⟩) (by first | (rw [add_block]; exact hn377_1) | (show (Addr.add _ _).block ≠ _; rw [add_block]; exact hn377_1) | exact hn377_1) (.int .i64 ((rd_T48 (rd_L2 l0 x15_1) x34_2).f1))).trans hx377_0; replace hx377_0 := (cell_far (p := ⟨gb376, 2, none⟩) (by first | (rw [add_block]; exact hn377_2) | (show (Addr.add _ _).block ≠ _; rw [add_block]; exact hn377_2) | exact hn377_2) (.int .i64 ((rd_T48 (rd_L2 l0 x15_1) x34_2).f2))).trans hx377_0; (try have hy377_0 := fun (n_ : Nat) => (show (((((w18.drewN n_).setCell ⟨gb376, 0, none⟩ (.int .i64 ((rd_T48 (rd_L2 l0 x15_1) x34_2).f0))).setCell ⟨gb376, 1, none⟩ (.int .i64 ((rd_T48 (rd_L2 l0 x15_1) x34_2).f1))).setCell ⟨gb376, 2, none⟩ (.int .i64 ((rd_T48 (rd_L2 l0 x15_1) x34_2).f2)))).cell? _ = some _ from hx377_0)); clear hn377_0; clear hn377_1; clear hn377_2; replace p377 := eq_true p377; replace q377 := eq_true q377; have p378 : 0 ≤ (x34_2 : Int) := of_decide_eq_true (by first | (with_reducible assumption) | assumption); have q378 : x34_2 < ((rd_L2 l1 x15_1).length : Int) := of_decide_eq_true (by first | (with_reducible assumption) | assumption); obtain ⟨ad378, e378, hx378_0, hx378_1, hx378_2⟩ := at_T48 HR377_0.out x34_2 p378 q378; cases e378; have hn378_0 : ad378.block ≠ gb376 := Nat.ne_of_lt (Nat.lt_of_lt_of_le (by have := World.block_lt_of_cell? _ _ hx378_0; first | rwa [add_block] at this | exact this) GW376.out); have hn378_1 : ad378.block ≠ gb376 := Nat.ne_of_lt (Nat.lt_of_lt_of_le (by have := World.block_lt_of_cell? _ _ hx378_0; first | rwa [add_block] at this | exact this) GW376.out); have hn378_2 : ad378.block ≠ gb376 := Nat.ne_of_lt (Nat.lt_of_lt_of_le (by have := World.block_lt_of_cell? _ _ hx378_0; first | rwa [add_block] at this | exact this) GW376.out); replace hx378_0 := (HB.out.cell (World.block_lt_of_cell? w _ hx378_0)).trans hx378_0; replace hx378_1 := (HB.out.cell (World.block_lt_of_cell? w _ hx378_1)).trans hx378_1; replace hx378_2 := (HB.out.cell (World.block_lt_of_cell? w _ hx378_2)).trans hx378_2; replace hx378_0 := (cell_far (p := ⟨gb376, 0, none⟩) (by first | (rw [add_block]; exact hn378_0) | (show (Addr.add _ _).block ≠ _; rw [add_block]; exact hn378_0) | exact hn378_0) (.int .i64 ((rd_T48 (rd_L2 l0 x15_1) x34_2).f0))).trans hx378_0; replace hx378_1 := (cell_far (p := ⟨gb376, 0, none⟩) (by first | (rw [add_block]; exact hn378_0) | (show (Addr.add _ _).block ≠ _; rw [add_block]; exact hn378_0) | exact hn378_0) (.int .i64 ((rd_T48 (rd_L2 l0 x15_1) x34_2).f0))).trans hx378_1; replace hx378_2 := (cell_far (p := ⟨gb376, 0, none⟩) (by first | (rw [add_block]; exact hn378_0) | (show (Addr.add _ _).block ≠ _; rw [add_block]; exact hn378_0) | exact hn378_0) (.int .i64 ((rd_T48 (rd_L2 l0 x15_1) x34_2).f0))).trans hx378_2; replace hx378_0 := (cell_far (p := ⟨gb376, 1, none⟩) (by first | (rw [add_block]; exact hn378_1) | (show (Addr.add _ _).block ≠ _; rw [add_block]; exact hn378_1) | exact hn378_1) (.int .i64 ((rd_T48 (rd_L2 l0 x15_1) x34_2).f1))).trans hx378_0; replace hx378_1 := (cell_far (p := ⟨gb376, 1, none⟩) (by first | (rw [add_block]; exact hn378_1) | (show (Addr.add _ _).block ≠ _; rw [add_block]; exact hn378_1) | exact hn378_1) (.int .i64 ((rd_T48 (rd_L2 l0 x15_1) x34_2).f1))).trans hx378_1; replace hx378_2 := (cell_far (p := ⟨gb376, 1, none⟩) (by first | (rw [add_block]; exact hn378_1) | (show (Addr.add _ _).block ≠ _; rw [add_block]; exact hn378_1) | exact hn378_1) (.int .i64 ((rd_T48 (rd_L2 l0 x15_1) x34_2).f1))).trans hx378_2; replace hx378_0 := (cell_far (p := ⟨gb376, 2, none⟩) (by first | (rw [add_block]; exact hn378_2) | (show (Addr.add _ _).block ≠ _; rw [add_block]; exact hn378_2) | exact hn378_2) (.int .i64 ((rd_T48 (rd_L2 l0 x15_1) x34_2).f2))).trans hx378_0; replace hx378_1 := (cell_far (p := ⟨gb376, 2, none⟩) (by first | (rw [add_block]; exact hn378_2) | (show (Addr.add _ _).block ≠ _; rw [add_block]; exact hn378_2) | exact hn378_2) (.int .i64 ((rd_T48 (rd_L2 l0 x15_1) x34_2).f2))).trans hx378_1; replace hx378_2 := (cell_far (p := ⟨gb376, 2, none⟩) (by first | (rw [add_block]; exact hn378_2) | (show (Addr.add _ _).block ≠ _; rw [add_block]; exact hn378_2) | exact hn378_2) (.int .i64 ((rd_T48 (rd_L2 l0 x15_1) x34_2).f2))).trans hx378_2; (try have hy378_0 := fun (n_ : Nat) => (show (((((w18.drewN n_).setCell ⟨gb376, 0, none⟩ (.int .i64 ((rd_T48 (rd_L2 l0 x15_1) x34_2).f0))).setCell ⟨gb376, 1, none⟩ (.int .i64 ((rd_T48 (rd_L2 l0 x15_1) x34_2).f1))).setCell ⟨gb376, 2, none⟩ (.int .i64 ((rd_T48 (rd_L2 l0 x15_1) x34_2).f2)))).cell? _ = some _ from hx378_0)); (try have hy378_1 := fun (n_ : Nat) => (show (((((w18.drewN n_).setCell ⟨gb376, 0, none⟩ (.int .i64 ((rd_T48 (rd_L2 l0 x15_1) x34_2).f0))).setCell ⟨gb376, 1, none⟩ (.int .i64 ((rd_T48 (rd_L2 l0 x15_1) x34_2).f1))).setCell ⟨gb376, 2, none⟩ (.int .i64 ((rd_T48 (rd_L2 l0 x15_1) x34_2).f2)))).cell? _ = some _ from hx378_1)); (try have hy378_2 := fun (n_ : Nat) => (show (((((w18.drewN n_).setCell ⟨gb376, 0, none⟩ (.int .i64 ((rd_T48 (rd_L2 l0 x15_1) x34_2).f0))).setCell ⟨gb376, 1, none⟩ (.int .i64 ((rd_T48 (rd_L2 l0 x15_1) x34_2).f1))).setCell ⟨gb376, 2, none⟩ (.int .i64 ((rd_T48 (rd_L2 l0 x15_1) x34_2).f2)))).cell? _ = some _ from hx378_2)); clear hn378_0; clear hn378_1; clear hn378_2; replace p378 := eq_true p378; replace q378 := eq_true q378)); try go_wp2_with (first | ((with_reducible refine gate_dst (N := 7) rfl ?_); refine box_event ?hg (N := 7) ?hd (cs := #[.int .i64 0, .int .i64 0, .int .i64 0]) (t := 48) ?hr ?_; (case hd => rfl); (case hg => rfl); (case hr => first | (go_simp; done) | (go_simp; rfl)); intro gb376 hg w18 hbox hb; have n0_ := Aside0.mk (below_step (by repeat (first | (with_reducible first | exact HB.out | apply below_alloc | apply pw_below_drewN | apply below_drew1) | exact HB.out)) hb); have n1_ := Aside0.mk (hbox); have n2_ := Aside0.mk ((by rw [hg]; exact (below_size (by repeat (first | (with_reducible first | exact HB.out | apply below_alloc | apply pw_below_drewN | apply below_drew1) | exact HB.out))) : w.heap.size ≤ gb376)); have n3_ := Aside0.mk ((by rw [hg]; exact (below_size (by repeat (first | (with_reducible first | exact HB.out | apply below_alloc | apply pw_below_drewN | apply below_drew1) | exact HB.out))) : w.heap.size ≤ gb376)); clear HB; have HB := n0_; have BK376 := n1_; have GW376 := n2_; have GE376 := n3_; clear n0_ n1_ n2_ n3_; clear hb hbox hg; have hcz19_0 : w18.cell? ⟨gb376, 0, none⟩ = some (.int .i64 0) := (blk_cell BK376.out 0).trans rfl; have hcz19_1 : w18.cell? ⟨gb376, 1, none⟩ = some (.int .i64 0) := (blk_cell BK376.out 1).trans rfl; have hcz19_2 : w18.cell? ⟨gb376, 2, none⟩ = some (.int .i64 0) := (blk_cell BK376.out 2).trans rfl; have hfz19_0 := blk_frozen BK376.out 0; have hfz19_1 := blk_frozen BK376.out 1; have hfz19_2 := blk_frozen BK376.out 2; have p377 : 0 ≤ (x15_1 : Int) := of_decide_eq_true (by first | (with_reducible assumption) | assumption); have q377 : x15_1 < (l1.length : Int) := of_decide_eq_true (by first | (with_reducible assumption) | assumption); obtain ⟨ad377, A377_0, c377_0, e377, hx377_0, hl377_0, hi377_0⟩ := at_L2 HR1.out x15_1 p377 q377; obtain rfl : ad373 = ad377 := (by injection e377); have hn377_0 : ad373.block ≠ gb376 := Nat.ne_of_lt (Nat.lt_of_lt_of_le (by have := World.block_lt_of_cell? _ _ hx377_0; first | rwa [add_block] at this | exact this) GW376.out); have hn377_1 : ad373.block ≠ gb376 := Nat.ne_of_lt (Nat.lt_of_lt_of_le (by have := World.block_lt_of_cell? _ _ hx377_0; first | rwa [add_block] at this | exact this) GW376.out); have hn377_2 : ad373.block ≠ gb376 := Nat.ne_of_lt (Nat.lt_of_lt_of_le (by have := World.block_lt_of_cell? _ _ hx377_0; first | rwa [add_block] at this | exact this) GW376.out); replace hx377_0 := (HB.out.cell (World.block_lt_of_cell? w _ hx377_0)).trans hx377_0; have HR377_0 := Aside0.mk hi377_0; have HC377_0 := Aside0.mk hl377_0; clear hi377_0 hl377_0; replace hx377_0 := (cell_far (p := ⟨gb376, 0, none⟩) (by first | (rw [add_block]; exact hn377_0) | (show (Addr.add _ _).block ≠ _; rw [add_block]; exact hn377_0) | exact hn377_0) (.int .i64 ((rd_T48 (rd_L2 l0 x15_1) x34_2).f0))).trans hx377_0; replace hx377_0 := (cell_far (p := ⟨gb376, 1, none⟩) (by first | (rw [add_block]; exact hn377_1) | (show (Addr.add _ _).block ≠ _; rw [add_block]; exact hn377_1) | exact hn377_1) (.int .i64 ((rd_T48 (rd_L2 l0 x15_1) x34_2).f1))).trans hx377_0; replace hx377_0 := (cell_far (p := ⟨gb376, 2, none⟩) (by first | (rw [add_block]; exact hn377_2) | (show (Addr.add _ _).block ≠ _; rw [add_block]; exact hn377_2) | exact hn377_2) (.int .i64 ((rd_T48 (rd_L2 l0 x15_1) x34_2).f2))).trans hx377_0; (try have hy377_0 := fun (n_ : Nat) => (show (((((w18.drewN n_).setCell ⟨gb376, 0, none⟩ (.int .i64 ((rd_T48 (rd_L2 l0 x15_1) x34_2).f0))).setCell ⟨gb376, 1, none⟩ (.int .i64 ((rd_T48 (rd_L2 l0 x15_1) x34_2).f1))).setCell ⟨gb376, 2, none⟩ (.int .i64 ((rd_T48 (rd_L2 l0 x15_1) x34_2).f2)))).cell? _ = some _ from hx377_0)); clear hn377_0; clear hn377_1; clear hn377_2; replace p377 := eq_true p377; replace q377 := eq_true q377; have p378 : 0 ≤ (x34_2 : Int) := of_decide_eq_true (by first | (with_reducible assumption) | assumption); have q378 : x34_2 < ((rd_L2 l1 x15_1).length : Int) := of_decide_eq_true (by first | (with_reducible assumption) | assumption); obtain ⟨ad378, e378, hx378_0, hx378_1, hx378_2⟩ := at_T48 HR377_0.out x34_2 p378 q378; cases e378; have hn378_0 : ad378.block ≠ gb376 := Nat.ne_of_lt (Nat.lt_of_lt_of_le (by have := World.block_lt_of_cell? _ _ hx378_0; first | rwa [add_block] at this | exact this) GW376.out); have hn378_1 : ad378.block ≠ gb376 := Nat.ne_of_lt (Nat.lt_of_lt_of_le (by have := World.block_lt_of_cell? _ _ hx378_0; first | rwa [add_block] at this | exact this) GW376.out); have hn378_2 : ad378.block ≠ gb376 := Nat.ne_of_lt (Nat.lt_of_lt_of_le (by have := World.block_lt_of_cell? _ _ hx378_0; first | rwa [add_block] at this | exact this) GW376.out); replace hx378_0 := (HB.out.cell (World.block_lt_of_cell? w _ hx378_0)).trans hx378_0; replace hx378_1 := (HB.out.cell (World.block_lt_of_cell? w _ hx378_1)).trans hx378_1; replace hx378_2 := (HB.out.cell (World.block_lt_of_cell? w _ hx378_2)).trans hx378_2; replace hx378_0 := (cell_far (p := ⟨gb376, 0, none⟩) (by first | (rw [add_block]; exact hn378_0) | (show (Addr.add _ _).block ≠ _; rw [add_block]; exact hn378_0) | exact hn378_0) (.int .i64 ((rd_T48 (rd_L2 l0 x15_1) x34_2).f0))).trans hx378_0; replace hx378_1 := (cell_far (p := ⟨gb376, 0, none⟩) (by first | (rw [add_block]; exact hn378_0) | (show (Addr.add _ _).block ≠ _; rw [add_block]; exact hn378_0) | exact hn378_0) (.int .i64 ((rd_T48 (rd_L2 l0 x15_1) x34_2).f0))).trans hx378_1; replace hx378_2 := (cell_far (p := ⟨gb376, 0, none⟩) (by first | (rw [add_block]; exact hn378_0) | (show (Addr.add _ _).block ≠ _; rw [add_block]; exact hn378_0) | exact hn378_0) (.int .i64 ((rd_T48 (rd_L2 l0 x15_1) x34_2).f0))).trans hx378_2; replace hx378_0 := (cell_far (p := ⟨gb376, 1, none⟩) (by first | (rw [add_block]; exact hn378_1) | (show (Addr.add _ _).block ≠ _; rw [add_block]; exact hn378_1) | exact hn378_1) (.int .i64 ((rd_T48 (rd_L2 l0 x15_1) x34_2).f1))).trans hx378_0; replace hx378_1 := (cell_far (p := ⟨gb376, 1, none⟩) (by first | (rw [add_block]; exact hn378_1) | (show (Addr.add _ _).block ≠ _; rw [add_block]; exact hn378_1) | exact hn378_1) (.int .i64 ((rd_T48 (rd_L2 l0 x15_1) x34_2).f1))).trans hx378_1; replace hx378_2 := (cell_far (p := ⟨gb376, 1, none⟩) (by first | (rw [add_block]; exact hn378_1) | (show (Addr.add _ _).block ≠ _; rw [add_block]; exact hn378_1) | exact hn378_1) (.int .i64 ((rd_T48 (rd_L2 l0 x15_1) x34_2).f1))).trans hx378_2; replace hx378_0 := (cell_far (p := ⟨gb376, 2, none⟩) (by first | (rw [add_block]; exact hn378_2) | (show (Addr.add _ _).block ≠ _; rw [add_block]; exact hn378_2) | exact hn378_2) (.int .i64 ((rd_T48 (rd_L2 l0 x15_1) x34_2).f2))).trans hx378_0; replace hx378_1 := (cell_far (p := ⟨gb376, 2, none⟩) (by first | (rw [add_block]; exact hn378_2) | (show (Addr.add _ _).block ≠ _; rw [add_block]; exact hn378_2) | exact hn378_2) (.int .i64 ((rd_T48 (rd_L2 l0 x15_1) x34_2).f2))).trans hx378_1; replace hx378_2 := (cell_far (p := ⟨gb376, 2, none⟩) (by first | (rw [add_block]; exact hn378_2) | (show (Addr.add _ _).block ≠ _; rw [add_block]; exact hn378_2) | exact hn378_2) (.int .i64 ((rd_T48 (rd_L2 l0 x15_1) x34_2).f2))).trans hx378_2; (try have hy378_0 := fun (n_ : Nat) => (show (((((w18.drewN n_).setCell ⟨gb376, 0, none⟩ (.int .i64 ((rd_T48 (rd_L2 l0 x15_1) x34_2).f0))).setCell ⟨gb376, 1, none⟩ (.int .i64 ((rd_T48 (rd_L2 l0 x15_1) x34_2).f1))).setCell ⟨gb376, 2, none⟩ (.int .i64 ((rd_T48 (rd_L2 l0 x15_1) x34_2).f2)))).cell? _ = some _ from hx378_0)); (try have hy378_1 := fun (n_ : Nat) => (show (((((w18.drewN n_).setCell ⟨gb376, 0, none⟩ (.int .i64 ((rd_T48 (rd_L2 l0 x15_1) x34_2).f0))).setCell ⟨gb376, 1, none⟩ (.int .i64 ((rd_T48 (rd_L2 l0 x15_1) x34_2).f1))).setCell ⟨gb376, 2, none⟩ (.int .i64 ((rd_T48 (rd_L2 l0 x15_1) x34_2).f2)))).cell? _ = some _ from hx378_1)); (try have hy378_2 := fun (n_ : Nat) => (show (((((w18.drewN n_).setCell ⟨gb376, 0, none⟩ (.int .i64 ((rd_T48 (rd_L2 l0 x15_1) x34_2).f0))).setCell ⟨gb376, 1, none⟩ (.int .i64 ((rd_T48 (rd_L2 l0 x15_1) x34_2).f1))).setCell ⟨gb376, 2, none⟩ (.int .i64 ((rd_T48 (rd_L2 l0 x15_1) x34_2).f2)))).cell? _ = some _ from hx378_2)); clear hn378_0; clear hn378_1; clear hn378_2; replace p378 := eq_true p378; replace q378 := eq_true q378)))
                                    go_roundg k2
                                    case measure => have := HK1.out; have := HK2.out; omega
                                    case rel => exact ⟨(wrap64 (x34_2 + 1)), (by first | rfl | (simp; done) | (simp [*]; done)), H', ⟨by have := HK1.out; have := HK2.out; omega⟩, ⟨by repeat (first | (with_reducible first | exact HB.out | apply below_alloc | apply pw_below_drewN | apply below_drew1 | refine below_set ?_ GE376.out) | exact HB.out)⟩⟩
                                · rw [if_neg c14] at H
                                  exact absurd H (by simp)
                              · rw [if_neg c13] at H
                                exact absurd H (by simp)
                            · rw [if_neg c12] at H
                              exact absurd H (by simp)
                          · rw [if_neg c11] at H
                            exact absurd H (by simp)
                        · rw [if_neg c10] at H
                          exact absurd H (by simp)
                      · rw [if_neg c9] at H
                        have c9b0 : decide (x34_2 < ((rd_L2 l0 x15_1).length : Int)) = false := decide_eq_false c9
                        clear c9
                        have H' := Aside0.mk H
                        clear H
                        go_wp2
                        repeat (go_quiet (fail); try go_wp2)
                        go_roundg k2
                        case measure => have := HK1.out; have := HK2.out; omega
                        case rel => exact ⟨(wrap64 (x15_1 + 1)), (by first | rfl | (simp; done) | (simp [*]; done)), H', ⟨by have := HK1.out; have := HK2.out; omega⟩, ⟨by repeat (first | (with_reducible first | exact HB.out | apply below_alloc | apply pw_below_drewN | apply below_drew1) | exact HB.out)⟩⟩
                · rw [if_neg c8] at H
                  have c8b0 : (((rd_L2 l0 x15_1).length : Int) == ((rd_L2 l1 x15_1).length : Int)) = false := beq_eq_false_iff_ne.mpr c8
                  have c8b1 : (((rd_L2 l0 x15_1).length : Int) != ((rd_L2 l1 x15_1).length : Int)) = true := bne_iff_ne.mpr c8
                  have c8b2 : ((rd_L2 l0 x15_1).length == (rd_L2 l1 x15_1).length) = false := by first | simpa using c8 | (simp at c8 ⊢; omega)
                  obtain rfl := Option.some.inj H
                  have p372 : 0 ≤ (x15_1 : Int) := of_decide_eq_true (by first | (with_reducible assumption) | assumption)
                  have q372 : x15_1 < (l0.length : Int) := of_decide_eq_true (by first | (with_reducible assumption) | assumption)
                  obtain ⟨ad372, A372_0, c372_0, e372, hx372_0, hl372_0, hi372_0⟩ := at_L2 HR0.out x15_1 p372 q372
                  cases e372
                  replace hx372_0 := (HB.out.cell (World.block_lt_of_cell? w _ hx372_0)).trans hx372_0
                  have HR372_0 := Aside0.mk hi372_0
                  have HC372_0 := Aside0.mk hl372_0
                  clear hi372_0 hl372_0
                  replace p372 := eq_true p372
                  replace q372 := eq_true q372
                  have p373 : 0 ≤ (x15_1 : Int) := of_decide_eq_true (by first | (with_reducible assumption) | assumption)
                  have q373 : x15_1 < (l1.length : Int) := of_decide_eq_true (by first | (with_reducible assumption) | assumption)
                  obtain ⟨ad373, A373_0, c373_0, e373, hx373_0, hl373_0, hi373_0⟩ := at_L2 HR1.out x15_1 p373 q373
                  cases e373
                  replace hx373_0 := (HB.out.cell (World.block_lt_of_cell? w _ hx373_0)).trans hx373_0
                  have HR373_0 := Aside0.mk hi373_0
                  have HC373_0 := Aside0.mk hl373_0
                  clear hi373_0 hl373_0
                  replace p373 := eq_true p373
                  replace q373 := eq_true q373
                  go_wp2
                  repeat (go_quiet (fail); try go_wp2)
                  go_ret
                  exact ⟨by first | rfl | (simp [errW_none, errW_some] <;> rfl) | (simp [*, errW_none, errW_some] <;> rfl), by repeat (first | (with_reducible first | exact HB.out | apply below_alloc | apply pw_below_drewN | apply below_drew1) | exact HB.out)⟩
              · rw [if_neg c7] at H
                exact absurd H (by simp)
            · rw [if_neg c6] at H
              exact absurd H (by simp)
          · rw [if_neg c5] at H
            exact absurd H (by simp)
        · rw [if_neg c4] at H
          have c4b0 : decide (x15_1 < (l0.length : Int)) = false := decide_eq_false c4
          clear c4
          obtain rfl := Option.some.inj H
          go_wp2
          repeat (go_quiet (fail); try go_wp2)
          go_ret
          exact ⟨by first | rfl | (simp [errW_none, errW_some] <;> rfl) | (simp [*, errW_none, errW_some] <;> rfl), by repeat (first | (with_reducible first | exact HB.out | apply below_alloc | apply pw_below_drewN | apply below_drew1) | exact HB.out)⟩
  · rw [if_neg c3] at H
    have c3b0 : ((l0.length : Int) == (l1.length : Int)) = false := beq_eq_false_iff_ne.mpr c3
    have c3b1 : ((l0.length : Int) != (l1.length : Int)) = true := bne_iff_ne.mpr c3
    have c3b2 : (l0.length == l1.length) = false := by first | simpa using c3 | (simp at c3 ⊢; omega)
    obtain rfl := Option.some.inj H
    go_enter Try.func21, Try.ntmps21
    go_wp2
    repeat (go_quiet (fail); try go_wp2)
    go_ret
    exact ⟨by first | rfl | (simp [errW_none, errW_some] <;> rfl) | (simp [*, errW_none, errW_some] <;> rfl), by repeat (first | (with_reducible first | exact HB.out | apply below_alloc | apply pw_below_drewN | apply below_drew1) | exact HB.out)⟩

-- NOT PRINTED: function 7 (lapidarylaw15_ArcTurns)

end Go.Proofs.Ytmfeokapjmpjfaa.PArc
