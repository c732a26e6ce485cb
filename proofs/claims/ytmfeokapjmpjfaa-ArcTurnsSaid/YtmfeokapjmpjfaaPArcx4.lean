-- Written for this claim by a program of this session.
import Derived.Test.YtmfeokapjmpjfaaPArcx0
import Derived.Test.YtmfeokapjmpjfaaPArcx3
namespace Go.Proofs.Ytmfeokapjmpjfaa.PArc
open Go.RowKit Go.Proofs.YtmfeokapjmpjfaaW.PrintWords Go.Proofs.YtmfeokapjmpjfaaW.PrintLast Go.Proofs.YtmfeokapjmpjfaaW.PrintMore
attribute [local go_sem] max2_int min2_int max_two min_two max_three min_three max_four min_four   -- for this text's walks alone
set_option linter.unusedVariables false
set_option linter.unusedSimpArgs false

/-! ### vint_Put: function 22 -/
mutual
def vint_Put.l0 : Nat → List Int → List Int → Int → Int → Option (List Int)
  | 0, _, _, _, _ => none
  | k + 1, x3, x6, x7, x8 => if x8 < x7 then (if 0 ≤ x8 then (if x8 < (x6.length : Int) then (vint_Put.l1 k x3 (rd x6 x8) x6 x7 x8) else (none)) else (none)) else (some x3)
def vint_Put.l1 : Nat → List Int → Int → List Int → Int → Int → Option (List Int)
  | 0, _, _, _, _, _ => none
  | k + 1, x3, x5, x6, x7, x8 => if x5 ≥ 128 then (if x3.length < 140737488355328 then (vint_Put.l1 k (x3 ++ [Go.bits .or .u8 ((x5) % 256) 128]) (x5 / 128) x6 x7 x8) else (none)) else (if x3.length < 140737488355328 then (vint_Put.l0 k (x3 ++ [(x5) % 256]) x6 x7 (wrap64 (x8 + 1))) else (none))
end
def vint_Put.f (k : Nat) (l0 : List Int) : Option (List Int) := vint_Put.l0 k ([] : List Int) l0 (l0.length : Int) 0
theorem vint_Put.mono_l : ∀ k, (∀ y0 y1 y2 y3, LeO (vint_Put.l0 k y0 y1 y2 y3) (vint_Put.l0 (k + 1) y0 y1 y2 y3)) ∧ (∀ y0 y1 y2 y3 y4, LeO (vint_Put.l1 k y0 y1 y2 y3 y4) (vint_Put.l1 (k + 1) y0 y1 y2 y3 y4))
  | 0 => ⟨fun _ _ _ _ r h => by simp [vint_Put.l0] at h, fun _ _ _ _ _ r h => by simp [vint_Put.l1] at h⟩
  | k + 1 => by
    obtain ⟨ih0, ih1⟩ := vint_Put.mono_l k
    refine ⟨?_, ?_⟩
    · intro y0 y1 y2 y3
      unfold vint_Put.l0
      repeat' first
      | (with_reducible exact ih0 _ _ _ _)
      | (with_reducible exact ih1 _ _ _ _ _)
      | (with_reducible exact LeO.refl _)
      | (with_reducible exact LeO.none _)
      | (with_reducible refine LeO.ite ?_ ?_)
      | (with_reducible refine LeO.bind ?_ (fun _ => ?_))
      | exact ih0 _ _ _ _
      | exact ih1 _ _ _ _ _
      | exact LeO.none _
      | refine LeO.ite ?_ ?_
      | refine LeO.bind ?_ (fun _ => ?_)
    · intro y0 y1 y2 y3 y4
      unfold vint_Put.l1
      repeat' first
      | (with_reducible exact ih0 _ _ _ _)
      | (with_reducible exact ih1 _ _ _ _ _)
      | (with_reducible exact LeO.refl _)
      | (with_reducible exact LeO.none _)
      | (with_reducible refine LeO.ite ?_ ?_)
      | (with_reducible refine LeO.bind ?_ (fun _ => ?_))
      | exact ih0 _ _ _ _
      | exact ih1 _ _ _ _ _
      | exact LeO.none _
      | refine LeO.ite ?_ ?_
      | refine LeO.bind ?_ (fun _ => ?_)
theorem vint_Put.mono : ∀ a0 k, LeO (vint_Put.f k a0) (vint_Put.f (k + 1) a0) := by
  intro a0 k
  obtain ⟨ih0, ih1⟩ := vint_Put.mono_l k
  unfold vint_Put.f
  repeat' first
      | (with_reducible exact ih0 _ _ _ _)
      | (with_reducible exact ih1 _ _ _ _ _)
      | (with_reducible exact LeO.refl _)
      | (with_reducible exact LeO.none _)
      | (with_reducible refine LeO.ite ?_ ?_)
      | (with_reducible refine LeO.bind ?_ (fun _ => ?_))
      | exact ih0 _ _ _ _
      | exact ih1 _ _ _ _ _
      | exact LeO.none _
      | refine LeO.ite ?_ ?_
      | refine LeO.bind ?_ (fun _ => ?_)
set_option maxHeartbeats 8000000 in
set_option maxRecDepth 100000 in
theorem vint_Put.calls (k : Nat) (A0 : Option Addr) (c0 : Nat) (l0 : List Int) (r : List Int) (w : World) (hr0 : Kd.C (Kd.int .u64) w A0 l0.length l0) (hc0 : l0.length ≤ c0) (h : vint_Put.f k l0 = some r) :
    Calls Try.prog 22 #[.slice A0 l0.length c0] w fun e w' => ∃ v0_ : Value, e = .returned (v0_) ∧ Kd.R (Kd.int .u8) 5 w' w.heap.size (fun _ => True) v0_ r ∧ Below w.heap.size w w' := by
  have HR0 := Aside0.mk hr0
  have HC0 := Aside0.mk hc0
  clear hr0 hc0
  have HB := Aside0.mk (Below.refl w.heap.size w)
  have H : (vint_Put.l0 k ([] : List Int) l0 (l0.length : Int) 0) = some r := h
  clear h
  have H' := Aside0.mk H
  clear H
  go_enter Try.func22, Try.ntmps22
  go_wp2
  go_loopg [3, 8] k (fun kq v3 v8 w' => ∃ (x3_1 : List Int) (x8_1 : Int), v8 = .int .i64 x8_1 ∧ Aside0 (vint_Put.l0 kq x3_1 l0 (l0.length : Int) x8_1 = some r) ∧ Aside0 (kq ≤ k) ∧ Aside0 (Kd.R (Kd.int .u8) 5 w' w.heap.size (fun _ => True) v3 x3_1) ∧ Aside0 (Below w.heap.size w w'))
  case atStart => exact ⟨(([] : List Int)), (0), (by first | rfl | (simp; done) | (simp [*]; done)), H', ⟨Nat.le_refl _⟩, ⟨by first | exact Kd.R_nil _ _ _ _ _ | exact Kd.N_nil _ _ _ _ _ | exact Kd.V_nil _ _ _ _ _ | exact Kd.Q_nil _ _ _ _ _ | exact Kd.S_nil _ _ _ _ _⟩, ⟨by repeat (first | (with_reducible first | exact HB.out | apply below_alloc | apply pw_below_drewN | apply below_drew1) | exact HB.out)⟩⟩
  case round =>
    clear H'
    obtain ⟨x3_1, x8_1, rfl, HA, HK1, HO_3, HB⟩ := hrel
    cases gk with
    | zero => exact absurd HA.out (by simp [vint_Put.l0])
    | succ k1 =>
      have H := HA.out
      clear HA
      simp only [vint_Put.l0] at H
      by_cases c2 : x8_1 < (l0.length : Int)
      · rw [if_pos c2] at H
        have c2b0 : decide (x8_1 < (l0.length : Int)) = true := decide_eq_true c2
        clear c2
        by_cases c3 : 0 ≤ x8_1
        · rw [if_pos c3] at H
          have c3b0 : decide (0 ≤ x8_1) = true := decide_eq_true c3
          clear c3
          by_cases c4 : x8_1 < (l0.length : Int)
          · rw [if_pos c4] at H
            have c4b0 : decide (x8_1 < (l0.length : Int)) = true := decide_eq_true c4
            clear c4
            have H' := Aside0.mk H
            clear H
            have p109 : 0 ≤ (x8_1 : Int) := of_decide_eq_true (by first | (with_reducible assumption) | assumption)
            have q109 : x8_1 < (l0.length : Int) := of_decide_eq_true (by first | (with_reducible assumption) | assumption)
            obtain ⟨ad109, e109, hx109_0⟩ := Kd.at_int HR0.out x8_1 p109 q109
            cases e109
            replace hx109_0 := (HB.out.cell (World.block_lt_of_cell? w _ hx109_0)).trans hx109_0
            replace p109 := eq_true p109
            replace q109 := eq_true q109
            go_wp2
            go_loopg [3, 5] k1 (fun kq v3 v5 w' => ∃ (x3_2 : List Int) (x5_2 : Int), v5 = .int .u64 x5_2 ∧ Aside0 (vint_Put.l1 kq x3_2 x5_2 l0 (l0.length : Int) x8_1 = some r) ∧ Aside0 (kq ≤ k1) ∧ Aside0 (Kd.R (Kd.int .u8) 5 w' w.heap.size (fun _ => True) v3 x3_2) ∧ Aside0 (Below w.heap.size w w'))
            case atStart => exact ⟨(x3_1), (rd l0 x8_1), (by first | rfl | (simp; done) | (simp [*]; done)), H', ⟨Nat.le_refl _⟩, ⟨by (with_reducible repeat (first | apply Kd.R_alloc | apply Kd.R_drewN | apply Kd.R_drew)); exact HO_3.out⟩, ⟨by repeat (first | (with_reducible first | exact HB.out | apply below_alloc | apply pw_below_drewN | apply below_drew1) | exact HB.out)⟩⟩
            case round =>
              clear H'
              try clear p1
              try clear q1
              try clear hx1
              try clear c2
              try clear c2b0
              try clear p2
              try clear c3
              try clear c3b0
              try clear c4
              try clear c4b0
              try clear hx109_0
              try clear p109
              try clear q109
              obtain ⟨x3_2, x5_2, rfl, HA, HK2, HO_3, HB⟩ := hrel
              cases gk with
              | zero => exact absurd HA.out (by simp [vint_Put.l1])
              | succ k2 =>
                have H := HA.out
                clear HA
                simp only [vint_Put.l1] at H
                by_cases c5 : x5_2 ≥ 128
                · rw [if_pos c5] at H
                  have c5b0 : decide (128 ≤ x5_2) = true := decide_eq_true c5
                  clear c5
                  by_cases c6 : x3_2.length < 140737488355328
                  · rw [if_pos c6] at H
                    have LMc6 := Aside0.mk c6
                    clear c6
                    obtain ⟨y110, hy110⟩ : ∃ y_ : List Int, y_ = (x3_2 ++ [Go.bits .or .u8 ((x5_2) % 256) 128]) := ⟨_, rfl⟩
                    replace H : (vint_Put.l1 k2 y110 (x5_2 / 128) l0 (l0.length : Int) x8_1) = some r := by first | (rw [hy110]; with_reducible exact H) | (have H2_ := (Option.bind_some _ _).symm.trans H; rw [hy110]; with_reducible exact H2_) | (have H2_ := (Option.bind_some _ _).symm.trans H; with_reducible exact H2_) | with_reducible exact H | (rw [hy110]; exact H) | exact H
                    have Ny110 := Aside0.mk hy110
                    clear hy110
                    have H' := Aside0.mk H
                    clear H
                    go_wp2_with (first | ((with_reducible refine gate_builtin (b := .append) (xs := #[.tmp 14, .tmp 18]) rfl ?_); at_builtin; refine Kd.R_append (Kd.int .u8) (w0 := w) w.heap.size rfl (.tmp 14) (.tmp 18) 23 5 (.int .u8 0) 1 rfl Try.underlying23 info5 rfl (by decide) (by omega) u3 x3_2 (Go.bits .or .u8 ((x5_2) % 256) 128) [.int .u8 (Go.bits .or .u8 ((x5_2) % 256) 128)] (fun _ => True) (fun _ => False) rfl rfl ?aP (fun _ hk => hk.elim) ?aF ?aO ?aB ?aS ?aL ?_; (case aP => exact rfl); (case aB => exact (by repeat (first | (with_reducible first | exact HB.out | apply below_alloc | apply pw_below_drewN | apply below_drew1) | exact HB.out))); (case aF => exact (fun _ _ => trivial)); (case aO => exact (by (with_reducible repeat (first | apply Kd.R_alloc | apply Kd.R_drewN | apply Kd.R_drew)); exact HO_3.out)); (case aS => exact (below_size (by repeat (first | (with_reducible first | exact HB.out | apply below_alloc | apply pw_below_drewN | apply below_drew1) | exact HB.out)))); (case aL => have := LMc6.out; omega); intro v111 w7 ho hb hg hat; rw [← Ny110.out] at ho; have n0_ := Aside0.mk (hb); have n1_ := Aside0.mk (ho); clear HB; clear HO_3; have HB := n0_; have HO112 := n1_; clear n0_ n1_; clear ho hb hg hat))
                    go_roundg k2
                    case measure => have := HK1.out; have := HK2.out; omega
                    case rel => exact ⟨(y110), (x5_2 / 128), (by first | rfl | (simp; done) | (simp [*]; done)), H', ⟨by have := HK1.out; have := HK2.out; omega⟩, ⟨by (with_reducible repeat (first | apply Kd.R_alloc | apply Kd.R_drewN | apply Kd.R_drew)); exact HO112.out⟩, ⟨by repeat (first | (with_reducible first | exact HB.out | apply below_alloc | apply pw_below_drewN | apply below_drew1) | exact HB.out)⟩⟩
                  · rw [if_neg c6] at H
                    exact absurd H (by simp)
                · rw [if_neg c5] at H
                  have c5b0 : decide (128 ≤ x5_2) = false := decide_eq_false c5
                  clear c5
                  by_cases c8 : x3_2.length < 140737488355328
                  · rw [if_pos c8] at H
                    have LMc8 := Aside0.mk c8
                    clear c8
                    obtain ⟨y113, hy113⟩ : ∃ y_ : List Int, y_ = (x3_2 ++ [(x5_2) % 256]) := ⟨_, rfl⟩
                    replace H : (vint_Put.l0 k2 y113 l0 (l0.length : Int) (wrap64 (x8_1 + 1))) = some r := by first | (rw [hy113]; with_reducible exact H) | (have H2_ := (Option.bind_some _ _).symm.trans H; rw [hy113]; with_reducible exact H2_) | (have H2_ := (Option.bind_some _ _).symm.trans H; with_reducible exact H2_) | with_reducible exact H | (rw [hy113]; exact H) | exact H
                    have Ny113 := Aside0.mk hy113
                    clear hy113
                    have H' := Aside0.mk H
                    clear H
                    go_wp2_with (first | ((with_reducible refine gate_builtin (b := .append) (xs := #[.tmp 22, .tmp 25]) rfl ?_); at_builtin; refine Kd.R_append (Kd.int .u8) (w0 := w) w.heap.size rfl (.tmp 22) (.tmp 25) 23 5 (.int .u8 0) 1 rfl Try.underlying23 info5 rfl (by decide) (by omega) u3 x3_2 ((x5_2) % 256) [.int .u8 ((x5_2) % 256)] (fun _ => True) (fun _ => False) rfl rfl ?aP (fun _ hk => hk.elim) ?aF ?aO ?aB ?aS ?aL ?_; (case aP => exact rfl); (case aB => exact (by repeat (first | (with_reducible first | exact HB.out | apply below_alloc | apply pw_below_drewN | apply below_drew1) | exact HB.out))); (case aF => exact (fun _ _ => trivial)); (case aO => exact (by (with_reducible repeat (first | apply Kd.R_alloc | apply Kd.R_drewN | apply Kd.R_drew)); exact HO_3.out)); (case aS => exact (below_size (by repeat (first | (with_reducible first | exact HB.out | apply below_alloc | apply pw_below_drewN | apply below_drew1) | exact HB.out)))); (case aL => have := LMc8.out; omega); intro v114 w9 ho hb hg hat; rw [← Ny113.out] at ho; have n0_ := Aside0.mk (hb); have n1_ := Aside0.mk (ho); clear HB; clear HO_3; have HB := n0_; have HO115 := n1_; clear n0_ n1_; clear ho hb hg hat))
                    go_roundg k2
                    case measure => have := HK1.out; have := HK2.out; omega
                    case rel => exact ⟨(y113), (wrap64 (x8_1 + 1)), (by first | rfl | (simp; done) | (simp [*]; done)), H', ⟨by have := HK1.out; have := HK2.out; omega⟩, ⟨by (with_reducible repeat (first | apply Kd.R_alloc | apply Kd.R_drewN | apply Kd.R_drew)); exact HO115.out⟩, ⟨by repeat (first | (with_reducible first | exact HB.out | apply below_alloc | apply pw_below_drewN | apply below_drew1) | exact HB.out)⟩⟩
                  · rw [if_neg c8] at H
                    exact absurd H (by simp)
          · rw [if_neg c4] at H
            exact absurd H (by simp)
        · rw [if_neg c3] at H
          exact absurd H (by simp)
      · rw [if_neg c2] at H
        have c2b0 : decide (x8_1 < (l0.length : Int)) = false := decide_eq_false c2
        clear c2
        obtain rfl := Option.some.inj H
        go_wp2
        go_ret
        exact ⟨_, by first | rfl | (simp [errW_none, errW_some] <;> rfl) | (simp [*, errW_none, errW_some] <;> rfl), by (with_reducible repeat (first | apply Kd.R_alloc | apply Kd.R_drewN | apply Kd.R_drew)); exact HO_3.out, by repeat (first | (with_reducible first | exact HB.out | apply below_alloc | apply pw_below_drewN | apply below_drew1) | exact HB.out)⟩

/-! ### vint_Zig: function 32 -/
def vint_Zig.f (a0 : Int) : Option (Int) := some (Go.bits .xor .u64 (IntKind.u64.wrap ((IntKind.u64.wrap (a0)) * 2)) (IntKind.u64.wrap (a0 / 9223372036854775808)))
set_option maxHeartbeats 8000000 in
set_option maxRecDepth 100000 in
theorem vint_Zig.calls (a0 : Int) (r : Int) (w : World) (h : vint_Zig.f a0 = some r) :
    Calls Try.prog 32 #[.int .i64 a0] w fun e w' => e = .returned (.int .u64 r) ∧ Drawn0 w w' := by
  have H : (some (Go.bits .xor .u64 (IntKind.u64.wrap ((IntKind.u64.wrap (a0)) * 2)) (IntKind.u64.wrap (a0 / 9223372036854775808)))) = some r := h
  clear h
  obtain rfl := Option.some.inj H
  go_enter Try.func32, Try.ntmps32
  go_wp2
  go_ret
  exact ⟨by first | rfl | (simp; done) | (simp [*]; done), by repeat (first | exact Drawn0.refl _ | apply Drawn0.step)⟩

/-! ### vint_PutInt: function 23 -/
def vint_PutInt.f (k : Nat) (a0 : Int) : Option (List Int) := (vint_Zig.f a0).bind fun t116 => ((vint_Put.f k (([t116] : List Int))).bind fun t120 => (some t120))
theorem vint_PutInt.mono : ∀ a0 k, LeO (vint_PutInt.f k a0) (vint_PutInt.f (k + 1) a0) := by
  intro a0 k
  unfold vint_PutInt.f
  repeat' first
      | (with_reducible exact vint_Put.mono _ _)
      | (with_reducible exact LeO.refl _)
      | (with_reducible exact LeO.none _)
      | (with_reducible refine LeO.ite ?_ ?_)
      | (with_reducible refine LeO.bind ?_ (fun _ => ?_))
      | exact vint_Put.mono _ _
      | exact LeO.none _
      | refine LeO.ite ?_ ?_
      | refine LeO.bind ?_ (fun _ => ?_)
set_option maxHeartbeats 8000000 in
set_option maxRecDepth 100000 in
theorem vint_PutInt.calls (k : Nat) (a0 : Int) (r : List Int) (w : World) (h : vint_PutInt.f k a0 = some r) :
    Calls Try.prog 23 #[.int .i64 a0] w fun e w' => ∃ v0_ : Value, e = .returned (v0_) ∧ Kd.R (Kd.int .u8) 5 w' w.heap.size (fun _ => True) v0_ r ∧ Below w.heap.size w w' := by
  have HB := Aside0.mk (Below.refl w.heap.size w)
  have H : ((vint_Zig.f a0).bind fun t116 => ((vint_Put.f k (([t116] : List Int))).bind fun t120 => (some t120))) = some r := h
  clear h
  replace H := Option.bind_eq_some_iff.mp H
  obtain ⟨t116, A20, H⟩ := H
  replace H : ((vint_Put.f k (([t116] : List Int))).bind fun t120 => (some t120)) = some r := H
  have A2 := Aside0.mk A20
  clear A20
  obtain ⟨y117, hy117⟩ : ∃ y_ : List Int, y_ = (([t116] : List Int)) := ⟨_, rfl⟩
  replace H : ((vint_Put.f k y117).bind fun t120 => (some t120)) = some r := by first | (rw [hy117]; with_reducible exact H) | (have H2_ := (Option.bind_some _ _).symm.trans H; rw [hy117]; with_reducible exact H2_) | (have H2_ := (Option.bind_some _ _).symm.trans H; with_reducible exact H2_) | with_reducible exact H | (rw [hy117]; exact H) | exact H
  have Ny117 := Aside0.mk hy117
  clear hy117
  replace H := Option.bind_eq_some_iff.mp H
  obtain ⟨t120, A30, H⟩ := H
  replace H : (some t120) = some r := H
  have A3 := Aside0.mk A30
  clear A30
  obtain rfl := Option.some.inj H
  go_enter Try.func23, Try.ntmps23
  go_wp2_with (first | ((with_reducible refine gate_callee (f := 32) rfl ?_); refine goesL_ (some 4) rfl rfl Try.func32 (by kernel_rfl) rfl #[.int .i64 a0] rfl (by (try simp only [List.map_toArray, List.map_cons, List.map_nil]); first | done | rfl | (simp only [List.length_drop, List.length_take]; rfl)) ?_; (with_reducible refine (vint_Zig.calls a0 t116 _ A2.out).mono ?_); rintro e w' ⟨rfl, ⟨nd, rfl⟩⟩; refine ⟨_, rfl, ?_⟩) | ((with_reducible refine gate_dst (N := 5) rfl ?_); refine Kd.R_lit (Kd.int .u64) _ 51 ?hg (N := 5) ?hd (xs := ([t116] : List Int)) (inner := [.int .u64 t116]) (ok := fun _ => True) (okp := fun _ => True) ?hr ?hp (fun _ hk => hk) trivial (Below.refl _ _) (Nat.le_refl _) (by simp) ?_; (case hd => rfl); (case hg => rfl); (case hr => first | (go_simp; done) | (go_simp; rfl)); (case hp => exact (Reps.one (show Kd.M (Kd.int .u64) _ _ _ t116 [.int .u64 t116] from rfl) (Reps.none _ _))); intro v118 w4 ho5 hb hg_ hnew_; clear hg_ hnew_; (first | rw [← Ny117.out] at ho5 | (simp only [Int.reduceToNat] at ho5; rw [← Ny117.out] at ho5)); have n0_ := Aside0.mk (Kd.R_lower ho5 (below_size (by repeat (first | (with_reducible first | exact HB.out | apply below_alloc | apply pw_below_drewN | apply below_drew1) | exact HB.out)))); have n1_ := Aside0.mk (below_step (by repeat (first | (with_reducible first | exact HB.out | apply below_alloc | apply pw_below_drewN | apply below_drew1) | exact HB.out)) hb); clear HB; have HO119 := n0_; have HB := n1_; clear n0_ n1_; clear hb ho5; obtain ⟨Ao6, co6, eo6⟩ := Kd.R_slice HO119.out; subst eo6) | ((with_reducible refine gate_callee (f := 22) rfl ?_); refine goesL_ (some 6) rfl rfl Try.func22 (by kernel_rfl) rfl #[.slice Ao6 y117.length co6] rfl (by (try simp only [List.map_toArray, List.map_cons, List.map_nil]); first | done | rfl | (simp only [List.length_drop, List.length_take]; rfl)) ?_; (with_reducible refine (vint_Put.calls k _ _ y117 t120 _ ?side1 ?side2 A3.out).mono ?_); (case side1 => repeat (first | exact (Kd.R_reads' HO119.out).2.2 | (with_reducible refine Kd.C_alloc ?_ _) | (with_reducible refine Kd.C_drewN ?_ _) | (with_reducible refine Kd.C_drew ?_))); (case side2 => exact (Kd.R_reads' HO119.out).2.1); rintro e w7 ⟨v121, rfl, ho0, hb⟩; refine ⟨_, rfl, ?_⟩; have n0_ := Aside0.mk (Kd.R_below (by (with_reducible repeat (first | apply Kd.R_alloc | apply Kd.R_drewN | apply Kd.R_drew)); exact HO119.out) hb); have n1_ := Aside0.mk (Kd.R_lower ho0 (below_size (by repeat (first | (with_reducible first | exact HB.out | apply below_alloc | apply pw_below_drewN | apply below_drew1) | exact HB.out)))); have n2_ := Aside0.mk (below_step (by repeat (first | (with_reducible first | exact HB.out | apply below_alloc | apply pw_below_drewN | apply below_drew1) | exact HB.out)) hb); clear HO119; clear HB; have HO119 := n0_; have HO122 := n1_; have HB := n2_; clear n0_ n1_ n2_; (try clear hb); (try clear hb2); (try clear hk); (try clear hi); (try clear ho0)))
  go_ret
  exact ⟨_, by first | rfl | (simp [errW_none, errW_some] <;> rfl) | (simp [*, errW_none, errW_some] <;> rfl), by (with_reducible repeat (first | apply Kd.R_alloc | apply Kd.R_drewN | apply Kd.R_drew)); exact HO122.out, by repeat (first | (with_reducible first | exact HB.out | apply below_alloc | apply pw_below_drewN | apply below_drew1) | exact HB.out)⟩

/-! ### arc_Encode: function 10 -/
mutual
def arc_Encode.l0 : Nat → List Int → List (List (S48)) → Int → Int → Int → Int → Int → Option (List Int × Int)
  | 0, _, _, _, _, _, _, _ => none
  | k + 1, x5, x21, x22, x23, x131000, x131001, x131002 => if x23 < x22 then (if 0 ≤ x23 then (if x23 < (x21.length : Int) then ((vint_Put.f k (([IntKind.u64.wrap (((rd_L2 x21 x23).length : Int))] : List Int))).bind fun t135 => (if x5.length + t135.length < 140737488355328 then (arc_Encode.l1 k (x5 ++ t135) x21 x22 x23 (rd_L2 x21 x23) ((rd_L2 x21 x23).length : Int) 0 x131000 x131001 x131002) else (none))) else (none)) else (none)) else (some (x5, 0))
def arc_Encode.l1 : Nat → List Int → List (List (S48)) → Int → Int → List (S48) → Int → Int → Int → Int → Int → Option (List Int × Int)
  | 0, _, _, _, _, _, _, _, _, _, _ => none
  | k + 1, x5, x21, x22, x23, x34, x35, x36, x131000, x131001, x131002 => if x36 < x35 then (if 0 ≤ x36 then (if x36 < (x34.length : Int) then ((vint_PutInt.f k (wrap64 (((rd_T48 x34 x36).f0) - x131000))).bind fun t143 => (if x5.length + t143.length < 140737488355328 then ((some (x5 ++ t143 : List Int)).bind fun y146 => ((vint_PutInt.f k (wrap64 (((rd_T48 x34 x36).f1) - x131001))).bind fun t149 => (if y146.length + t149.length < 140737488355328 then (arc_Encode.l1 k (y146 ++ t149) x21 x22 x23 x34 x35 (wrap64 (x36 + 1)) ((rd_T48 x34 x36).f0) ((rd_T48 x34 x36).f1) ((rd_T48 x34 x36).f2)) else (none)))) else (none))) else (none)) else (none)) else (arc_Encode.l0 k x5 x21 x22 (wrap64 (x23 + 1)) x131000 x131001 x131002)
end
def arc_Encode.f (k : Nat) (l0 : List (List (S48))) : Option (List Int × Int) := (arc_Check.f k l0).bind fun t123 => (if t123 = 0 then ((vint_Put.f k (([IntKind.u64.wrap ((l0.length : Int))] : List Int))).bind fun t127 => (arc_Encode.l0 k t127 l0 (l0.length : Int) 0 0 0 0)) else (some (([] : List Int), t123)))
theorem arc_Encode.mono_l : ∀ k, (∀ y0 y1 y2 y3 y4 y5 y6, LeO (arc_Encode.l0 k y0 y1 y2 y3 y4 y5 y6) (arc_Encode.l0 (k + 1) y0 y1 y2 y3 y4 y5 y6)) ∧ (∀ y0 y1 y2 y3 y4 y5 y6 y7 y8 y9, LeO (arc_Encode.l1 k y0 y1 y2 y3 y4 y5 y6 y7 y8 y9) (arc_Encode.l1 (k + 1) y0 y1 y2 y3 y4 y5 y6 y7 y8 y9))
  | 0 => ⟨fun _ _ _ _ _ _ _ r h => by simp [arc_Encode.l0] at h, fun _ _ _ _ _ _ _ _ _ _ r h => by simp [arc_Encode.l1] at h⟩
  | k + 1 => by
    obtain ⟨ih0, ih1⟩ := arc_Encode.mono_l k
    refine ⟨?_, ?_⟩
    · intro y0 y1 y2 y3 y4 y5 y6
      unfold arc_Encode.l0
      repeat' first
      | (with_reducible exact ih0 _ _ _ _ _ _ _)
      | (with_reducible exact ih1 _ _ _ _ _ _ _ _ _ _)
      | (with_reducible exact arc_Check.mono _ _)
      | (with_reducible exact vint_Put.mono _ _)
      | (with_reducible exact vint_PutInt.mono _ _)
      | (with_reducible exact LeO.refl _)
      | (with_reducible exact LeO.none _)
      | (with_reducible refine LeO.ite ?_ ?_)
      | (with_reducible refine LeO.bind ?_ (fun _ => ?_))
      | exact ih0 _ _ _ _ _ _ _
      | exact ih1 _ _ _ _ _ _ _ _ _ _
      | exact arc_Check.mono _ _
      | exact vint_Put.mono _ _
      | exact vint_PutInt.mono _ _
      | exact LeO.none _
      | refine LeO.ite ?_ ?_
      | refine LeO.bind ?_ (fun _ => ?_)
    · intro y0 y1 y2 y3 y4 y5 y6 y7 y8 y9
      unfold arc_Encode.l1
      repeat' first
      | (with_reducible exact ih0 _ _ _ _ _ _ _)
      | (with_reducible exact ih1 _ _ _ _ _ _ _ _ _ _)
      | (with_reducible exact arc_Check.mono _ _)
      | (with_reducible exact vint_Put.mono _ _)
      | (with_reducible exact vint_PutInt.mono _ _)
      | (with_reducible exact LeO.refl _)
      | (with_reducible exact LeO.none _)
      | (with_reducible refine LeO.ite ?_ ?_)
      | (with_reducible refine LeO.bind ?_ (fun _ => ?_))
      | exact ih0 _ _ _ _ _ _ _
      | exact ih1 _ _ _ _ _ _ _ _ _ _
      | exact arc_Check.mono _ _
      | exact vint_Put.mono _ _
      | exact vint_PutInt.mono _ _
      | exact LeO.none _
      | refine LeO.ite ?_ ?_
      | refine LeO.bind ?_ (fun _ => ?_)
theorem arc_Encode.mono : ∀ a0 k, LeO (arc_Encode.f k a0) (arc_Encode.f (k + 1) a0) := by
  intro a0 k
  obtain ⟨ih0, ih1⟩ := arc_Encode.mono_l k
  unfold arc_Encode.f
  repeat' first
      | (with_reducible exact ih0 _ _ _ _ _ _ _)
      | (with_reducible exact ih1 _ _ _ _ _ _ _ _ _ _)
      | (with_reducible exact arc_Check.mono _ _)
      | (with_reducible exact vint_Put.mono _ _)
      | (with_reducible exact vint_PutInt.mono _ _)
      | (with_reducible exact LeO.refl _)
      | (with_reducible exact LeO.none _)
      | (with_reducible refine LeO.ite ?_ ?_)
      | (with_reducible refine LeO.bind ?_ (fun _ => ?_))
      | exact ih0 _ _ _ _ _ _ _
      | exact ih1 _ _ _ _ _ _ _ _ _ _
      | exact arc_Check.mono _ _
      | exact vint_Put.mono _ _
      | exact vint_PutInt.mono _ _
      | exact LeO.none _
      | refine LeO.ite ?_ ?_
      | refine LeO.bind ?_ (fun _ => ?_)
set_option maxHeartbeats 8000000 in
set_option maxRecDepth 100000 in
theorem arc_Encode.calls (k : Nat) (A0 : Option Addr) (c0 : Nat) (l0 : List (List (S48))) (r1 : List Int) (r2 : Int) (w : World) (hr0 : Kd.C (Kd.slice 48 k48) w A0 l0.length l0) (hc0 : l0.length ≤ c0) (h : arc_Encode.f k l0 = some (r1, r2)) :
    Calls Try.prog 10 #[.slice A0 l0.length c0] w fun e w' => ∃ v0_ : Value, e = .returned (.tuple #[v0_, .int .i64 r2]) ∧ Kd.R (Kd.int .u8) 5 w' w.heap.size (fun _ => True) v0_ r1 ∧ Below w.heap.size w w' := by
  have hu48 := Try.underlying48
  have HR0 := Aside0.mk hr0
  have HC0 := Aside0.mk hc0
  clear hr0 hc0
  have HB := Aside0.mk (Below.refl w.heap.size w)
  have H : ((arc_Check.f k l0).bind fun t123 => (if t123 = 0 then ((vint_Put.f k (([IntKind.u64.wrap ((l0.length : Int))] : List Int))).bind fun t127 => (arc_Encode.l0 k t127 l0 (l0.length : Int) 0 0 0 0)) else (some (([] : List Int), t123)))) = some (r1, r2) := h
  clear h
  replace H := Option.bind_eq_some_iff.mp H
  obtain ⟨t123, A20, H⟩ := H
  replace H : (if t123 = 0 then ((vint_Put.f k (([IntKind.u64.wrap ((l0.length : Int))] : List Int))).bind fun t127 => (arc_Encode.l0 k t127 l0 (l0.length : Int) 0 0 0 0)) else (some (([] : List Int), t123))) = some (r1, r2) := H
  have A2 := Aside0.mk A20
  clear A20
  by_cases c3 : t123 = 0
  · rw [if_pos c3] at H
    have c3b0 : (t123 == 0) = true := beq_iff_eq.mpr c3
    have c3b1 : (t123 != 0) = false := bne_eq_false_iff_eq.mpr c3
    clear c3
    obtain ⟨y124, hy124⟩ : ∃ y_ : List Int, y_ = (([IntKind.u64.wrap ((l0.length : Int))] : List Int)) := ⟨_, rfl⟩
    replace H : ((vint_Put.f k y124).bind fun t127 => (arc_Encode.l0 k t127 l0 (l0.length : Int) 0 0 0 0)) = some (r1, r2) := by first | (rw [hy124]; with_reducible exact H) | (have H2_ := (Option.bind_some _ _).symm.trans H; rw [hy124]; with_reducible exact H2_) | (have H2_ := (Option.bind_some _ _).symm.trans H; with_reducible exact H2_) | with_reducible exact H | (rw [hy124]; exact H) | exact H
    have Ny124 := Aside0.mk hy124
    clear hy124
    replace H := Option.bind_eq_some_iff.mp H
    obtain ⟨t127, A40, H⟩ := H
    replace H : (arc_Encode.l0 k t127 l0 (l0.length : Int) 0 0 0 0) = some (r1, r2) := H
    have A4 := Aside0.mk A40
    clear A40
    have H' := Aside0.mk H
    clear H
    go_enter Try.func10, Try.ntmps10
    go_wp2_with (first | ((with_reducible refine gate_callee (f := 15) rfl ?_); refine goesL_ (some 12) rfl rfl Try.func15 (by kernel_rfl) rfl #[.slice A0 l0.length c0] rfl (by (try simp only [List.map_toArray, List.map_cons, List.map_nil]); first | done | rfl | (simp only [List.length_drop, List.length_take]; rfl)) ?_; (with_reducible refine (arc_Check.calls k _ _ l0 t123 _ ?side1 ?side2 A2.out).mono ?_); (case side1 => repeat (first | exact HR0.out | (with_reducible refine Kd.C_alloc ?_ _) | (with_reducible refine Kd.C_drewN ?_ _) | (with_reducible refine Kd.C_drew ?_))); (case side2 => exact HC0.out); rintro e w5 ⟨rfl, hb⟩; refine ⟨_, rfl, ?_⟩; have n0_ := Aside0.mk (below_step (by repeat (first | (with_reducible first | exact HB.out | apply below_alloc | apply pw_below_drewN | apply below_drew1) | exact HB.out)) hb); clear HB; have HB := n0_; clear n0_; (try clear hb); (try clear hb2); (try clear hk); (try clear hi)) | ((with_reducible refine gate_dst (N := 19) rfl ?_); refine Kd.R_lit (Kd.int .u64) _ 51 ?hg (N := 19) ?hd (xs := ([IntKind.u64.wrap ((l0.length : Int))] : List Int)) (inner := [.int .u64 (IntKind.u64.wrap ((l0.length : Int)))]) (ok := fun _ => True) (okp := fun _ => True) ?hr ?hp (fun _ hk => hk) trivial (Below.refl _ _) (Nat.le_refl _) (by simp) ?_; (case hd => rfl); (case hg => rfl); (case hr => first | (go_simp; done) | (go_simp; rfl)); (case hp => exact (Reps.one (show Kd.M (Kd.int .u64) _ _ _ (IntKind.u64.wrap ((l0.length : Int))) [.int .u64 (IntKind.u64.wrap ((l0.length : Int)))] from rfl) (Reps.none _ _))); intro v125 w6 ho7 hb hg_ hnew_; clear hg_ hnew_; (first | rw [← Ny124.out] at ho7 | (simp only [Int.reduceToNat] at ho7; rw [← Ny124.out] at ho7)); have n0_ := Aside0.mk (Kd.R_lower ho7 (below_size (by repeat (first | (with_reducible first | exact HB.out | apply below_alloc | apply pw_below_drewN | apply below_drew1) | exact HB.out)))); have n1_ := Aside0.mk (below_step (by repeat (first | (with_reducible first | exact HB.out | apply below_alloc | apply pw_below_drewN | apply below_drew1) | exact HB.out)) hb); clear HB; have HO126 := n0_; have HB := n1_; clear n0_ n1_; clear hb ho7; obtain ⟨Ao8, co8, eo8⟩ := Kd.R_slice HO126.out; subst eo8) | ((with_reducible refine gate_callee (f := 22) rfl ?_); refine goesL_ (some 20) rfl rfl Try.func22 (by kernel_rfl) rfl #[.slice Ao8 y124.length co8] rfl (by (try simp only [List.map_toArray, List.map_cons, List.map_nil]); first | done | rfl | (simp only [List.length_drop, List.length_take]; rfl)) ?_; (with_reducible refine (vint_Put.calls k _ _ y124 t127 _ ?side1 ?side2 A4.out).mono ?_); (case side1 => repeat (first | exact (Kd.R_reads' HO126.out).2.2 | (with_reducible refine Kd.C_alloc ?_ _) | (with_reducible refine Kd.C_drewN ?_ _) | (with_reducible refine Kd.C_drew ?_))); (case side2 => exact (Kd.R_reads' HO126.out).2.1); rintro e w9 ⟨v128, rfl, ho0, hb⟩; refine ⟨_, rfl, ?_⟩; have n0_ := Aside0.mk (Kd.R_below (by (with_reducible repeat (first | apply Kd.R_alloc | apply Kd.R_drewN | apply Kd.R_drew)); exact HO126.out) hb); have n1_ := Aside0.mk (Kd.R_lower ho0 (below_size (by repeat (first | (with_reducible first | exact HB.out | apply below_alloc | apply pw_below_drewN | apply below_drew1) | exact HB.out)))); have n2_ := Aside0.mk (below_step (by repeat (first | (with_reducible first | exact HB.out | apply below_alloc | apply pw_below_drewN | apply below_drew1) | exact HB.out)) hb); clear HO126; clear HB; have HO126 := n0_; have HO129 := n1_; have HB := n2_; clear n0_ n1_ n2_; (try clear hb); (try clear hb2); (try clear hk); (try clear hi); (try clear ho0)) | ((with_reducible refine gate_dst (N := 6) rfl ?_); refine box_event ?hg (N := 6) ?hd (cs := #[.int .i64 0, .int .i64 0, .int .i64 0]) (t := 48) ?hr ?_; (case hd => rfl); (case hg => rfl); (case hr => first | (go_simp; done) | (go_simp; rfl)); intro gb130 hg w10 hbox hb; have n0_ := Aside0.mk (Kd.R_below (by (with_reducible repeat (first | apply Kd.R_alloc | apply Kd.R_drewN | apply Kd.R_drew)); exact HO126.out) hb); have n1_ := Aside0.mk (Kd.R_below (by (with_reducible repeat (first | apply Kd.R_alloc | apply Kd.R_drewN | apply Kd.R_drew)); exact HO129.out) hb); have n2_ := Aside0.mk (below_step (by repeat (first | (with_reducible first | exact HB.out | apply below_alloc | apply pw_below_drewN | apply below_drew1) | exact HB.out)) hb); have n3_ := Aside0.mk (hbox); have n4_ := Aside0.mk ((by rw [hg]; exact (below_size (by repeat (first | (with_reducible first | exact HB.out | apply below_alloc | apply pw_below_drewN | apply below_drew1) | exact HB.out))) : w.heap.size ≤ gb130)); have n5_ := Aside0.mk ((by rw [hg]; exact (below_size (by repeat (first | (with_reducible first | exact HB.out | apply below_alloc | apply pw_below_drewN | apply below_drew1) | exact HB.out))) : w.heap.size ≤ gb130)); clear HO126; clear HO129; clear HB; have HO126 := n0_; have HO129 := n1_; have HB := n2_; have BK130 := n3_; have GW130 := n4_; have GE130 := n5_; clear n0_ n1_ n2_ n3_ n4_ n5_; clear hb hbox hg))
    go_loopg [5, 23] k (fun kq v5 v23 w' => ∃ (x5_1 : List Int) (x23_1 : Int) (x131000_1 : Int) (x131001_1 : Int) (x131002_1 : Int), v23 = .int .i64 x23_1 ∧ Aside0 (arc_Encode.l0 kq x5_1 l0 (l0.length : Int) x23_1 x131000_1 x131001_1 x131002_1 = some (r1, r2)) ∧ Aside0 (kq ≤ k) ∧ Aside0 (Kd.R (Kd.int .u8) 5 w' w.heap.size (fun _ => True) v5 x5_1) ∧ Aside0 (w'.heap[gb130]? = some (.cells #[.int .i64 x131000_1, .int .i64 x131001_1, .int .i64 x131002_1] 48 (0, 0))) ∧ Aside0 (Below w.heap.size w w'))
    case atStart => exact ⟨(t127), (0), (0), (0), (0), (by first | rfl | (simp; done) | (simp [*]; done)), H', ⟨Nat.le_refl _⟩, ⟨by (with_reducible repeat (first | apply Kd.R_alloc | apply Kd.R_drewN | apply Kd.R_drew)); exact HO129.out⟩, ⟨by (with_reducible repeat (first | refine blk_drewN ?_ _ | refine blk_drew ?_ | refine blk_alloc ?_ _)); exact BK130.out⟩, ⟨by repeat (first | (with_reducible first | exact HB.out | apply below_alloc | apply pw_below_drewN | apply below_drew1 | refine below_set ?_ GE130.out) | exact HB.out)⟩⟩
    case round =>
      clear H'
      try clear c1
      try clear c2
      try clear p2
      try clear c3
      try clear c3b0
      try clear c3b1
      try clear c10
      obtain ⟨x5_1, x23_1, x131000_1, x131001_1, x131002_1, rfl, HA, HK1, HO_5, BK130, HB⟩ := hrel
      cases gk with
      | zero => exact absurd HA.out (by simp [arc_Encode.l0])
      | succ k1 =>
        have H := HA.out
        clear HA
        simp only [arc_Encode.l0] at H
        by_cases c11 : x23_1 < (l0.length : Int)
        · rw [if_pos c11] at H
          have c11b0 : decide (x23_1 < (l0.length : Int)) = true := decide_eq_true c11
          clear c11
          by_cases c12 : 0 ≤ x23_1
          · rw [if_pos c12] at H
            have c12b0 : decide (0 ≤ x23_1) = true := decide_eq_true c12
            clear c12
            by_cases c13 : x23_1 < (l0.length : Int)
            · rw [if_pos c13] at H
              have c13b0 : decide (x23_1 < (l0.length : Int)) = true := decide_eq_true c13
              clear c13
              obtain ⟨y132, hy132⟩ : ∃ y_ : List Int, y_ = (([IntKind.u64.wrap (((rd_L2 l0 x23_1).length : Int))] : List Int)) := ⟨_, rfl⟩
              replace H : ((vint_Put.f k1 y132).bind fun t135 => (if x5_1.length + t135.length < 140737488355328 then (arc_Encode.l1 k1 (x5_1 ++ t135) l0 (l0.length : Int) x23_1 (rd_L2 l0 x23_1) ((rd_L2 l0 x23_1).length : Int) 0 x131000_1 x131001_1 x131002_1) else (none))) = some (r1, r2) := by first | (rw [hy132]; with_reducible exact H) | (have H2_ := (Option.bind_some _ _).symm.trans H; rw [hy132]; with_reducible exact H2_) | (have H2_ := (Option.bind_some _ _).symm.trans H; with_reducible exact H2_) | with_reducible exact H | (rw [hy132]; exact H) | exact H
              have Ny132 := Aside0.mk hy132
              clear hy132
              replace H := Option.bind_eq_some_iff.mp H
              obtain ⟨t135, A140, H⟩ := H
              replace H : (if x5_1.length + t135.length < 140737488355328 then (arc_Encode.l1 k1 (x5_1 ++ t135) l0 (l0.length : Int) x23_1 (rd_L2 l0 x23_1) ((rd_L2 l0 x23_1).length : Int) 0 x131000_1 x131001_1 x131002_1) else (none)) = some (r1, r2) := H
              have A14 := Aside0.mk A140
              clear A140
              by_cases c15 : x5_1.length + t135.length < 140737488355328
              · rw [if_pos c15] at H
                have LMc15 := Aside0.mk c15
                clear c15
                obtain ⟨y138, hy138⟩ : ∃ y_ : List Int, y_ = (x5_1 ++ t135) := ⟨_, rfl⟩
                replace H : (arc_Encode.l1 k1 y138 l0 (l0.length : Int) x23_1 (rd_L2 l0 x23_1) ((rd_L2 l0 x23_1).length : Int) 0 x131000_1 x131001_1 x131002_1) = some (r1, r2) := by first | (rw [hy138]; with_reducible exact H) | (have H2_ := (Option.bind_some _ _).symm.trans H; rw [hy138]; with_reducible exact H2_) | (have H2_ := (Option.bind_some _ _).symm.trans H; with_reducible exact H2_) | with_reducible exact H | (rw [hy138]; exact H) | exact H
                have Ny138 := Aside0.mk hy138
                clear hy138
                have H' := Aside0.mk H
                clear H
                have p131 : 0 ≤ (x23_1 : Int) := of_decide_eq_true (by first | (with_reducible assumption) | assumption)
                have q131 : x23_1 < (l0.length : Int) := of_decide_eq_true (by first | (with_reducible assumption) | assumption)
                obtain ⟨ad131, A131_0, c131_0, e131, hx131_0, hl131_0, hi131_0⟩ := at_L2 HR0.out x23_1 p131 q131
                cases e131
                replace hx131_0 := (HB.out.cell (World.block_lt_of_cell? w _ hx131_0)).trans hx131_0
                have HR131_0 := Aside0.mk hi131_0
                have HC131_0 := Aside0.mk hl131_0
                clear hi131_0 hl131_0
                replace p131 := eq_true p131
                replace q131 := eq_true q131
                go_wp2_with (first | ((with_reducible refine gate_dst (N := 31) rfl ?_); refine Kd.R_lit (Kd.int .u64) _ 51 ?hg (N := 31) ?hd (xs := ([IntKind.u64.wrap (((rd_L2 l0 x23_1).length : Int))] : List Int)) (inner := [.int .u64 (IntKind.u64.wrap (((rd_L2 l0 x23_1).length : Int)))]) (ok := fun _ => True) (okp := fun _ => True) ?hr ?hp (fun _ hk => hk) trivial (Below.refl _ _) (Nat.le_refl _) (by simp) ?_; (case hd => rfl); (case hg => rfl); (case hr => first | (go_simp; done) | (go_simp; rfl)); (case hp => exact (Reps.one (show Kd.M (Kd.int .u64) _ _ _ (IntKind.u64.wrap (((rd_L2 l0 x23_1).length : Int))) [.int .u64 (IntKind.u64.wrap (((rd_L2 l0 x23_1).length : Int)))] from rfl) (Reps.none _ _))); intro v133 w16 ho17 hb hg_ hnew_; clear hg_ hnew_; (first | rw [← Ny132.out] at ho17 | (simp only [Int.reduceToNat] at ho17; rw [← Ny132.out] at ho17)); have n0_ := Aside0.mk (Kd.R_below (by (with_reducible repeat (first | apply Kd.R_alloc | apply Kd.R_drewN | apply Kd.R_drew)); exact HO_5.out) hb); have n1_ := Aside0.mk (Kd.R_lower ho17 (below_size (by repeat (first | (with_reducible first | exact HB.out | apply below_alloc | apply pw_below_drewN | apply below_drew1 | refine below_set ?_ GE130.out) | exact HB.out)))); have n2_ := Aside0.mk (blk_below (g := gb130) (o := .cells #[.int .i64 x131000_1, .int .i64 x131001_1, .int .i64 x131002_1] 48 (0, 0)) (by (with_reducible repeat (first | refine blk_drewN ?_ _ | refine blk_drew ?_ | refine blk_alloc ?_ _)); exact BK130.out) hb); have n3_ := Aside0.mk (below_step (by repeat (first | (with_reducible first | exact HB.out | apply below_alloc | apply pw_below_drewN | apply below_drew1 | refine below_set ?_ GE130.out) | exact HB.out)) hb); clear HO_5; clear BK130; clear HB; have HO_5 := n0_; have HO134 := n1_; have BK130 := n2_; have HB := n3_; clear n0_ n1_ n2_ n3_; clear hb ho17; obtain ⟨Ao18, co18, eo18⟩ := Kd.R_slice HO134.out; subst eo18) | ((with_reducible refine gate_callee (f := 22) rfl ?_); refine goesL_ (some 32) rfl rfl Try.func22 (by kernel_rfl) rfl #[.slice Ao18 y132.length co18] rfl (by (try simp only [List.map_toArray, List.map_cons, List.map_nil]); first | done | rfl | (simp only [List.length_drop, List.length_take]; rfl)) ?_; (with_reducible refine (vint_Put.calls k1 _ _ y132 t135 _ ?side1 ?side2 A14.out).mono ?_); (case side1 => repeat (first | exact (Kd.R_reads' HO134.out).2.2 | (with_reducible refine Kd.C_alloc ?_ _) | (with_reducible refine Kd.C_drewN ?_ _) | (with_reducible refine Kd.C_drew ?_))); (case side2 => exact (Kd.R_reads' HO134.out).2.1); rintro e w19 ⟨v136, rfl, ho0, hb⟩; refine ⟨_, rfl, ?_⟩; have n0_ := Aside0.mk (Kd.R_elder' (by (with_reducible repeat (first | apply Kd.R_alloc | apply Kd.R_drewN | apply Kd.R_drew)); exact HO_5.out) (Kd.R_base ho0) hb); have n1_ := Aside0.mk (Kd.R_below (by (with_reducible repeat (first | apply Kd.R_alloc | apply Kd.R_drewN | apply Kd.R_drew)); exact HO134.out) hb); have n2_ := Aside0.mk (Kd.R_lower (Kd.R_new' ho0 (Kd.R_lt (by (with_reducible repeat (first | apply Kd.R_alloc | apply Kd.R_drewN | apply Kd.R_drew)); exact HO_5.out))) (below_size (by repeat (first | (with_reducible first | exact HB.out | apply below_alloc | apply pw_below_drewN | apply below_drew1 | refine below_set ?_ GE130.out) | exact HB.out)))); have n3_ := Aside0.mk (blk_below (g := gb130) (o := .cells #[.int .i64 x131000_1, .int .i64 x131001_1, .int .i64 x131002_1] 48 (0, 0)) (by (with_reducible repeat (first | refine blk_drewN ?_ _ | refine blk_drew ?_ | refine blk_alloc ?_ _)); exact BK130.out) hb); have n4_ := Aside0.mk (below_step (by repeat (first | (with_reducible first | exact HB.out | apply below_alloc | apply pw_below_drewN | apply below_drew1 | refine below_set ?_ GE130.out) | exact HB.out)) hb); clear HO_5; clear HO134; clear BK130; clear HB; have HO_5 := n0_; have HO134 := n1_; have HO137 := n2_; have BK130 := n3_; have HB := n4_; clear n0_ n1_ n2_ n3_ n4_; (try clear hb); (try clear hb2); (try clear hk); (try clear hi); (try clear ho0); obtain ⟨Ao21, co21, eo21⟩ := Kd.R_slice HO137.out; subst eo21) | ((with_reducible refine gate_builtin (b := .append) (xs := #[.tmp 27, .tmp 32]) rfl ?_); at_builtin; refine Kd.R_append_rows (Kd.int .u8) (w0 := w) w.heap.size rfl (.tmp 27) (.tmp 32) 23 5 (.int .u8 0) 1 rfl Try.underlying23 info5 rfl (by decide) (by omega) u5 x5_1 t135 _ _ _ (fun k_ => some k_ ≠ (.slice Ao21 t135.length co21 : Value).ownBlock) (fun _ => False) rfl rfl ?aO ?aR (fun _ _ h => h) (fun _ h => h.elim) ?aF ?aB ?aS ?aL ?_; (case aR => repeat (first | exact (Kd.R_reads' HO137.out).2.2 | (with_reducible refine Kd.C_alloc ?_ _) | (with_reducible refine Kd.C_drewN ?_ _) | (with_reducible refine Kd.C_drew ?_))); (case aB => exact (by repeat (first | (with_reducible first | exact HB.out | apply below_alloc | apply pw_below_drewN | apply below_drew1 | refine below_set ?_ GE130.out) | exact HB.out))); (case aF => exact (fun k_ hk => Kd.fresh' (Kd.R_lt (by (with_reducible repeat (first | apply Kd.R_alloc | apply Kd.R_drewN | apply Kd.R_drew)); exact HO137.out)) k_ hk)); (case aO => exact (by (with_reducible repeat (first | apply Kd.R_alloc | apply Kd.R_drewN | apply Kd.R_drew)); exact Kd.R_mono HO_5.out (fun _ hk => hk.2))); (case aS => exact (below_size (by repeat (first | (with_reducible first | exact HB.out | apply below_alloc | apply pw_below_drewN | apply below_drew1 | refine below_set ?_ GE130.out) | exact HB.out)))); (case aL => have := LMc15.out; omega); intro v139 w20 ho hb hg hat; rw [← Ny138.out] at ho; have n0_ := Aside0.mk (blk_grown (g := gb130) (o := .cells #[.int .i64 x131000_1, .int .i64 x131001_1, .int .i64 x131002_1] 48 (0, 0)) (by (with_reducible repeat (first | refine blk_drewN ?_ _ | refine blk_drew ?_ | refine blk_alloc ?_ _)); exact BK130.out) hg (Kd.R_ne HO_5.out BK130.out (by decide))); have n1_ := Aside0.mk (Kd.R_over' (by (with_reducible repeat (first | apply Kd.R_alloc | apply Kd.R_drewN | apply Kd.R_drew)); exact HO134.out) (Kd.R_typed (by (with_reducible repeat (first | apply Kd.R_alloc | apply Kd.R_drewN | apply Kd.R_drew)); exact HO_5.out)) (by decide) hg); have n2_ := Aside0.mk (Kd.R_after (ok := (fun _ => True)) (by (with_reducible repeat (first | apply Kd.R_alloc | apply Kd.R_drewN | apply Kd.R_drew)); exact HO137.out) hg hat); have n3_ := Aside0.mk (hb); have n4_ := Aside0.mk (ho); clear BK130; clear HO134; clear HO137; clear HB; clear HO_5; have BK130 := n0_; have HO134 := n1_; have HO137 := n2_; have HB := n3_; have HO140 := n4_; clear n0_ n1_ n2_ n3_ n4_; clear ho hb hg hat))
                go_loopg [5, 36] k1 (fun kq v5 v36 w' => ∃ (x5_2 : List Int) (x36_2 : Int) (x131000_2 : Int) (x131001_2 : Int) (x131002_2 : Int), v36 = .int .i64 x36_2 ∧ Aside0 (arc_Encode.l1 kq x5_2 l0 (l0.length : Int) x23_1 (rd_L2 l0 x23_1) ((rd_L2 l0 x23_1).length : Int) x36_2 x131000_2 x131001_2 x131002_2 = some (r1, r2)) ∧ Aside0 (kq ≤ k1) ∧ Aside0 (Kd.R (Kd.int .u8) 5 w' w.heap.size (fun _ => True) v5 x5_2) ∧ Aside0 (w'.heap[gb130]? = some (.cells #[.int .i64 x131000_2, .int .i64 x131001_2, .int .i64 x131002_2] 48 (0, 0))) ∧ Aside0 (Below w.heap.size w w'))
                case atStart => exact ⟨(y138), (0), (x131000_1), (x131001_1), (x131002_1), (by first | rfl | (simp; done) | (simp [*]; done)), H', ⟨Nat.le_refl _⟩, ⟨by (with_reducible repeat (first | apply Kd.R_alloc | apply Kd.R_drewN | apply Kd.R_drew)); exact Kd.R_mono HO140.out (fun _ hk => trivial)⟩, ⟨by (with_reducible repeat (first | refine blk_drewN ?_ _ | refine blk_drew ?_ | refine blk_alloc ?_ _)); exact BK130.out⟩, ⟨by repeat (first | (with_reducible first | exact HB.out | apply below_alloc | apply pw_below_drewN | apply below_drew1 | refine below_set ?_ GE130.out) | exact HB.out)⟩⟩
                case round =>
                  clear H'
                  try clear c1
                  try clear p1
                  try clear q1
                  try clear hx1
                  try clear c2
                  try clear p2
                  try clear c3
                  try clear c3b0
                  try clear c3b1
                  try clear c10
                  try clear c11
                  try clear c11b0
                  try clear c12
                  try clear c12b0
                  try clear c13
                  try clear c13b0
                  try clear p13
                  try clear q13
                  try clear hx13
                  try clear c15
                  try clear hx131_0
                  try clear p131
                  try clear p2
                  try clear q131
                  obtain ⟨x5_2, x36_2, x131000_2, x131001_2, x131002_2, rfl, HA, HK2, HO_5, BK130, HB⟩ := hrel
                  cases gk with
                  | zero => exact absurd HA.out (by simp [arc_Encode.l1])
                  | succ k2 =>
                    have H := HA.out
                    clear HA
                    simp only [arc_Encode.l1] at H
                    by_cases c22 : x36_2 < ((rd_L2 l0 x23_1).length : Int)
                    · rw [if_pos c22] at H
                      have c22b0 : decide (x36_2 < ((rd_L2 l0 x23_1).length : Int)) = true := decide_eq_true c22
                      clear c22
                      by_cases c23 : 0 ≤ x36_2
                      · rw [if_pos c23] at H
                        have c23b0 : decide (0 ≤ x36_2) = true := decide_eq_true c23
                        clear c23
                        by_cases c24 : x36_2 < ((rd_L2 l0 x23_1).length : Int)
                        · rw [if_pos c24] at H
                          have c24b0 : decide (x36_2 < ((rd_L2 l0 x23_1).length : Int)) = true := decide_eq_true c24
                          clear c24
                          replace H := Option.bind_eq_some_iff.mp H
                          obtain ⟨t143, A250, H⟩ := H
                          replace H : (if x5_2.length + t143.length < 140737488355328 then ((some (x5_2 ++ t143 : List Int)).bind fun y146 => ((vint_PutInt.f k2 (wrap64 (((rd_T48 (rd_L2 l0 x23_1) x36_2).f1) - x131001_2))).bind fun t149 => (if y146.length + t149.length < 140737488355328 then (arc_Encode.l1 k2 (y146 ++ t149) l0 (l0.length : Int) x23_1 (rd_L2 l0 x23_1) ((rd_L2 l0 x23_1).length : Int) (wrap64 (x36_2 + 1)) ((rd_T48 (rd_L2 l0 x23_1) x36_2).f0) ((rd_T48 (rd_L2 l0 x23_1) x36_2).f1) ((rd_T48 (rd_L2 l0 x23_1) x36_2).f2)) else (none)))) else (none)) = some (r1, r2) := H
                          have A25 := Aside0.mk A250
                          clear A250
                          by_cases c26 : x5_2.length + t143.length < 140737488355328
                          · rw [if_pos c26] at H
                            have LMc26 := Aside0.mk c26
                            clear c26
                            obtain ⟨y146, hy146⟩ : ∃ y_ : List Int, y_ = (x5_2 ++ t143) := ⟨_, rfl⟩
                            replace H : ((vint_PutInt.f k2 (wrap64 (((rd_T48 (rd_L2 l0 x23_1) x36_2).f1) - x131001_2))).bind fun t149 => (if y146.length + t149.length < 140737488355328 then (arc_Encode.l1 k2 (y146 ++ t149) l0 (l0.length : Int) x23_1 (rd_L2 l0 x23_1) ((rd_L2 l0 x23_1).length : Int) (wrap64 (x36_2 + 1)) ((rd_T48 (rd_L2 l0 x23_1) x36_2).f0) ((rd_T48 (rd_L2 l0 x23_1) x36_2).f1) ((rd_T48 (rd_L2 l0 x23_1) x36_2).f2)) else (none))) = some (r1, r2) := by first | (rw [hy146]; with_reducible exact H) | (have H2_ := (Option.bind_some _ _).symm.trans H; rw [hy146]; with_reducible exact H2_) | (have H2_ := (Option.bind_some _ _).symm.trans H; with_reducible exact H2_) | with_reducible exact H | (rw [hy146]; exact H) | exact H
                            have Ny146 := Aside0.mk hy146
                            clear hy146
                            replace H := Option.bind_eq_some_iff.mp H
                            obtain ⟨t149, A270, H⟩ := H
                            replace H : (if y146.length + t149.length < 140737488355328 then (arc_Encode.l1 k2 (y146 ++ t149) l0 (l0.length : Int) x23_1 (rd_L2 l0 x23_1) ((rd_L2 l0 x23_1).length : Int) (wrap64 (x36_2 + 1)) ((rd_T48 (rd_L2 l0 x23_1) x36_2).f0) ((rd_T48 (rd_L2 l0 x23_1) x36_2).f1) ((rd_T48 (rd_L2 l0 x23_1) x36_2).f2)) else (none)) = some (r1, r2) := H
                            have A27 := Aside0.mk A270
                            clear A270
                            by_cases c28 : y146.length + t149.length < 140737488355328
                            · rw [if_pos c28] at H
                              have LMc28 := Aside0.mk c28
                              clear c28
                              obtain ⟨y152, hy152⟩ : ∃ y_ : List Int, y_ = (y146 ++ t149) := ⟨_, rfl⟩
                              replace H : (arc_Encode.l1 k2 y152 l0 (l0.length : Int) x23_1 (rd_L2 l0 x23_1) ((rd_L2 l0 x23_1).length : Int) (wrap64 (x36_2 + 1)) ((rd_T48 (rd_L2 l0 x23_1) x36_2).f0) ((rd_T48 (rd_L2 l0 x23_1) x36_2).f1) ((rd_T48 (rd_L2 l0 x23_1) x36_2).f2)) = some (r1, r2) := by first | (rw [hy152]; with_reducible exact H) | (have H2_ := (Option.bind_some _ _).symm.trans H; rw [hy152]; with_reducible exact H2_) | (have H2_ := (Option.bind_some _ _).symm.trans H; with_reducible exact H2_) | with_reducible exact H | (rw [hy152]; exact H) | exact H
                              have Ny152 := Aside0.mk hy152
                              clear hy152
                              have H' := Aside0.mk H
                              clear H
                              have p141 : 0 ≤ (x36_2 : Int) := of_decide_eq_true (by first | (with_reducible assumption) | assumption)
                              have q141 : x36_2 < ((rd_L2 l0 x23_1).length : Int) := of_decide_eq_true (by first | (with_reducible assumption) | assumption)
                              obtain ⟨ad141, e141, hx141_0, hx141_1, hx141_2⟩ := at_T48 HR131_0.out x36_2 p141 q141
                              cases e141
                              replace hx141_0 := (HB.out.cell (World.block_lt_of_cell? w _ hx141_0)).trans hx141_0
                              replace hx141_1 := (HB.out.cell (World.block_lt_of_cell? w _ hx141_1)).trans hx141_1
                              replace hx141_2 := (HB.out.cell (World.block_lt_of_cell? w _ hx141_2)).trans hx141_2
                              replace p141 := eq_true p141
                              replace q141 := eq_true q141
                              go_wp2_with (first | ((with_reducible refine gate_dst (N := 10) rfl ?_); refine box_event ?hg (N := 10) ?hd (cs := #[.int .i64 0, .int .i64 0, .int .i64 0]) (t := 48) ?hr ?_; (case hd => rfl); (case hg => rfl); (case hr => first | (go_simp; done) | (go_simp; rfl)); intro gb142 hg w29 hbox hb; have n0_ := Aside0.mk (Kd.R_below (by (with_reducible repeat (first | apply Kd.R_alloc | apply Kd.R_drewN | apply Kd.R_drew)); exact HO_5.out) hb); have n1_ := Aside0.mk (blk_below (g := gb130) (o := .cells #[.int .i64 x131000_2, .int .i64 x131001_2, .int .i64 x131002_2] 48 (0, 0)) (by (with_reducible repeat (first | refine blk_drewN ?_ _ | refine blk_drew ?_ | refine blk_alloc ?_ _)); exact BK130.out) hb); have n2_ := Aside0.mk (below_step (by repeat (first | (with_reducible first | exact HB.out | apply below_alloc | apply pw_below_drewN | apply below_drew1 | refine below_set ?_ GE130.out) | exact HB.out)) hb); have n3_ := Aside0.mk (hbox); have n4_ := Aside0.mk ((by rw [hg]; exact (below_size (by repeat (first | (with_reducible first | exact HB.out | apply below_alloc | apply pw_below_drewN | apply below_drew1 | refine below_set ?_ GE130.out) | exact HB.out))) : w.heap.size ≤ gb142)); have n5_ := Aside0.mk ((by rw [hg]; exact (below_size (by repeat (first | (with_reducible first | exact HB.out | apply below_alloc | apply pw_below_drewN | apply below_drew1 | refine below_set ?_ GE130.out) | exact HB.out))) : w.heap.size ≤ gb142)); have n6_ := Aside0.mk ((by rw [hg]; exact Nat.ne_of_lt (blk_lt (g := gb130) (o := .cells #[.int .i64 x131000_2, .int .i64 x131001_2, .int .i64 x131002_2] 48 (0, 0)) (by (with_reducible repeat (first | refine blk_drewN ?_ _ | refine blk_drew ?_ | refine blk_alloc ?_ _)); exact BK130.out)) : gb130 ≠ gb142)); have n7_ := Aside0.mk ((by rw [hg]; exact Nat.ne_of_gt (blk_lt (g := gb130) (o := .cells #[.int .i64 x131000_2, .int .i64 x131001_2, .int .i64 x131002_2] 48 (0, 0)) (by (with_reducible repeat (first | refine blk_drewN ?_ _ | refine blk_drew ?_ | refine blk_alloc ?_ _)); exact BK130.out)) : gb142 ≠ gb130)); clear HO_5; clear BK130; clear HB; have HO_5 := n0_; have BK130 := n1_; have HB := n2_; have BK142 := n3_; have GW142 := n4_; have GE142 := n5_; have NB130_142 := n6_; have NB142_130 := n7_; clear n0_ n1_ n2_ n3_ n4_ n5_ n6_ n7_; clear hb hbox hg; have hnb30 := NB142_130.out; have hnc30 := NB130_142.out; have hcz31_0 : w29.cell? ⟨gb142, 0, none⟩ = some (.int .i64 0) := (blk_cell BK142.out 0).trans rfl; have hcz31_1 : w29.cell? ⟨gb142, 1, none⟩ = some (.int .i64 0) := (blk_cell BK142.out 1).trans rfl; have hcz31_2 : w29.cell? ⟨gb142, 2, none⟩ = some (.int .i64 0) := (blk_cell BK142.out 2).trans rfl; have hfz31_0 := blk_frozen BK142.out 0; have hfz31_1 := blk_frozen BK142.out 1; have hfz31_2 := blk_frozen BK142.out 2; have hcz32_0 : w29.cell? ⟨gb130, 0, none⟩ = some (.int .i64 x131000_2) := (blk_cell BK130.out 0).trans rfl; have hcz32_1 : w29.cell? ⟨gb130, 1, none⟩ = some (.int .i64 x131001_2) := (blk_cell BK130.out 1).trans rfl; have hcz32_2 : w29.cell? ⟨gb130, 2, none⟩ = some (.int .i64 x131002_2) := (blk_cell BK130.out 2).trans rfl; have hfz32_0 := blk_frozen BK130.out 0; have hfz32_1 := blk_frozen BK130.out 1; have hfz32_2 := blk_frozen BK130.out 2) | ((with_reducible refine gate_callee (f := 23) rfl ?_); refine goesL_ (some 46) rfl rfl Try.func23 (by kernel_rfl) rfl #[.int .i64 (wrap64 (((rd_T48 (rd_L2 l0 x23_1) x36_2).f0) - x131000_2))] rfl (by (try simp only [List.map_toArray, List.map_cons, List.map_nil]); first | done | rfl | (simp only [List.length_drop, List.length_take]; rfl)) ?_; (with_reducible refine (vint_PutInt.calls k2 (wrap64 (((rd_T48 (rd_L2 l0 x23_1) x36_2).f0) - x131000_2)) t143 _ A25.out).mono ?_); rintro e w33 ⟨v144, rfl, ho0, hb⟩; refine ⟨_, rfl, ?_⟩; have n0_ := Aside0.mk (Kd.R_elder' (by (with_reducible repeat (first | apply Kd.R_alloc | apply Kd.R_drewN | apply Kd.R_drew)); exact (Kd.R_mono (Kd.R_far (p := ⟨gb142, 2, none⟩) (Kd.R_far (p := ⟨gb142, 1, none⟩) (Kd.R_far (p := ⟨gb142, 0, none⟩) (Kd.R_types HO_5.out BK142.out (by decide)) (fun _ hk => hk.2) (.int .i64 ((rd_T48 (rd_L2 l0 x23_1) x36_2).f0))) (fun _ hk => hk.2) (.int .i64 ((rd_T48 (rd_L2 l0 x23_1) x36_2).f1))) (fun _ hk => hk.2) (.int .i64 ((rd_T48 (rd_L2 l0 x23_1) x36_2).f2))) (fun _ h_ => h_.1))) (Kd.R_base ho0) hb); have n1_ := Aside0.mk (Kd.R_lower (Kd.R_new' ho0 (Kd.R_lt (by (with_reducible repeat (first | apply Kd.R_alloc | apply Kd.R_drewN | apply Kd.R_drew)); exact (Kd.R_mono (Kd.R_far (p := ⟨gb142, 2, none⟩) (Kd.R_far (p := ⟨gb142, 1, none⟩) (Kd.R_far (p := ⟨gb142, 0, none⟩) (Kd.R_types HO_5.out BK142.out (by decide)) (fun _ hk => hk.2) (.int .i64 ((rd_T48 (rd_L2 l0 x23_1) x36_2).f0))) (fun _ hk => hk.2) (.int .i64 ((rd_T48 (rd_L2 l0 x23_1) x36_2).f1))) (fun _ hk => hk.2) (.int .i64 ((rd_T48 (rd_L2 l0 x23_1) x36_2).f2))) (fun _ h_ => h_.1))))) (below_size (by repeat (first | (with_reducible first | exact HB.out | apply below_alloc | apply pw_below_drewN | apply below_drew1 | refine below_set ?_ GE130.out | refine below_set ?_ GE142.out) | exact HB.out)))); have n2_ := Aside0.mk (blk_below (g := gb130) (o := .cells #[.int .i64 x131000_2, .int .i64 x131001_2, .int .i64 x131002_2] 48 (0, 0)) (by (with_reducible repeat (first | refine blk_drewN ?_ _ | refine blk_drew ?_ | refine blk_alloc ?_ _)); refine blk_far ?_ NB130_142.out _; (with_reducible repeat (first | refine blk_drewN ?_ _ | refine blk_drew ?_ | refine blk_alloc ?_ _)); refine blk_far ?_ NB130_142.out _; (with_reducible repeat (first | refine blk_drewN ?_ _ | refine blk_drew ?_ | refine blk_alloc ?_ _)); refine blk_far ?_ NB130_142.out _; (with_reducible repeat (first | refine blk_drewN ?_ _ | refine blk_drew ?_ | refine blk_alloc ?_ _)); exact BK130.out) hb); have n3_ := Aside0.mk (blk_below (g := gb142) (o := .cells #[.int .i64 ((rd_T48 (rd_L2 l0 x23_1) x36_2).f0), .int .i64 ((rd_T48 (rd_L2 l0 x23_1) x36_2).f1), .int .i64 ((rd_T48 (rd_L2 l0 x23_1) x36_2).f2)] 48 (0, 0)) (by (with_reducible repeat (first | refine blk_drewN ?_ _ | refine blk_drew ?_ | refine blk_alloc ?_ _)); refine blk_put (cs := #[.int .i64 ((rd_T48 (rd_L2 l0 x23_1) x36_2).f0), .int .i64 ((rd_T48 (rd_L2 l0 x23_1) x36_2).f1), .int .i64 0]) ?_ 2 _ rfl; (with_reducible repeat (first | refine blk_drewN ?_ _ | refine blk_drew ?_ | refine blk_alloc ?_ _)); refine blk_put (cs := #[.int .i64 ((rd_T48 (rd_L2 l0 x23_1) x36_2).f0), .int .i64 0, .int .i64 0]) ?_ 1 _ rfl; (with_reducible repeat (first | refine blk_drewN ?_ _ | refine blk_drew ?_ | refine blk_alloc ?_ _)); refine blk_put (cs := #[.int .i64 0, .int .i64 0, .int .i64 0]) ?_ 0 _ rfl; (with_reducible repeat (first | refine blk_drewN ?_ _ | refine blk_drew ?_ | refine blk_alloc ?_ _)); exact BK142.out) hb); have n4_ := Aside0.mk (below_step (by repeat (first | (with_reducible first | exact HB.out | apply below_alloc | apply pw_below_drewN | apply below_drew1 | refine below_set ?_ GE130.out | refine below_set ?_ GE142.out) | exact HB.out)) hb); clear HO_5; clear BK130; clear BK142; clear HB; have HO_5 := n0_; have HO145 := n1_; have BK130 := n2_; have BK142 := n3_; have HB := n4_; clear n0_ n1_ n2_ n3_ n4_; (try clear hb); (try clear hb2); (try clear hk); (try clear hi); (try clear ho0); obtain ⟨Ao35, co35, eo35⟩ := Kd.R_slice HO145.out; subst eo35) | ((with_reducible refine gate_builtin (b := .append) (xs := #[.tmp 40, .tmp 46]) rfl ?_); at_builtin; refine Kd.R_append_rows (Kd.int .u8) (w0 := w) w.heap.size rfl (.tmp 40) (.tmp 46) 23 5 (.int .u8 0) 1 rfl Try.underlying23 info5 rfl (by decide) (by omega) u5 x5_2 t143 _ _ _ (fun k_ => some k_ ≠ (.slice Ao35 t143.length co35 : Value).ownBlock) (fun _ => False) rfl rfl ?aO ?aR (fun _ _ h => h) (fun _ h => h.elim) ?aF ?aB ?aS ?aL ?_; (case aR => repeat (first | exact (Kd.R_reads' HO145.out).2.2 | (with_reducible refine Kd.C_alloc ?_ _) | (with_reducible refine Kd.C_drewN ?_ _) | (with_reducible refine Kd.C_drew ?_))); (case aB => exact (by repeat (first | (with_reducible first | exact HB.out | apply below_alloc | apply pw_below_drewN | apply below_drew1 | refine below_set ?_ GE130.out | refine below_set ?_ GE142.out) | exact HB.out))); (case aF => exact (fun k_ hk => Kd.fresh' (Kd.R_lt (by (with_reducible repeat (first | apply Kd.R_alloc | apply Kd.R_drewN | apply Kd.R_drew)); exact HO145.out)) k_ hk)); (case aO => exact (by (with_reducible repeat (first | apply Kd.R_alloc | apply Kd.R_drewN | apply Kd.R_drew)); exact Kd.R_mono HO_5.out (fun _ hk => hk.2))); (case aS => exact (below_size (by repeat (first | (with_reducible first | exact HB.out | apply below_alloc | apply pw_below_drewN | apply below_drew1 | refine below_set ?_ GE130.out | refine below_set ?_ GE142.out) | exact HB.out)))); (case aL => have := LMc26.out; omega); intro v147 w34 ho hb hg hat; rw [← Ny146.out] at ho; have n0_ := Aside0.mk (blk_grown (g := gb130) (o := .cells #[.int .i64 x131000_2, .int .i64 x131001_2, .int .i64 x131002_2] 48 (0, 0)) (by (with_reducible repeat (first | refine blk_drewN ?_ _ | refine blk_drew ?_ | refine blk_alloc ?_ _)); exact BK130.out) hg (Kd.R_ne HO_5.out BK130.out (by decide))); have n1_ := Aside0.mk (blk_grown (g := gb142) (o := .cells #[.int .i64 ((rd_T48 (rd_L2 l0 x23_1) x36_2).f0), .int .i64 ((rd_T48 (rd_L2 l0 x23_1) x36_2).f1), .int .i64 ((rd_T48 (rd_L2 l0 x23_1) x36_2).f2)] 48 (0, 0)) (by (with_reducible repeat (first | refine blk_drewN ?_ _ | refine blk_drew ?_ | refine blk_alloc ?_ _)); exact BK142.out) hg (Kd.R_ne HO_5.out BK142.out (by decide))); have n2_ := Aside0.mk (Kd.R_after (ok := (fun _ => True)) (by (with_reducible repeat (first | apply Kd.R_alloc | apply Kd.R_drewN | apply Kd.R_drew)); exact HO145.out) hg hat); have n3_ := Aside0.mk (hb); have n4_ := Aside0.mk (ho); clear BK130; clear BK142; clear HO145; clear HB; clear HO_5; have BK130 := n0_; have BK142 := n1_; have HO145 := n2_; have HB := n3_; have HO148 := n4_; clear n0_ n1_ n2_ n3_ n4_; clear ho hb hg hat; have hcz36_0 : w34.cell? ⟨gb142, 0, none⟩ = some (.int .i64 ((rd_T48 (rd_L2 l0 x23_1) x36_2).f0)) := (blk_cell BK142.out 0).trans rfl; have hcz36_1 : w34.cell? ⟨gb142, 1, none⟩ = some (.int .i64 ((rd_T48 (rd_L2 l0 x23_1) x36_2).f1)) := (blk_cell BK142.out 1).trans rfl; have hcz36_2 : w34.cell? ⟨gb142, 2, none⟩ = some (.int .i64 ((rd_T48 (rd_L2 l0 x23_1) x36_2).f2)) := (blk_cell BK142.out 2).trans rfl; have hfz36_0 := blk_frozen BK142.out 0; have hfz36_1 := blk_frozen BK142.out 1; have hfz36_2 := blk_frozen BK142.out 2; have hcz37_0 : w34.cell? ⟨gb130, 0, none⟩ = some (.int .i64 x131000_2) := (blk_cell BK130.out 0).trans rfl; have hcz37_1 : w34.cell? ⟨gb130, 1, none⟩ = some (.int .i64 x131001_2) := (blk_cell BK130.out 1).trans rfl; have hcz37_2 : w34.cell? ⟨gb130, 2, none⟩ = some (.int .i64 x131002_2) := (blk_cell BK130.out 2).trans rfl; have hfz37_0 := blk_frozen BK130.out 0; have hfz37_1 := blk_frozen BK130.out 1; have hfz37_2 := blk_frozen BK130.out 2) | ((with_reducible refine gate_callee (f := 23) rfl ?_); refine goesL_ (some 54) rfl rfl Try.func23 (by kernel_rfl) rfl #[.int .i64 (wrap64 (((rd_T48 (rd_L2 l0 x23_1) x36_2).f1) - x131001_2))] rfl (by (try simp only [List.map_toArray, List.map_cons, List.map_nil]); first | done | rfl | (simp only [List.length_drop, List.length_take]; rfl)) ?_; (with_reducible refine (vint_PutInt.calls k2 (wrap64 (((rd_T48 (rd_L2 l0 x23_1) x36_2).f1) - x131001_2)) t149 _ A27.out).mono ?_); rintro e w38 ⟨v150, rfl, ho0, hb⟩; refine ⟨_, rfl, ?_⟩; have n0_ := Aside0.mk (Kd.R_elder' (by (with_reducible repeat (first | apply Kd.R_alloc | apply Kd.R_drewN | apply Kd.R_drew)); exact HO145.out) (Kd.R_base ho0) hb); have n1_ := Aside0.mk (Kd.R_elder' (by (with_reducible repeat (first | apply Kd.R_alloc | apply Kd.R_drewN | apply Kd.R_drew)); exact HO148.out) (Kd.R_base ho0) hb); have n2_ := Aside0.mk (Kd.R_lower (Kd.R_new' (Kd.R_new' ho0 (Kd.R_lt (by (with_reducible repeat (first | apply Kd.R_alloc | apply Kd.R_drewN | apply Kd.R_drew)); exact HO145.out))) (Kd.R_lt (by (with_reducible repeat (first | apply Kd.R_alloc | apply Kd.R_drewN | apply Kd.R_drew)); exact HO148.out))) (below_size (by repeat (first | (with_reducible first | exact HB.out | apply below_alloc | apply pw_below_drewN | apply below_drew1 | refine below_set ?_ GE130.out | refine below_set ?_ GE142.out) | exact HB.out)))); have n3_ := Aside0.mk (blk_below (g := gb130) (o := .cells #[.int .i64 x131000_2, .int .i64 x131001_2, .int .i64 x131002_2] 48 (0, 0)) (by (with_reducible repeat (first | refine blk_drewN ?_ _ | refine blk_drew ?_ | refine blk_alloc ?_ _)); exact BK130.out) hb); have n4_ := Aside0.mk (blk_below (g := gb142) (o := .cells #[.int .i64 ((rd_T48 (rd_L2 l0 x23_1) x36_2).f0), .int .i64 ((rd_T48 (rd_L2 l0 x23_1) x36_2).f1), .int .i64 ((rd_T48 (rd_L2 l0 x23_1) x36_2).f2)] 48 (0, 0)) (by (with_reducible repeat (first | refine blk_drewN ?_ _ | refine blk_drew ?_ | refine blk_alloc ?_ _)); exact BK142.out) hb); have n5_ := Aside0.mk (below_step (by repeat (first | (with_reducible first | exact HB.out | apply below_alloc | apply pw_below_drewN | apply below_drew1 | refine below_set ?_ GE130.out | refine below_set ?_ GE142.out) | exact HB.out)) hb); clear HO145; clear HO148; clear BK130; clear BK142; clear HB; have HO145 := n0_; have HO148 := n1_; have HO151 := n2_; have BK130 := n3_; have BK142 := n4_; have HB := n5_; clear n0_ n1_ n2_ n3_ n4_ n5_; (try clear hb); (try clear hb2); (try clear hk); (try clear hi); (try clear ho0); obtain ⟨Ao40, co40, eo40⟩ := Kd.R_slice HO151.out; subst eo40) | ((with_reducible refine gate_builtin (b := .append) (xs := #[.tmp 48, .tmp 54]) rfl ?_); at_builtin; refine Kd.R_append_rows (Kd.int .u8) (w0 := w) w.heap.size rfl (.tmp 48) (.tmp 54) 23 5 (.int .u8 0) 1 rfl Try.underlying23 info5 rfl (by decide) (by omega) v147 y146 t149 _ _ _ (fun k_ => some k_ ≠ (.slice Ao35 t143.length co35 : Value).ownBlock ∧ some k_ ≠ (.slice Ao40 t149.length co40 : Value).ownBlock) (fun _ => False) rfl rfl ?aO ?aR (fun _ _ h => h) (fun _ h => h.elim) ?aF ?aB ?aS ?aL ?_; (case aR => repeat (first | exact (Kd.R_reads' HO151.out).2.2 | (with_reducible refine Kd.C_alloc ?_ _) | (with_reducible refine Kd.C_drewN ?_ _) | (with_reducible refine Kd.C_drew ?_))); (case aB => exact (by repeat (first | (with_reducible first | exact HB.out | apply below_alloc | apply pw_below_drewN | apply below_drew1 | refine below_set ?_ GE130.out | refine below_set ?_ GE142.out) | exact HB.out))); (case aF => exact (fun k_ hk => ⟨Kd.fresh' (Kd.R_lt (by (with_reducible repeat (first | apply Kd.R_alloc | apply Kd.R_drewN | apply Kd.R_drew)); exact HO145.out)) k_ hk, Kd.fresh' (Kd.R_lt (by (with_reducible repeat (first | apply Kd.R_alloc | apply Kd.R_drewN | apply Kd.R_drew)); exact HO151.out)) k_ hk⟩)); (case aO => exact (by (with_reducible repeat (first | apply Kd.R_alloc | apply Kd.R_drewN | apply Kd.R_drew)); exact HO148.out)); (case aS => exact (below_size (by repeat (first | (with_reducible first | exact HB.out | apply below_alloc | apply pw_below_drewN | apply below_drew1 | refine below_set ?_ GE130.out | refine below_set ?_ GE142.out) | exact HB.out)))); (case aL => have := LMc28.out; omega); intro v153 w39 ho hb hg hat; rw [← Ny152.out] at ho; have n0_ := Aside0.mk (blk_grown (g := gb130) (o := .cells #[.int .i64 x131000_2, .int .i64 x131001_2, .int .i64 x131002_2] 48 (0, 0)) (by (with_reducible repeat (first | refine blk_drewN ?_ _ | refine blk_drew ?_ | refine blk_alloc ?_ _)); exact BK130.out) hg (Kd.R_ne HO148.out BK130.out (by decide))); have n1_ := Aside0.mk (blk_grown (g := gb142) (o := .cells #[.int .i64 ((rd_T48 (rd_L2 l0 x23_1) x36_2).f0), .int .i64 ((rd_T48 (rd_L2 l0 x23_1) x36_2).f1), .int .i64 ((rd_T48 (rd_L2 l0 x23_1) x36_2).f2)] 48 (0, 0)) (by (with_reducible repeat (first | refine blk_drewN ?_ _ | refine blk_drew ?_ | refine blk_alloc ?_ _)); exact BK142.out) hg (Kd.R_ne HO148.out BK142.out (by decide))); have n2_ := Aside0.mk (Kd.R_after (ok := (fun k_ => some k_ ≠ (.slice Ao40 t149.length co40 : Value).ownBlock)) (by (with_reducible repeat (first | apply Kd.R_alloc | apply Kd.R_drewN | apply Kd.R_drew)); exact Kd.R_mono HO145.out (fun _ hk => ⟨hk.2, hk.1.2⟩)) hg hat); have n3_ := Aside0.mk (Kd.R_after (ok := (fun k_ => some k_ ≠ (.slice Ao35 t143.length co35 : Value).ownBlock)) (by (with_reducible repeat (first | apply Kd.R_alloc | apply Kd.R_drewN | apply Kd.R_drew)); exact Kd.R_mono HO151.out (fun _ hk => ⟨hk.1.2, hk.2⟩)) hg hat); have n4_ := Aside0.mk (hb); have n5_ := Aside0.mk (ho); clear BK130; clear BK142; clear HO145; clear HO151; clear HB; clear HO148; have BK130 := n0_; have BK142 := n1_; have HO145 := n2_; have HO151 := n3_; have HB := n4_; have HO154 := n5_; clear n0_ n1_ n2_ n3_ n4_ n5_; clear ho hb hg hat; have hcz41_0 : w39.cell? ⟨gb142, 0, none⟩ = some (.int .i64 ((rd_T48 (rd_L2 l0 x23_1) x36_2).f0)) := (blk_cell BK142.out 0).trans rfl; have hcz41_1 : w39.cell? ⟨gb142, 1, none⟩ = some (.int .i64 ((rd_T48 (rd_L2 l0 x23_1) x36_2).f1)) := (blk_cell BK142.out 1).trans rfl; have hcz41_2 : w39.cell? ⟨gb142, 2, none⟩ = some (.int .i64 ((rd_T48 (rd_L2 l0 x23_1) x36_2).f2)) := (blk_cell BK142.out 2).trans rfl; have hfz41_0 := blk_frozen BK142.out 0; have hfz41_1 := blk_frozen BK142.out 1; have hfz41_2 := blk_frozen BK142.out 2; have hcz42_0 : w39.cell? ⟨gb130, 0, none⟩ = some (.int .i64 x131000_2) := (blk_cell BK130.out 0).trans rfl; have hcz42_1 : w39.cell? ⟨gb130, 1, none⟩ = some (.int .i64 x131001_2) := (blk_cell BK130.out 1).trans rfl; have hcz42_2 : w39.cell? ⟨gb130, 2, none⟩ = some (.int .i64 x131002_2) := (blk_cell BK130.out 2).trans rfl; have hfz42_0 := blk_frozen BK130.out 0; have hfz42_1 := blk_frozen BK130.out 1; have hfz42_2 := blk_frozen BK130.out 2))
                              go_roundg k2
                              case measure => have := HK1.out; have := HK2.out; omega
                              case rel => exact ⟨(y152), (wrap64 (x36_2 + 1)), ((rd_T48 (rd_L2 l0 x23_1) x36_2).f0), ((rd_T48 (rd_L2 l0 x23_1) x36_2).f1), ((rd_T48 (rd_L2 l0 x23_1) x36_2).f2), (by first | rfl | (simp; done) | (simp [*]; done)), H', ⟨by have := HK1.out; have := HK2.out; omega⟩, ⟨by (with_reducible repeat (first | apply Kd.R_alloc | apply Kd.R_drewN | apply Kd.R_drew)); exact Kd.R_mono (Kd.R_far (p := ⟨gb130, 2, none⟩) (Kd.R_far (p := ⟨gb130, 1, none⟩) (Kd.R_far (p := ⟨gb130, 0, none⟩) (Kd.R_types HO154.out BK130.out (by decide)) (fun _ hk => hk.2) (.int .i64 ((rd_T48 (rd_L2 l0 x23_1) x36_2).f0))) (fun _ hk => hk.2) (.int .i64 ((rd_T48 (rd_L2 l0 x23_1) x36_2).f1))) (fun _ hk => hk.2) (.int .i64 ((rd_T48 (rd_L2 l0 x23_1) x36_2).f2))) (fun _ hk => trivial)⟩, ⟨by (with_reducible repeat (first | refine blk_drewN ?_ _ | refine blk_drew ?_ | refine blk_alloc ?_ _)); refine blk_put (cs := #[.int .i64 ((rd_T48 (rd_L2 l0 x23_1) x36_2).f0), .int .i64 ((rd_T48 (rd_L2 l0 x23_1) x36_2).f1), .int .i64 x131002_2]) ?_ 2 _ rfl; (with_reducible repeat (first | refine blk_drewN ?_ _ | refine blk_drew ?_ | refine blk_alloc ?_ _)); refine blk_put (cs := #[.int .i64 ((rd_T48 (rd_L2 l0 x23_1) x36_2).f0), .int .i64 x131001_2, .int .i64 x131002_2]) ?_ 1 _ rfl; (with_reducible repeat (first | refine blk_drewN ?_ _ | refine blk_drew ?_ | refine blk_alloc ?_ _)); refine blk_put (cs := #[.int .i64 x131000_2, .int .i64 x131001_2, .int .i64 x131002_2]) ?_ 0 _ rfl; (with_reducible repeat (first | refine blk_drewN ?_ _ | refine blk_drew ?_ | refine blk_alloc ?_ _)); exact BK130.out⟩, ⟨by repeat (first | (with_reducible first | exact HB.out | apply below_alloc | apply pw_below_drewN | apply below_drew1 | refine below_set ?_ GE130.out | refine below_set ?_ GE142.out) | exact HB.out)⟩⟩
                            · rw [if_neg c28] at H
                              exact absurd H (by simp)
                          · rw [if_neg c26] at H
                            exact absurd H (by simp)
                        · rw [if_neg c24] at H
                          exact absurd H (by simp)
                      · rw [if_neg c23] at H
                        exact absurd H (by simp)
                    · rw [if_neg c22] at H
                      have c22b0 : decide (x36_2 < ((rd_L2 l0 x23_1).length : Int)) = false := decide_eq_false c22
                      clear c22
                      have H' := Aside0.mk H
                      clear H
                      go_wp2
                      go_roundg k2
                      case measure => have := HK1.out; have := HK2.out; omega
                      case rel => exact ⟨(x5_2), (wrap64 (x23_1 + 1)), (x131000_2), (x131001_2), (x131002_2), (by first | rfl | (simp; done) | (simp [*]; done)), H', ⟨by have := HK1.out; have := HK2.out; omega⟩, ⟨by (with_reducible repeat (first | apply Kd.R_alloc | apply Kd.R_drewN | apply Kd.R_drew)); exact HO_5.out⟩, ⟨by (with_reducible repeat (first | refine blk_drewN ?_ _ | refine blk_drew ?_ | refine blk_alloc ?_ _)); exact BK130.out⟩, ⟨by repeat (first | (with_reducible first | exact HB.out | apply below_alloc | apply pw_below_drewN | apply below_drew1 | refine below_set ?_ GE130.out) | exact HB.out)⟩⟩
              · rw [if_neg c15] at H
                exact absurd H (by simp)
            · rw [if_neg c13] at H
              exact absurd H (by simp)
          · rw [if_neg c12] at H
            exact absurd H (by simp)
        · rw [if_neg c11] at H
          have c11b0 : decide (x23_1 < (l0.length : Int)) = false := decide_eq_false c11
          clear c11
          simp only [Option.some.injEq, Prod.mk.injEq] at H
          obtain ⟨rfl, rfl⟩ := H
          go_wp2
          go_ret2
          exact ⟨_, by first | rfl | (simp [errW_none, errW_some] <;> rfl) | (simp [*, errW_none, errW_some] <;> rfl), by (with_reducible repeat (first | apply Kd.R_alloc | apply Kd.R_drewN | apply Kd.R_drew)); exact HO_5.out, by repeat (first | (with_reducible first | exact HB.out | apply below_alloc | apply pw_below_drewN | apply below_drew1 | refine below_set ?_ GE130.out) | exact HB.out)⟩
  · rw [if_neg c3] at H
    have c3b0 : (t123 == 0) = false := beq_eq_false_iff_ne.mpr c3
    have c3b1 : (t123 != 0) = true := bne_iff_ne.mpr c3
    simp only [Option.some.injEq, Prod.mk.injEq] at H
    obtain ⟨rfl, rfl⟩ := H
    go_enter Try.func10, Try.ntmps10
    go_wp2_with (first | ((with_reducible refine gate_callee (f := 15) rfl ?_); refine goesL_ (some 12) rfl rfl Try.func15 (by kernel_rfl) rfl #[.slice A0 l0.length c0] rfl (by (try simp only [List.map_toArray, List.map_cons, List.map_nil]); first | done | rfl | (simp only [List.length_drop, List.length_take]; rfl)) ?_; (with_reducible refine (arc_Check.calls k _ _ l0 t123 _ ?side1 ?side2 A2.out).mono ?_); (case side1 => repeat (first | exact HR0.out | (with_reducible refine Kd.C_alloc ?_ _) | (with_reducible refine Kd.C_drewN ?_ _) | (with_reducible refine Kd.C_drew ?_))); (case side2 => exact HC0.out); rintro e w43 ⟨rfl, hb⟩; refine ⟨_, rfl, ?_⟩; have n0_ := Aside0.mk (below_step (by repeat (first | (with_reducible first | exact HB.out | apply below_alloc | apply pw_below_drewN | apply below_drew1) | exact HB.out)) hb); clear HB; have HB := n0_; clear n0_; (try clear hb); (try clear hb2); (try clear hk); (try clear hi)))
    go_ret2
    exact ⟨_, by first | rfl | (simp [errW_none, errW_some] <;> rfl) | (simp [*, errW_none, errW_some] <;> rfl), by first | exact Kd.R_nil _ _ _ _ _ | exact Kd.N_nil _ _ _ _ _ | exact Kd.V_nil _ _ _ _ _ | exact Kd.Q_nil _ _ _ _ _ | exact Kd.S_nil _ _ _ _ _, by repeat (first | (with_reducible first | exact HB.out | apply below_alloc | apply pw_below_drewN | apply below_drew1) | exact HB.out)⟩

end Go.Proofs.Ytmfeokapjmpjfaa.PArc
