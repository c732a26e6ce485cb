-- Written for this claim by a program of this session.
import Derived.Test.YthegimfokcdehaaWBk
import Derived.Test.YthegimfokcdehaaPCodx0
import Derived.Test.YthegimfokcdehaaPCodx1
import Derived.Test.YthegimfokcdehaaPCodx2
import Derived.Test.YthegimfokcdehaaPCodx2b
import Derived.Test.YthegimfokcdehaaPCodx3
import Derived.Test.YthegimfokcdehaaPCodx7c
import Derived.Test.YthegimfokcdehaaPCodx24
import Derived.Test.YthegimfokcdehaaEncStub
namespace Go.Proofs.Ythegimfokcdehaa.PCod
open Go.RowKit Go.Proofs.YthegimfokcdehaaW.PrintWords Go.Proofs.YthegimfokcdehaaW.PrintLast Go.Proofs.YthegimfokcdehaaW.PrintMore
attribute [local go_sem] max2_int min2_int max_two min_two max_three min_three max_four min_four   -- for this text's walks alone
set_option linter.unusedVariables false
set_option linter.unusedSimpArgs false

/-! ### lapidarylaw06_CoderBack: function 5 -/
mutual
def lapidarylaw06_CoderBack.j0 : Nat → List Int → List (S41) → Int → Int → Int → Bool → Option (Bool)
  | 0, _, _, _, _, _, _ => none
  | k + 1, x0, x1, x2, x3, x4, x32 => if x32 = true then ((lapidarylaw06_known.f k).bind fun t176 => (some t176)) else ((coder_Encode.f x0 x1).bind fun bt177 => (if bt177.2 = 0 then (lapidarylaw06_CoderBack.l0 k x0 x1 x2 x3 x4 bt177.1 ([] : List Int) 0) else (if (bt177.1.length : Int) = 0 then ((lapidarylaw06_known.f k).bind fun t181 => (some t181)) else (some false))))
def lapidarylaw06_CoderBack.l0 : Nat → List Int → List (S41) → Int → Int → Int → List Int → List Int → Int → Option (Bool)
  | 0, _, _, _, _, _, _, _, _ => none
  | k + 1, x0, x1, x2, x3, x4, x11, x13, x14 => if x14 < (x1.length : Int) then (if 0 ≤ x14 then (if x13.length < 17592186044416 then (lapidarylaw06_CoderBack.l0 k x0 x1 x2 x3 x4 x11 (x13 ++ [(rd_T41 x1 x14).f0]) (wrap64 (x14 + 1))) else (none)) else (none)) else (if (x11.length : Int) = 0 then (some false) else ((coder_Decode.f x0 x13 x11).bind fun bt186 => (if 0 ≤ (Int.tmod (wrap64 (x2)) (x11.length : Int)) then (if (Int.tmod (wrap64 (x2)) (x11.length : Int)) ≤ (x11.length : Int) then ((coder_Decode.f x0 x13 (x11.take ((Int.tmod (wrap64 (x2)) (x11.length : Int)) : Int).toNat)).bind fun bt194 => ((lapidaryref00_Copy.f x11).bind fun t198 => (if t198.length < 140737488355328 then ((coder_Decode.f x0 x13 (t198 ++ [x3])).bind fun bt204 => ((lapidaryref00_Copy.f x11).bind fun t208 => (if (t208.length : Int) = 0 then (none) else (if 0 ≤ (Int.tmod (wrap64 (x2)) (t208.length : Int)) then (if (Int.tmod (wrap64 (x2)) (t208.length : Int)) < (t208.length : Int) then ((coder_Decode.f x0 x13 (t208.set ((Int.tmod (wrap64 (x2)) (t208.length : Int)) : Int).toNat (Go.bits .xor .u8 (rd t208 (Int.tmod (wrap64 (x2)) (t208.length : Int))) x4))).bind fun bt213 => (if x4 = 0 then (if bt213.2 = 0 then (lapidarylaw06_CoderBack.j2 k x1 bt186.1 bt186.2 bt194.2 bt204.2 false) else (lapidarylaw06_CoderBack.j2 k x1 bt186.1 bt186.2 bt194.2 bt204.2 true)) else (if bt213.2 = 0 then ((lapidaryref06_Same.f k bt213.1 x1).bind fun t217 => (lapidarylaw06_CoderBack.j2 k x1 bt186.1 bt186.2 bt194.2 bt204.2 t217)) else (lapidarylaw06_CoderBack.j2 k x1 bt186.1 bt186.2 bt194.2 bt204.2 false)))) else (none)) else (none))))) else (none)))) else (none)) else (none))))
def lapidarylaw06_CoderBack.j2 : Nat → List (S41) → List (S41) → Int → Int → Int → Bool → Option (Bool)
  | 0, _, _, _, _, _, _ => none
  | k + 1, x1, x15, x16, x18, x21, x142 => if x142 = true then (some false) else (if x16 = 0 then ((lapidaryref06_Same.f k x15 x1).bind fun t218 => (if t218 = true then (if x18 = 11 then (if x21 = 11 then ((lapidarylaw06_known.f k).bind fun t219 => (some t219)) else (some false)) else (some false)) else (some false))) else (some false))
end
def lapidarylaw06_CoderBack.f (k : Nat) (l0 : List Int) (l1 : List (S41)) (a2 : Int) (a3 : Int) (a4 : Int) : Option (Bool) := if (l0.length : Int) > 20 then (lapidarylaw06_CoderBack.j0 k l0 l1 a2 a3 a4 true) else (lapidarylaw06_CoderBack.j0 k l0 l1 a2 a3 a4 (decide ((l1.length : Int) > 150)))
theorem lapidarylaw06_CoderBack.mono_l : ∀ k, (∀ y0 y1 y2 y3 y4 y5, LeO (lapidarylaw06_CoderBack.j0 k y0 y1 y2 y3 y4 y5) (lapidarylaw06_CoderBack.j0 (k + 1) y0 y1 y2 y3 y4 y5)) ∧ (∀ y0 y1 y2 y3 y4 y5 y6 y7, LeO (lapidarylaw06_CoderBack.l0 k y0 y1 y2 y3 y4 y5 y6 y7) (lapidarylaw06_CoderBack.l0 (k + 1) y0 y1 y2 y3 y4 y5 y6 y7)) ∧ (∀ y0 y1 y2 y3 y4 y5, LeO (lapidarylaw06_CoderBack.j2 k y0 y1 y2 y3 y4 y5) (lapidarylaw06_CoderBack.j2 (k + 1) y0 y1 y2 y3 y4 y5))
  | 0 => ⟨fun _ _ _ _ _ _ r h => by simp [lapidarylaw06_CoderBack.j0] at h, fun _ _ _ _ _ _ _ _ r h => by simp [lapidarylaw06_CoderBack.l0] at h, fun _ _ _ _ _ _ r h => by simp [lapidarylaw06_CoderBack.j2] at h⟩
  | k + 1 => by
    obtain ⟨ih0, ih1, ih2⟩ := lapidarylaw06_CoderBack.mono_l k
    refine ⟨?_, ?_, ?_⟩
    · intro y0 y1 y2 y3 y4 y5
      unfold lapidarylaw06_CoderBack.j0
      repeat' first
      | (with_reducible exact ih0 _ _ _ _ _ _)
      | (with_reducible exact ih1 _ _ _ _ _ _ _ _)
      | (with_reducible exact ih2 _ _ _ _ _ _)
      | (with_reducible exact lapidarylaw06_known.mono _)
      | (with_reducible exact lapidaryref06_Same.mono _ _ _)
      | (with_reducible exact LeO.refl _)
      | (with_reducible exact LeO.none _)
      | (with_reducible refine LeO.ite ?_ ?_)
      | (with_reducible refine LeO.bind ?_ (fun _ => ?_))
      | exact ih0 _ _ _ _ _ _
      | exact ih1 _ _ _ _ _ _ _ _
      | exact ih2 _ _ _ _ _ _
      | exact lapidarylaw06_known.mono _
      | exact lapidaryref06_Same.mono _ _ _
      | exact LeO.none _
      | refine LeO.ite ?_ ?_
      | refine LeO.bind ?_ (fun _ => ?_)
    · intro y0 y1 y2 y3 y4 y5 y6 y7
      unfold lapidarylaw06_CoderBack.l0
      repeat' first
      | (with_reducible exact ih0 _ _ _ _ _ _)
      | (with_reducible exact ih1 _ _ _ _ _ _ _ _)
      | (with_reducible exact ih2 _ _ _ _ _ _)
      | (with_reducible exact lapidarylaw06_known.mono _)
      | (with_reducible exact lapidaryref06_Same.mono _ _ _)
      | (with_reducible exact LeO.refl _)
      | (with_reducible exact LeO.none _)
      | (with_reducible refine LeO.ite ?_ ?_)
      | (with_reducible refine LeO.bind ?_ (fun _ => ?_))
      | exact ih0 _ _ _ _ _ _
      | exact ih1 _ _ _ _ _ _ _ _
      | exact ih2 _ _ _ _ _ _
      | exact lapidarylaw06_known.mono _
      | exact lapidaryref06_Same.mono _ _ _
      | exact LeO.none _
      | refine LeO.ite ?_ ?_
      | refine LeO.bind ?_ (fun _ => ?_)
    · intro y0 y1 y2 y3 y4 y5
      unfold lapidarylaw06_CoderBack.j2
      repeat' first
      | (with_reducible exact ih0 _ _ _ _ _ _)
      | (with_reducible exact ih1 _ _ _ _ _ _ _ _)
      | (with_reducible exact ih2 _ _ _ _ _ _)
      | (with_reducible exact lapidarylaw06_known.mono _)
      | (with_reducible exact lapidaryref06_Same.mono _ _ _)
      | (with_reducible exact LeO.refl _)
      | (with_reducible exact LeO.none _)
      | (with_reducible refine LeO.ite ?_ ?_)
      | (with_reducible refine LeO.bind ?_ (fun _ => ?_))
      | exact ih0 _ _ _ _ _ _
      | exact ih1 _ _ _ _ _ _ _ _
      | exact ih2 _ _ _ _ _ _
      | exact lapidarylaw06_known.mono _
      | exact lapidaryref06_Same.mono _ _ _
      | exact LeO.none _
      | refine LeO.ite ?_ ?_
      | refine LeO.bind ?_ (fun _ => ?_)
theorem lapidarylaw06_CoderBack.mono : ∀ a0 a1 a2 a3 a4 k, LeO (lapidarylaw06_CoderBack.f k a0 a1 a2 a3 a4) (lapidarylaw06_CoderBack.f (k + 1) a0 a1 a2 a3 a4) := by
  intro a0 a1 a2 a3 a4 k
  obtain ⟨ih0, ih1, ih2⟩ := lapidarylaw06_CoderBack.mono_l k
  unfold lapidarylaw06_CoderBack.f
  repeat' first
      | (with_reducible exact ih0 _ _ _ _ _ _)
      | (with_reducible exact ih1 _ _ _ _ _ _ _ _)
      | (with_reducible exact ih2 _ _ _ _ _ _)
      | (with_reducible exact lapidarylaw06_known.mono _)
      | (with_reducible exact lapidaryref06_Same.mono _ _ _)
      | (with_reducible exact LeO.refl _)
      | (with_reducible exact LeO.none _)
      | (with_reducible refine LeO.ite ?_ ?_)
      | (with_reducible refine LeO.bind ?_ (fun _ => ?_))
      | exact ih0 _ _ _ _ _ _
      | exact ih1 _ _ _ _ _ _ _ _
      | exact ih2 _ _ _ _ _ _
      | exact lapidarylaw06_known.mono _
      | exact lapidaryref06_Same.mono _ _ _
      | exact LeO.none _
      | refine LeO.ite ?_ ?_
      | refine LeO.bind ?_ (fun _ => ?_)
def lapidarylaw06_CoderBack.T19 : Bool × List (List Nat × List Nat) := (true, [([], []), ([], []), ([1], [1]), ([], []), ([3], [3]), ([2, 4], [2, 4]), ([], []), ([], []), ([7], [7]), ([], []), ([9], [9]), ([8, 10], [8, 10]), ([6, 11], [6, 11]), ([12], [12]), ([], []), ([13, 14], [13, 14]), ([0, 5, 0, 1, 2, 3, 4, 5, 6, 7, 8, 9, 10, 11, 12, 13, 14, 15], [0, 5]), ([16, 15, 0, 1, 2, 3, 4, 5, 6, 7, 8, 9, 10, 11, 12, 13, 14, 15], [15, 16])])
def lapidarylaw06_CoderBack.B19 : List Nat := [0, 0, 2, 0, 8, 30, 0, 0, 128, 0, 512, 1920, 4032, 8128, 0, 32704, 65535, 131071]
theorem lapidarylaw06_CoderBack.tab19 : rtab .any (opsOf Try.f5 19) = lapidarylaw06_CoderBack.T19 := by kernel_rfl
theorem lapidarylaw06_CoderBack.bits19 : waitsOk lapidarylaw06_CoderBack.T19.2 lapidarylaw06_CoderBack.B19 = true := by kernel_rfl
set_option maxHeartbeats 8000000 in
set_option maxRecDepth 100000 in
theorem lapidarylaw06_CoderBack.calls (k : Nat) (A0 : Option Addr) (c0 : Nat) (l0 : List Int) (A1 : Option Addr) (c1 : Nat) (l1 : List (S41)) (a2 : Int) (a3 : Int) (a4 : Int) (r : Bool) (w : World) (hr0 : Kd.C (Kd.int .i64) w A0 l0.length l0) (hc0 : l0.length ≤ c0) (hr1 : Kd.C k41 w A1 l1.length l1) (hc1 : l1.length ≤ c1) (h : lapidarylaw06_CoderBack.f k l0 l1 a2 a3 a4 = some r) :
    Calls Try.prog 5 #[.slice A0 l0.length c0, .slice A1 l1.length c1, .int .u16 a2, .int .u8 a3, .int .u8 a4] w fun e w' => e = .returned (.bool r) ∧ Below w.heap.size w w' := by
  have HR0 := Aside0.mk hr0
  have HC0 := Aside0.mk hc0
  clear hr0 hc0
  have HR1 := Aside0.mk hr1
  have HC1 := Aside0.mk hc1
  clear hr1 hc1
  have HB := Aside0.mk (Below.refl w.heap.size w)
  have H : (if (l0.length : Int) > 20 then (lapidarylaw06_CoderBack.j0 k l0 l1 a2 a3 a4 true) else (lapidarylaw06_CoderBack.j0 k l0 l1 a2 a3 a4 (decide ((l1.length : Int) > 150)))) = some r := h
  clear h
  have HC6 := Aside0.mk H
  clear H
  go_enter Try.func5, Try.ntmps5
  go_upto_region 1 with (fail)
  go_cut [32] (fun v32 wc => ∃ (kq : Nat) (x32_5 : Bool), v32 = .bool x32_5 ∧ Aside0 (lapidarylaw06_CoderBack.j0 kq l0 l1 a2 a3 a4 x32_5 = some r) ∧ Aside0 (kq ≤ k) ∧ Aside0 (Below w.heap.size w wc))
  case first =>
    have H := HC6.out
    clear HC6
    by_cases c7 : (l0.length : Int) > 20
    · rw [if_pos c7] at H
      have c7b0 : decide (20 < (l0.length : Int)) = true := decide_eq_true c7
      have c7b1 : decide (20 < l0.length) = true := decide_eq_true (by omega)
      clear c7
      (first | rw [c7b0] | (simp only [i64_w, i32_w]; rw [c7b0]) | skip)
      have H' := Aside0.mk H
      clear H
      go_wp2
      go_meet
      case rel => exact ⟨_, (true), (by first | rfl | (simp; done) | (simp [*]; done)), H', ⟨by first | omega | exact Nat.le_refl _⟩, ⟨by repeat (first | (with_reducible first | exact HB.out | apply below_alloc | apply pw_below_drewN | apply below_drew1) | exact HB.out)⟩⟩
    · rw [if_neg c7] at H
      have c7b0 : decide (20 < (l0.length : Int)) = false := decide_eq_false c7
      have c7b1 : decide (20 < l0.length) = false := decide_eq_false (by omega)
      clear c7
      (first | rw [c7b0] | (simp only [i64_w, i32_w]; rw [c7b0]) | skip)
      have H' := Aside0.mk H
      clear H
      go_wp2
      go_meet
      case rel => exact ⟨_, (decide ((l1.length : Int) > 150)), (by first | rfl | (simp; done) | (simp [*]; done)), H', ⟨by first | omega | exact Nat.le_refl _⟩, ⟨by repeat (first | (with_reducible first | exact HB.out | apply below_alloc | apply pw_below_drewN | apply below_drew1) | exact HB.out)⟩⟩
  case rest =>
    clear HC6
    try clear c1
    try clear p2
    try clear c5
    try clear c7
    try clear c7b0
    try clear c7b1
    obtain ⟨kq, x32_5, rfl, HA, HJ5, HB⟩ := hcut
    cases kq with
    | zero => exact absurd HA.out (by simp [lapidarylaw06_CoderBack.j0])
    | succ kj5 =>
      have H := HA.out
      clear HA
      simp only [lapidarylaw06_CoderBack.j0] at H
      by_cases c8 : x32_5 = true
      · subst c8
        have H1 : ((lapidarylaw06_known.f kj5).bind fun t176 => (some t176)) = some r := by rw [if_pos rfl] at H; exact H
        clear H
        have H := H1
        clear H1
        replace H := Option.bind_eq_some_iff.mp H
        obtain ⟨t176, A90, H⟩ := H
        replace H : (some t176) = some r := H
        have A9 := Aside0.mk A90
        clear A90
        obtain rfl := Option.some.inj H
        go_wp2_with (first | ((with_reducible refine gate_callee (f := 11) rfl ?_); refine goesL_ (some 33) rfl rfl Try.func11 (by kernel_rfl) rfl #[] rfl (by (try simp only [List.map_toArray, List.map_cons, List.map_nil]); first | done | rfl | (simp only [List.length_drop, List.length_take]; rfl)) ?_; (with_reducible refine (lapidarylaw06_known.calls kj5  t176 _ A9.out).mono ?_); rintro e w10 ⟨rfl, hb⟩; refine ⟨_, rfl, ?_⟩; have n0_ := Aside0.mk (below_step (by repeat (first | (with_reducible first | exact HB.out | apply below_alloc | apply pw_below_drewN | apply below_drew1) | exact HB.out)) hb); clear HB; have HB := n0_; clear n0_; (try clear hb); (try clear hb2); (try clear hk); (try clear hi)))
        go_ret
        exact ⟨by first | rfl | (simp [errW_none, errW_some] <;> rfl) | (simp [*, errW_none, errW_some] <;> rfl), by repeat (first | (with_reducible first | exact HB.out | apply below_alloc | apply pw_below_drewN | apply below_drew1) | exact HB.out)⟩
      · replace c8 := Bool.eq_false_iff.mpr c8
        subst c8
        have H1 : ((coder_Encode.f l0 l1).bind fun bt177 => (if bt177.2 = 0 then (lapidarylaw06_CoderBack.l0 kj5 l0 l1 a2 a3 a4 bt177.1 ([] : List Int) 0) else (if (bt177.1.length : Int) = 0 then ((lapidarylaw06_known.f kj5).bind fun t181 => (some t181)) else (some false)))) = some r := by rw [if_neg (show ¬ (false = true) by decide)] at H; exact H
        clear H
        have H := H1
        clear H1
        replace H := Option.bind_eq_some_iff.mp H
        obtain ⟨⟨t177, t178⟩, A110, H⟩ := H
        replace H : (if t178 = 0 then (lapidarylaw06_CoderBack.l0 kj5 l0 l1 a2 a3 a4 t177 ([] : List Int) 0) else (if (t177.length : Int) = 0 then ((lapidarylaw06_known.f kj5).bind fun t181 => (some t181)) else (some false))) = some r := H
        have A11 := Aside0.mk A110
        clear A110
        by_cases c12 : t178 = 0
        · rw [if_pos c12] at H
          have c12b0 : (t178 == 0) = true := beq_iff_eq.mpr c12
          have c12b1 : (t178 != 0) = false := bne_eq_false_iff_eq.mpr c12
          clear c12
          have H' := Aside0.mk H
          clear H
          go_wp2_with (first | ((with_reducible refine gate_callee (f := 12) rfl ?_); refine goesL_ (some 37) rfl rfl Try.func12 (by kernel_rfl) rfl #[.slice A0 l0.length c0, .slice A1 l1.length c1] rfl (by (try simp only [List.map_toArray, List.map_cons, List.map_nil]); first | done | rfl | (simp only [List.length_drop, List.length_take]; rfl)) ?_; (with_reducible refine (coder_Encode.calls _ _ l0 _ _ l1 t177 t178 _ ?side1 ?side2 ?side3 ?side4 A11.out).mono ?_); (case side1 => repeat (first | exact (Kd.C_below HR0.out HB.out) | (with_reducible refine Kd.C_alloc ?_ _) | (with_reducible refine Kd.C_drewN ?_ _) | (with_reducible refine Kd.C_drew ?_))); (case side2 => exact HC0.out); (case side3 => repeat (first | exact (Kd.C_below HR1.out HB.out) | (with_reducible refine Kd.C_alloc ?_ _) | (with_reducible refine Kd.C_drewN ?_ _) | (with_reducible refine Kd.C_drew ?_))); (case side4 => exact HC1.out); rintro e w13 ⟨v179, rfl, ho0, hb⟩; refine ⟨_, rfl, ?_⟩; have n0_ := Aside0.mk (Kd.R_lower ho0 (below_size (by repeat (first | (with_reducible first | exact HB.out | apply below_alloc | apply pw_below_drewN | apply below_drew1) | exact HB.out)))); have n1_ := Aside0.mk (below_step (by repeat (first | (with_reducible first | exact HB.out | apply below_alloc | apply pw_below_drewN | apply below_drew1) | exact HB.out)) hb); clear HB; have HO180 := n0_; have HB := n1_; clear n0_ n1_; (try clear hb); (try clear hb2); (try clear hk); (try clear hi); (try clear ho0)))
          go_loopg [13, 14] kj5 (fun kq v13 v14 w' => ∃ (x13_2 : List Int) (x14_2 : Int), v14 = .int .i64 x14_2 ∧ Aside0 (lapidarylaw06_CoderBack.l0 kq l0 l1 a2 a3 a4 t177 x13_2 x14_2 = some r) ∧ Aside0 (kq ≤ kj5) ∧ Aside0 (Kd.R (Kd.int .u8) 5 w' w.heap.size (fun _ => True) v179 t177) ∧ Aside0 (Kd.R (Kd.int .i64) 3 w' w.heap.size (fun _ => True) v13 x13_2) ∧ Aside0 (Below w.heap.size w w'))
          case atStart => exact ⟨(([] : List Int)), (0), (by first | rfl | (simp; done) | (simp [*]; done)), H', ⟨Nat.le_refl _⟩, ⟨by (with_reducible repeat (first | apply Kd.R_alloc | apply Kd.R_drewN | apply Kd.R_drew)); exact HO180.out⟩, ⟨by first | exact Kd.R_nil _ _ _ _ _ | exact Kd.N_nil _ _ _ _ _ | exact Kd.V_nil _ _ _ _ _ | exact Kd.Q_nil _ _ _ _ _ | exact Kd.S_nil _ _ _ _ _⟩, ⟨by repeat (first | (with_reducible first | exact HB.out | apply below_alloc | apply pw_below_drewN | apply below_drew1) | exact HB.out)⟩⟩
          case round =>
            clear H'
            try clear c1
            try clear p2
            try clear c5
            try clear c7
            try clear c7b0
            try clear c7b1
            try clear c8
            try clear c11
            try clear c12
            try clear c12b0
            try clear c12b1
            try clear p2
            obtain ⟨x13_2, x14_2, rfl, HA, HK2, HO_11, HO_13, HB⟩ := hrel
            cases gk with
            | zero => exact absurd HA.out (by simp [lapidarylaw06_CoderBack.l0])
            | succ k2 =>
              have H := HA.out
              clear HA
              simp only [lapidarylaw06_CoderBack.l0] at H
              by_cases c14 : x14_2 < (l1.length : Int)
              · rw [if_pos c14] at H
                have c14b0 : decide (x14_2 < (l1.length : Int)) = true := decide_eq_true c14
                clear c14
                by_cases c15 : 0 ≤ x14_2
                · rw [if_pos c15] at H
                  have c15b0 : decide (0 ≤ x14_2) = true := decide_eq_true c15
                  clear c15
                  by_cases c16 : x13_2.length < 17592186044416
                  · rw [if_pos c16] at H
                    have LMc16 := Aside0.mk c16
                    clear c16
                    obtain ⟨y183, hy183⟩ : ∃ y_ : List Int, y_ = (x13_2 ++ [(rd_T41 l1 x14_2).f0]) := ⟨_, rfl⟩
                    replace H : (lapidarylaw06_CoderBack.l0 k2 l0 l1 a2 a3 a4 t177 y183 (wrap64 (x14_2 + 1))) = some r := by first | (rw [hy183]; with_reducible exact H) | (have H2_ := (Option.bind_some _ _).symm.trans H; rw [hy183]; with_reducible exact H2_) | (have H2_ := (Option.bind_some _ _).symm.trans H; with_reducible exact H2_) | with_reducible exact H | (rw [hy183]; exact H) | exact H
                    have Ny183 := Aside0.mk hy183
                    clear hy183
                    have H' := Aside0.mk H
                    clear H
                    have p182 : 0 ≤ (x14_2 : Int) := of_decide_eq_true (by first | (with_reducible assumption) | assumption)
                    have q182 : x14_2 < (l1.length : Int) := of_decide_eq_true (by first | (with_reducible assumption) | assumption)
                    obtain ⟨ad182, e182, hx182_0, hx182_1⟩ := at_T41 HR1.out x14_2 p182 q182
                    cases e182
                    replace hx182_0 := (HB.out.cell (World.block_lt_of_cell? w _ hx182_0)).trans hx182_0
                    replace hx182_1 := (HB.out.cell (World.block_lt_of_cell? w _ hx182_1)).trans hx182_1
                    replace p182 := eq_true p182
                    replace q182 := eq_true q182
                    go_wp2_with (first | ((with_reducible refine gate_builtin (b := .append) (xs := #[.tmp 54, .tmp 60]) rfl ?_); (try (refine gate_guard (by rfl) ?_; dsimp only)); at_builtin; refine Kd.R_append (Kd.int .i64) (w0 := w) w.heap.size rfl (.tmp 54) (.tmp 60) 22 3 (.int .i64 0) 8 rfl Try.underlying22 info3 rfl (by decide) (by omega) u13 x13_2 ((rd_T41 l1 x14_2).f0) [.int .i64 ((rd_T41 l1 x14_2).f0)] (fun _ => True) (fun _ => False) rfl rfl ?aP (fun _ hk => hk.elim) ?aF ?aO ?aB ?aS ?aL ?_; (case aP => exact rfl); (case aB => exact (by repeat (first | (with_reducible first | exact HB.out | apply below_alloc | apply pw_below_drewN | apply below_drew1) | exact HB.out))); (case aF => exact (fun _ _ => trivial)); (case aO => exact (by (with_reducible repeat (first | apply Kd.R_alloc | apply Kd.R_drewN | apply Kd.R_drew)); exact HO_13.out)); (case aS => exact (below_size (by repeat (first | (with_reducible first | exact HB.out | apply below_alloc | apply pw_below_drewN | apply below_drew1) | exact HB.out)))); (case aL => have := LMc16.out; omega); intro v184 w17 ho hb hg hat; rw [← Ny183.out] at ho; have n0_ := Aside0.mk (Kd.R_over' (by (with_reducible repeat (first | apply Kd.R_alloc | apply Kd.R_drewN | apply Kd.R_drew)); exact HO_11.out) (Kd.R_typed (by (with_reducible repeat (first | apply Kd.R_alloc | apply Kd.R_drewN | apply Kd.R_drew)); exact HO_13.out)) (by decide) hg); have n1_ := Aside0.mk (hb); have n2_ := Aside0.mk (ho); clear HO_11; clear HB; clear HO_13; have HO_11 := n0_; have HB := n1_; have HO185 := n2_; clear n0_ n1_ n2_; clear ho hb hg hat))
                    go_roundg k2
                    case measure => have := HJ5.out; have := HK2.out; omega
                    case rel => exact ⟨(y183), (wrap64 (x14_2 + 1)), (by first | rfl | (simp; done) | (simp [*]; done)), H', ⟨by have := HJ5.out; have := HK2.out; omega⟩, ⟨by (with_reducible repeat (first | apply Kd.R_alloc | apply Kd.R_drewN | apply Kd.R_drew)); exact HO_11.out⟩, ⟨by (with_reducible repeat (first | apply Kd.R_alloc | apply Kd.R_drewN | apply Kd.R_drew)); exact HO185.out⟩, ⟨by repeat (first | (with_reducible first | exact HB.out | apply below_alloc | apply pw_below_drewN | apply below_drew1) | exact HB.out)⟩⟩
                  · rw [if_neg c16] at H
                    exact absurd H (by simp)
                · rw [if_neg c15] at H
                  exact absurd H (by simp)
              · rw [if_neg c14] at H
                have c14b0 : decide (x14_2 < (l1.length : Int)) = false := decide_eq_false c14
                clear c14
                by_cases c18 : (t177.length : Int) = 0
                · rw [if_pos c18] at H
                  have c18b0 : ((t177.length : Int) == 0) = true := beq_iff_eq.mpr c18
                  have c18b1 : ((t177.length : Int) != 0) = false := bne_eq_false_iff_eq.mpr c18
                  clear c18
                  obtain rfl := Option.some.inj H
                  obtain ⟨Ao19, co19, eo19⟩ := Kd.R_slice HO_11.out
                  subst eo19
                  go_wp2
                  go_ret
                  exact ⟨by first | rfl | (simp [errW_none, errW_some] <;> rfl) | (simp [*, errW_none, errW_some] <;> rfl), by repeat (first | (with_reducible first | exact HB.out | apply below_alloc | apply pw_below_drewN | apply below_drew1) | exact HB.out)⟩
                · rw [if_neg c18] at H
                  have c18b0 : ((t177.length : Int) == 0) = false := beq_eq_false_iff_ne.mpr c18
                  have c18b1 : ((t177.length : Int) != 0) = true := bne_iff_ne.mpr c18
                  have c18b2 : ¬ (t177 = []) := fun h_ => c18 (by rw [h_]; rfl)
                  replace H := Option.bind_eq_some_iff.mp H
                  obtain ⟨⟨t186, t187⟩, A200, H⟩ := H
                  replace H : (if 0 ≤ (Int.tmod (wrap64 (a2)) (t177.length : Int)) then (if (Int.tmod (wrap64 (a2)) (t177.length : Int)) ≤ (t177.length : Int) then ((coder_Decode.f l0 x13_2 (t177.take ((Int.tmod (wrap64 (a2)) (t177.length : Int)) : Int).toNat)).bind fun bt194 => ((lapidaryref00_Copy.f t177).bind fun t198 => (if t198.length < 140737488355328 then ((coder_Decode.f l0 x13_2 (t198 ++ [a3])).bind fun bt204 => ((lapidaryref00_Copy.f t177).bind fun t208 => (if (t208.length : Int) = 0 then (none) else (if 0 ≤ (Int.tmod (wrap64 (a2)) (t208.length : Int)) then (if (Int.tmod (wrap64 (a2)) (t208.length : Int)) < (t208.length : Int) then ((coder_Decode.f l0 x13_2 (t208.set ((Int.tmod (wrap64 (a2)) (t208.length : Int)) : Int).toNat (Go.bits .xor .u8 (rd t208 (Int.tmod (wrap64 (a2)) (t208.length : Int))) a4))).bind fun bt213 => (if a4 = 0 then (if bt213.2 = 0 then (lapidarylaw06_CoderBack.j2 k2 l1 t186 t187 bt194.2 bt204.2 false) else (lapidarylaw06_CoderBack.j2 k2 l1 t186 t187 bt194.2 bt204.2 true)) else (if bt213.2 = 0 then ((lapidaryref06_Same.f k2 bt213.1 l1).bind fun t217 => (lapidarylaw06_CoderBack.j2 k2 l1 t186 t187 bt194.2 bt204.2 t217)) else (lapidarylaw06_CoderBack.j2 k2 l1 t186 t187 bt194.2 bt204.2 false)))) else (none)) else (none))))) else (none)))) else (none)) else (none)) = some r := H
                  have A20 := Aside0.mk A200
                  clear A200
                  obtain ⟨ji21, hji21⟩ : ∃ j_ : Int, (Int.tmod (wrap64 (a2)) (t177.length : Int)) = j_ := ⟨_, rfl⟩
                  replace H : (if 0 ≤ (ji21) then (if (ji21) ≤ (t177.length : Int) then ((coder_Decode.f l0 x13_2 (t177.take ((ji21) : Int).toNat)).bind fun bt194 => ((lapidaryref00_Copy.f t177).bind fun t198 => (if t198.length < 140737488355328 then ((coder_Decode.f l0 x13_2 (t198 ++ [a3])).bind fun bt204 => ((lapidaryref00_Copy.f t177).bind fun t208 => (if (t208.length : Int) = 0 then (none) else (if 0 ≤ (Int.tmod (wrap64 (a2)) (t208.length : Int)) then (if (Int.tmod (wrap64 (a2)) (t208.length : Int)) < (t208.length : Int) then ((coder_Decode.f l0 x13_2 (t208.set ((Int.tmod (wrap64 (a2)) (t208.length : Int)) : Int).toNat (Go.bits .xor .u8 (rd t208 (Int.tmod (wrap64 (a2)) (t208.length : Int))) a4))).bind fun bt213 => (if a4 = 0 then (if bt213.2 = 0 then (lapidarylaw06_CoderBack.j2 k2 l1 t186 t187 bt194.2 bt204.2 false) else (lapidarylaw06_CoderBack.j2 k2 l1 t186 t187 bt194.2 bt204.2 true)) else (if bt213.2 = 0 then ((lapidaryref06_Same.f k2 bt213.1 l1).bind fun t217 => (lapidarylaw06_CoderBack.j2 k2 l1 t186 t187 bt194.2 bt204.2 t217)) else (lapidarylaw06_CoderBack.j2 k2 l1 t186 t187 bt194.2 bt204.2 false)))) else (none)) else (none))))) else (none)))) else (none)) else (none)) = some r := by first | (rw [hji21] at H; exact H) | (simp only [hji21] at H ⊢; exact H)
                  (try rw [hji21] at A20)
                  by_cases c22 : 0 ≤ (ji21)
                  · rw [if_pos c22] at H
                    have c22b0 := eq_true c22
                    have c22b1 : decide (0 ≤ (ji21)) = true := decide_eq_true c22
                    clear c22
                    by_cases c23 : (ji21) ≤ (t177.length : Int)
                    · rw [if_pos c23] at H
                      have c23b0 := eq_true c23
                      have c23b1 : decide ((ji21) ≤ (t177.length : Int)) = true := decide_eq_true c23
                      clear c23
                      obtain ⟨y190, hy190⟩ : ∃ y_ : List Int, y_ = (t177.take ((ji21) : Int).toNat) := ⟨_, rfl⟩
                      replace H : ((coder_Decode.f l0 x13_2 y190).bind fun bt194 => ((lapidaryref00_Copy.f t177).bind fun t198 => (if t198.length < 140737488355328 then ((coder_Decode.f l0 x13_2 (t198 ++ [a3])).bind fun bt204 => ((lapidaryref00_Copy.f t177).bind fun t208 => (if (t208.length : Int) = 0 then (none) else (if 0 ≤ (Int.tmod (wrap64 (a2)) (t208.length : Int)) then (if (Int.tmod (wrap64 (a2)) (t208.length : Int)) < (t208.length : Int) then ((coder_Decode.f l0 x13_2 (t208.set ((Int.tmod (wrap64 (a2)) (t208.length : Int)) : Int).toNat (Go.bits .xor .u8 (rd t208 (Int.tmod (wrap64 (a2)) (t208.length : Int))) a4))).bind fun bt213 => (if a4 = 0 then (if bt213.2 = 0 then (lapidarylaw06_CoderBack.j2 k2 l1 t186 t187 bt194.2 bt204.2 false) else (lapidarylaw06_CoderBack.j2 k2 l1 t186 t187 bt194.2 bt204.2 true)) else (if bt213.2 = 0 then ((lapidaryref06_Same.f k2 bt213.1 l1).bind fun t217 => (lapidarylaw06_CoderBack.j2 k2 l1 t186 t187 bt194.2 bt204.2 t217)) else (lapidarylaw06_CoderBack.j2 k2 l1 t186 t187 bt194.2 bt204.2 false)))) else (none)) else (none))))) else (none)))) = some r := by first | (rw [hy190]; with_reducible exact H) | (have H2_ := (Option.bind_some _ _).symm.trans H; rw [hy190]; with_reducible exact H2_) | (have H2_ := (Option.bind_some _ _).symm.trans H; with_reducible exact H2_) | with_reducible exact H | (rw [hy190]; exact H) | exact H
                      have Ny190 := Aside0.mk hy190
                      clear hy190
                      replace H := Option.bind_eq_some_iff.mp H
                      obtain ⟨⟨t194, t195⟩, A240, H⟩ := H
                      replace H : ((lapidaryref00_Copy.f t177).bind fun t198 => (if t198.length < 140737488355328 then ((coder_Decode.f l0 x13_2 (t198 ++ [a3])).bind fun bt204 => ((lapidaryref00_Copy.f t177).bind fun t208 => (if (t208.length : Int) = 0 then (none) else (if 0 ≤ (Int.tmod (wrap64 (a2)) (t208.length : Int)) then (if (Int.tmod (wrap64 (a2)) (t208.length : Int)) < (t208.length : Int) then ((coder_Decode.f l0 x13_2 (t208.set ((Int.tmod (wrap64 (a2)) (t208.length : Int)) : Int).toNat (Go.bits .xor .u8 (rd t208 (Int.tmod (wrap64 (a2)) (t208.length : Int))) a4))).bind fun bt213 => (if a4 = 0 then (if bt213.2 = 0 then (lapidarylaw06_CoderBack.j2 k2 l1 t186 t187 t195 bt204.2 false) else (lapidarylaw06_CoderBack.j2 k2 l1 t186 t187 t195 bt204.2 true)) else (if bt213.2 = 0 then ((lapidaryref06_Same.f k2 bt213.1 l1).bind fun t217 => (lapidarylaw06_CoderBack.j2 k2 l1 t186 t187 t195 bt204.2 t217)) else (lapidarylaw06_CoderBack.j2 k2 l1 t186 t187 t195 bt204.2 false)))) else (none)) else (none))))) else (none))) = some r := H
                      have A24 := Aside0.mk A240
                      clear A240
                      replace H := Option.bind_eq_some_iff.mp H
                      obtain ⟨t198, A250, H⟩ := H
                      replace H : (if t198.length < 140737488355328 then ((coder_Decode.f l0 x13_2 (t198 ++ [a3])).bind fun bt204 => ((lapidaryref00_Copy.f t177).bind fun t208 => (if (t208.length : Int) = 0 then (none) else (if 0 ≤ (Int.tmod (wrap64 (a2)) (t208.length : Int)) then (if (Int.tmod (wrap64 (a2)) (t208.length : Int)) < (t208.length : Int) then ((coder_Decode.f l0 x13_2 (t208.set ((Int.tmod (wrap64 (a2)) (t208.length : Int)) : Int).toNat (Go.bits .xor .u8 (rd t208 (Int.tmod (wrap64 (a2)) (t208.length : Int))) a4))).bind fun bt213 => (if a4 = 0 then (if bt213.2 = 0 then (lapidarylaw06_CoderBack.j2 k2 l1 t186 t187 t195 bt204.2 false) else (lapidarylaw06_CoderBack.j2 k2 l1 t186 t187 t195 bt204.2 true)) else (if bt213.2 = 0 then ((lapidaryref06_Same.f k2 bt213.1 l1).bind fun t217 => (lapidarylaw06_CoderBack.j2 k2 l1 t186 t187 t195 bt204.2 t217)) else (lapidarylaw06_CoderBack.j2 k2 l1 t186 t187 t195 bt204.2 false)))) else (none)) else (none))))) else (none)) = some r := H
                      have A25 := Aside0.mk A250
                      clear A250
                      by_cases c26 : t198.length < 140737488355328
                      · rw [if_pos c26] at H
                        have LMc26 := Aside0.mk c26
                        clear c26
                        obtain ⟨y201, hy201⟩ : ∃ y_ : List Int, y_ = (t198 ++ [a3]) := ⟨_, rfl⟩
                        replace H : ((coder_Decode.f l0 x13_2 y201).bind fun bt204 => ((lapidaryref00_Copy.f t177).bind fun t208 => (if (t208.length : Int) = 0 then (none) else (if 0 ≤ (Int.tmod (wrap64 (a2)) (t208.length : Int)) then (if (Int.tmod (wrap64 (a2)) (t208.length : Int)) < (t208.length : Int) then ((coder_Decode.f l0 x13_2 (t208.set ((Int.tmod (wrap64 (a2)) (t208.length : Int)) : Int).toNat (Go.bits .xor .u8 (rd t208 (Int.tmod (wrap64 (a2)) (t208.length : Int))) a4))).bind fun bt213 => (if a4 = 0 then (if bt213.2 = 0 then (lapidarylaw06_CoderBack.j2 k2 l1 t186 t187 t195 bt204.2 false) else (lapidarylaw06_CoderBack.j2 k2 l1 t186 t187 t195 bt204.2 true)) else (if bt213.2 = 0 then ((lapidaryref06_Same.f k2 bt213.1 l1).bind fun t217 => (lapidarylaw06_CoderBack.j2 k2 l1 t186 t187 t195 bt204.2 t217)) else (lapidarylaw06_CoderBack.j2 k2 l1 t186 t187 t195 bt204.2 false)))) else (none)) else (none))))) = some r := by first | (rw [hy201]; with_reducible exact H) | (have H2_ := (Option.bind_some _ _).symm.trans H; rw [hy201]; with_reducible exact H2_) | (have H2_ := (Option.bind_some _ _).symm.trans H; with_reducible exact H2_) | with_reducible exact H | (rw [hy201]; exact H) | exact H
                        have Ny201 := Aside0.mk hy201
                        clear hy201
                        replace H := Option.bind_eq_some_iff.mp H
                        obtain ⟨⟨t204, t205⟩, A270, H⟩ := H
                        replace H : ((lapidaryref00_Copy.f t177).bind fun t208 => (if (t208.length : Int) = 0 then (none) else (if 0 ≤ (Int.tmod (wrap64 (a2)) (t208.length : Int)) then (if (Int.tmod (wrap64 (a2)) (t208.length : Int)) < (t208.length : Int) then ((coder_Decode.f l0 x13_2 (t208.set ((Int.tmod (wrap64 (a2)) (t208.length : Int)) : Int).toNat (Go.bits .xor .u8 (rd t208 (Int.tmod (wrap64 (a2)) (t208.length : Int))) a4))).bind fun bt213 => (if a4 = 0 then (if bt213.2 = 0 then (lapidarylaw06_CoderBack.j2 k2 l1 t186 t187 t195 t205 false) else (lapidarylaw06_CoderBack.j2 k2 l1 t186 t187 t195 t205 true)) else (if bt213.2 = 0 then ((lapidaryref06_Same.f k2 bt213.1 l1).bind fun t217 => (lapidarylaw06_CoderBack.j2 k2 l1 t186 t187 t195 t205 t217)) else (lapidarylaw06_CoderBack.j2 k2 l1 t186 t187 t195 t205 false)))) else (none)) else (none)))) = some r := H
                        have A27 := Aside0.mk A270
                        clear A270
                        replace H := Option.bind_eq_some_iff.mp H
                        obtain ⟨t208, A280, H⟩ := H
                        replace H : (if (t208.length : Int) = 0 then (none) else (if 0 ≤ (Int.tmod (wrap64 (a2)) (t208.length : Int)) then (if (Int.tmod (wrap64 (a2)) (t208.length : Int)) < (t208.length : Int) then ((coder_Decode.f l0 x13_2 (t208.set ((Int.tmod (wrap64 (a2)) (t208.length : Int)) : Int).toNat (Go.bits .xor .u8 (rd t208 (Int.tmod (wrap64 (a2)) (t208.length : Int))) a4))).bind fun bt213 => (if a4 = 0 then (if bt213.2 = 0 then (lapidarylaw06_CoderBack.j2 k2 l1 t186 t187 t195 t205 false) else (lapidarylaw06_CoderBack.j2 k2 l1 t186 t187 t195 t205 true)) else (if bt213.2 = 0 then ((lapidaryref06_Same.f k2 bt213.1 l1).bind fun t217 => (lapidarylaw06_CoderBack.j2 k2 l1 t186 t187 t195 t205 t217)) else (lapidarylaw06_CoderBack.j2 k2 l1 t186 t187 t195 t205 false)))) else (none)) else (none))) = some r := H
                        have A28 := Aside0.mk A280
                        clear A280
                        by_cases c29 : (t208.length : Int) = 0
                        · rw [if_pos c29] at H
                          exact absurd H (by simp)
                        · rw [if_neg c29] at H
                          have c29b0 : ((t208.length : Int) == 0) = false := beq_eq_false_iff_ne.mpr c29
                          have c29b1 : ((t208.length : Int) != 0) = true := bne_iff_ne.mpr c29
                          have c29b2 : ¬ (t208 = []) := fun h_ => c29 (by rw [h_]; rfl)
                          obtain ⟨ji30, hji30⟩ : ∃ j_ : Int, (Int.tmod (wrap64 (a2)) (t208.length : Int)) = j_ := ⟨_, rfl⟩
                          replace H : (if 0 ≤ (ji30) then (if (ji30) < (t208.length : Int) then ((coder_Decode.f l0 x13_2 (t208.set ((ji30) : Int).toNat (Go.bits .xor .u8 (rd t208 (ji30)) a4))).bind fun bt213 => (if a4 = 0 then (if bt213.2 = 0 then (lapidarylaw06_CoderBack.j2 k2 l1 t186 t187 t195 t205 false) else (lapidarylaw06_CoderBack.j2 k2 l1 t186 t187 t195 t205 true)) else (if bt213.2 = 0 then ((lapidaryref06_Same.f k2 bt213.1 l1).bind fun t217 => (lapidarylaw06_CoderBack.j2 k2 l1 t186 t187 t195 t205 t217)) else (lapidarylaw06_CoderBack.j2 k2 l1 t186 t187 t195 t205 false)))) else (none)) else (none)) = some r := by first | (rw [hji30] at H; exact H) | (simp only [hji30] at H ⊢; exact H)
                          (try rw [hji30] at A20)
                          (try rw [hji30] at A24)
                          (try rw [hji30] at A25)
                          (try rw [hji30] at A27)
                          (try rw [hji30] at A28)
                          by_cases c31 : 0 ≤ (ji30)
                          · rw [if_pos c31] at H
                            have c31b0 : decide (0 ≤ (ji30)) = true := decide_eq_true c31
                            clear c31
                            by_cases c32 : (ji30) < (t208.length : Int)
                            · rw [if_pos c32] at H
                              have c32b0 : decide ((ji30) < (t208.length : Int)) = true := decide_eq_true c32
                              clear c32
                              obtain ⟨y212, hy212⟩ : ∃ y_ : List Int, y_ = (t208.set ((ji30) : Int).toNat (Go.bits .xor .u8 (rd t208 (ji30)) a4)) := ⟨_, rfl⟩
                              replace H : ((coder_Decode.f l0 x13_2 y212).bind fun bt213 => (if a4 = 0 then (if bt213.2 = 0 then (lapidarylaw06_CoderBack.j2 k2 l1 t186 t187 t195 t205 false) else (lapidarylaw06_CoderBack.j2 k2 l1 t186 t187 t195 t205 true)) else (if bt213.2 = 0 then ((lapidaryref06_Same.f k2 bt213.1 l1).bind fun t217 => (lapidarylaw06_CoderBack.j2 k2 l1 t186 t187 t195 t205 t217)) else (lapidarylaw06_CoderBack.j2 k2 l1 t186 t187 t195 t205 false)))) = some r := by first | (rw [hy212]; with_reducible exact H) | (have H2_ := (Option.bind_some _ _).symm.trans H; rw [hy212]; with_reducible exact H2_) | (have H2_ := (Option.bind_some _ _).symm.trans H; with_reducible exact H2_) | with_reducible exact H | (rw [hy212]; exact H) | exact H
                              have Ny212 := Aside0.mk hy212
                              clear hy212
                              replace H := Option.bind_eq_some_iff.mp H
                              obtain ⟨⟨t213, t214⟩, A340, H⟩ := H
                              replace H : (if a4 = 0 then (if t214 = 0 then (lapidarylaw06_CoderBack.j2 k2 l1 t186 t187 t195 t205 false) else (lapidarylaw06_CoderBack.j2 k2 l1 t186 t187 t195 t205 true)) else (if t214 = 0 then ((lapidaryref06_Same.f k2 t213 l1).bind fun t217 => (lapidarylaw06_CoderBack.j2 k2 l1 t186 t187 t195 t205 t217)) else (lapidarylaw06_CoderBack.j2 k2 l1 t186 t187 t195 t205 false))) = some r := H
                              have A34 := Aside0.mk A340
                              clear A340
                              have HC35 := Aside0.mk H
                              clear H
                              obtain ⟨Ao36, co36, eo36⟩ := Kd.R_slice HO_11.out
                              subst eo36
                              obtain ⟨Ao37, co37, eo37⟩ := Kd.R_slice HO_13.out
                              subst eo37
                              try go_wp2_with (first | ((with_reducible refine gate_callee (f := 15) rfl ?_); refine goesL_ (some 69) rfl rfl Try.func15 (by kernel_rfl) rfl #[.slice A0 l0.length c0, .slice Ao37 x13_2.length co37, .slice Ao36 t177.length co36] rfl (by (try simp only [List.map_toArray, List.map_cons, List.map_nil]); first | done | rfl | (simp only [List.length_drop, List.length_take]; rfl)) ?_; (with_reducible refine (coder_Decode.calls _ _ l0 _ _ x13_2 _ _ t177 t186 t187 _ ?side1 ?side2 ?side3 ?side4 ?side5 ?side6 A20.out).mono ?_); (case side1 => repeat (first | exact (Kd.C_below HR0.out HB.out) | (with_reducible refine Kd.C_alloc ?_ _) | (with_reducible refine Kd.C_drewN ?_ _) | (with_reducible refine Kd.C_drew ?_))); (case side2 => exact HC0.out); (case side3 => repeat (first | exact (Kd.R_reads' HO_13.out).2.2 | (with_reducible refine Kd.C_alloc ?_ _) | (with_reducible refine Kd.C_drewN ?_ _) | (with_reducible refine Kd.C_drew ?_))); (case side4 => exact (Kd.R_reads' HO_13.out).2.1); (case side5 => repeat (first | exact (Kd.R_reads' HO_11.out).2.2 | (with_reducible refine Kd.C_alloc ?_ _) | (with_reducible refine Kd.C_drewN ?_ _) | (with_reducible refine Kd.C_drew ?_))); (case side6 => exact (Kd.R_reads' HO_11.out).2.1); rintro e w38 ⟨v188, rfl, ho0, hb⟩; refine ⟨_, rfl, ?_⟩; have n0_ := Aside0.mk (Kd.R_below (by (with_reducible repeat (first | apply Kd.R_alloc | apply Kd.R_drewN | apply Kd.R_drew)); exact HO_11.out) hb); have n1_ := Aside0.mk (Kd.R_below (by (with_reducible repeat (first | apply Kd.R_alloc | apply Kd.R_drewN | apply Kd.R_drew)); exact HO_13.out) hb); have n2_ := Aside0.mk (Kd.R_lower ho0 (below_size (by repeat (first | (with_reducible first | exact HB.out | apply below_alloc | apply pw_below_drewN | apply below_drew1) | exact HB.out)))); have n3_ := Aside0.mk (below_step (by repeat (first | (with_reducible first | exact HB.out | apply below_alloc | apply pw_below_drewN | apply below_drew1) | exact HB.out)) hb); clear HO_11; clear HO_13; clear HB; have HO_11 := n0_; have HO_13 := n1_; have HO189 := n2_; have HB := n3_; clear n0_ n1_ n2_ n3_; (try clear hb); (try clear hb2); (try clear hk); (try clear hi); (try clear ho0); have q39 : ((ji21) : Int) ≤ ((t177.length : Int) : Int) := of_decide_eq_true (by first | (with_reducible assumption) | assumption); obtain ⟨i039, hi039, _, hsz39, _⟩ := info_parts info5; have hroom39 : t177.length ≤ co36 := (Kd.R_reads' HO_11.out).2.1; have hC39 : Kd.C (Kd.int .u8) _ Ao36 t177.length t177 := (Kd.R_reads' HO_11.out).2.2; have hcut39 := cut_to (P := Try.prog) 25 5 .i64 Try.underlying25 hi039 Ao36 t177.length co36 (ji21) (of_decide_eq_true (by first | (with_reducible assumption) | assumption)) q39 hroom39; have hr39 := Kd.C_take (m := ((ji21) : Int).toNat) hC39 (by omega); have hy39 : y190.length = ((ji21) : Int).toNat := (by rw [Ny190.out, List.length_take]; omega); rw [← Ny190.out] at hr39; rw [← hy39] at hcut39; have HR193 := Aside0.mk hr39; have HC193 := Aside0.mk (show y190.length ≤ co36 from by omega); clear hr39 hC39 hroom39 hi039 hsz39; have KY39 := Aside0.mk hy39; clear hy39; have KL39 := Aside0.mk (show ((ji21) : Int).toNat ≤ t177.length from by omega); replace q39 := eq_true q39) | ((with_reducible refine gate_callee (f := 15) rfl ?_); refine goesL_ (some 82) rfl rfl Try.func15 (by kernel_rfl) rfl #[.slice A0 l0.length c0, .slice Ao37 x13_2.length co37, .slice Ao36 y190.length co36] rfl (by (try simp only [List.map_toArray, List.map_cons, List.map_nil]); first | done | rfl | (simp only [List.length_drop, List.length_take]; rfl)) ?_; (with_reducible refine (coder_Decode.calls _ _ l0 _ _ x13_2 _ _ y190 t194 t195 _ ?side1 ?side2 ?side3 ?side4 ?side5 ?side6 A24.out).mono ?_); (case side1 => repeat (first | exact (Kd.C_below HR0.out HB.out) | (with_reducible refine Kd.C_alloc ?_ _) | (with_reducible refine Kd.C_drewN ?_ _) | (with_reducible refine Kd.C_drew ?_))); (case side2 => exact HC0.out); (case side3 => repeat (first | exact (Kd.R_reads' HO_13.out).2.2 | (with_reducible refine Kd.C_alloc ?_ _) | (with_reducible refine Kd.C_drewN ?_ _) | (with_reducible refine Kd.C_drew ?_))); (case side4 => exact (Kd.R_reads' HO_13.out).2.1); (case side5 => repeat (first | exact (by repeat (first | (with_reducible exact HR193.out) | (with_reducible refine Kd.C_alloc ?_ _) | (with_reducible refine Kd.C_drewN ?_ _) | (with_reducible refine Kd.C_drew ?_) | exact HR193.out)) | (with_reducible refine Kd.C_alloc ?_ _) | (with_reducible refine Kd.C_drewN ?_ _) | (with_reducible refine Kd.C_drew ?_))); (case side6 => exact HC193.out); rintro e w40 ⟨v196, rfl, ho0, hb⟩; refine ⟨_, rfl, ?_⟩; have n0_ := Aside0.mk (Kd.R_below (by (with_reducible repeat (first | apply Kd.R_alloc | apply Kd.R_drewN | apply Kd.R_drew)); exact HO_11.out) hb); have n1_ := Aside0.mk (Kd.R_below (by (with_reducible repeat (first | apply Kd.R_alloc | apply Kd.R_drewN | apply Kd.R_drew)); exact HO_13.out) hb); have n2_ := Aside0.mk (Kd.R_elder' (by (with_reducible repeat (first | apply Kd.R_alloc | apply Kd.R_drewN | apply Kd.R_drew)); exact HO189.out) (Kd.R_base ho0) hb); have n3_ := Aside0.mk (Kd.R_lower (Kd.R_new' ho0 (Kd.R_lt (by (with_reducible repeat (first | apply Kd.R_alloc | apply Kd.R_drewN | apply Kd.R_drew)); exact HO189.out))) (below_size (by repeat (first | (with_reducible first | exact HB.out | apply below_alloc | apply pw_below_drewN | apply below_drew1) | exact HB.out)))); have n4_ := Aside0.mk (Kd.C_below (by repeat (first | (with_reducible exact HR193.out) | (with_reducible refine Kd.C_alloc ?_ _) | (with_reducible refine Kd.C_drewN ?_ _) | (with_reducible refine Kd.C_drew ?_) | exact HR193.out)) hb); have n5_ := Aside0.mk (below_step (by repeat (first | (with_reducible first | exact HB.out | apply below_alloc | apply pw_below_drewN | apply below_drew1) | exact HB.out)) hb); clear HO_11; clear HO_13; clear HO189; clear HR193; clear HB; have HO_11 := n0_; have HO_13 := n1_; have HO189 := n2_; have HO197 := n3_; have HR193 := n4_; have HB := n5_; clear n0_ n1_ n2_ n3_ n4_ n5_; (try clear hb); (try clear hb2); (try clear hk); (try clear hi); (try clear ho0)) | ((with_reducible refine gate_callee (f := 18) rfl ?_); refine goesL_ (some 86) rfl rfl Try.func18 (by kernel_rfl) rfl #[.slice Ao36 t177.length co36] rfl (by (try simp only [List.map_toArray, List.map_cons, List.map_nil]); first | done | rfl | (simp only [List.length_drop, List.length_take]; rfl)) ?_; (with_reducible refine (lapidaryref00_Copy.calls _ _ t177 t198 _ ?side1 ?side2 A25.out).mono ?_); (case side1 => repeat (first | exact (Kd.R_reads' HO_11.out).2.2 | (with_reducible refine Kd.C_alloc ?_ _) | (with_reducible refine Kd.C_drewN ?_ _) | (with_reducible refine Kd.C_drew ?_))); (case side2 => exact (Kd.R_reads' HO_11.out).2.1); rintro e w41 ⟨v199, rfl, ho0, hb⟩; refine ⟨_, rfl, ?_⟩; have n0_ := Aside0.mk (Kd.R_elder' (by (with_reducible repeat (first | apply Kd.R_alloc | apply Kd.R_drewN | apply Kd.R_drew)); exact HO_11.out) (Kd.R_base ho0) hb); have n1_ := Aside0.mk (Kd.R_below (by (with_reducible repeat (first | apply Kd.R_alloc | apply Kd.R_drewN | apply Kd.R_drew)); exact HO_13.out) hb); have n2_ := Aside0.mk (Kd.R_below (by (with_reducible repeat (first | apply Kd.R_alloc | apply Kd.R_drewN | apply Kd.R_drew)); exact HO189.out) hb); have n3_ := Aside0.mk (Kd.R_below (by (with_reducible repeat (first | apply Kd.R_alloc | apply Kd.R_drewN | apply Kd.R_drew)); exact HO197.out) hb); have n4_ := Aside0.mk (Kd.R_lower (Kd.R_new' ho0 (Kd.R_lt (by (with_reducible repeat (first | apply Kd.R_alloc | apply Kd.R_drewN | apply Kd.R_drew)); exact HO_11.out))) (below_size (by repeat (first | (with_reducible first | exact HB.out | apply below_alloc | apply pw_below_drewN | apply below_drew1) | exact HB.out)))); have n5_ := Aside0.mk (Kd.C_below (by repeat (first | (with_reducible exact HR193.out) | (with_reducible refine Kd.C_alloc ?_ _) | (with_reducible refine Kd.C_drewN ?_ _) | (with_reducible refine Kd.C_drew ?_) | exact HR193.out)) hb); have n6_ := Aside0.mk (below_step (by repeat (first | (with_reducible first | exact HB.out | apply below_alloc | apply pw_below_drewN | apply below_drew1) | exact HB.out)) hb); clear HO_11; clear HO_13; clear HO189; clear HO197; clear HR193; clear HB; have HO_11 := n0_; have HO_13 := n1_; have HO189 := n2_; have HO197 := n3_; have HO200 := n4_; have HR193 := n5_; have HB := n6_; clear n0_ n1_ n2_ n3_ n4_ n5_ n6_; (try clear hb); (try clear hb2); (try clear hk); (try clear hi); (try clear ho0)) | ((with_reducible refine gate_builtin (b := .append) (xs := #[.tmp 87, .tmp 89]) rfl ?_); (try (refine gate_guard (by rfl) ?_; dsimp only)); at_builtin; refine Kd.R_append (Kd.int .u8) (w0 := w) w.heap.size rfl (.tmp 87) (.tmp 89) 25 5 (.int .u8 0) 1 rfl Try.underlying25 info5 rfl (by decide) (by omega) v199 t198 a3 [.int .u8 a3] (fun k_ => some k_ ≠ (.slice Ao36 t177.length co36 : Value).ownBlock) (fun _ => False) rfl rfl ?aP (fun _ hk => hk.elim) ?aF ?aO ?aB ?aS ?aL ?_; (case aP => exact rfl); (case aB => exact (by repeat (first | (with_reducible first | exact HB.out | apply below_alloc | apply pw_below_drewN | apply below_drew1) | exact HB.out))); (case aF => exact (fun k_ hk => Kd.fresh' (Kd.R_lt (by (with_reducible repeat (first | apply Kd.R_alloc | apply Kd.R_drewN | apply Kd.R_drew)); exact HO_11.out)) k_ hk)); (case aO => exact (by (with_reducible repeat (first | apply Kd.R_alloc | apply Kd.R_drewN | apply Kd.R_drew)); exact Kd.R_mono HO200.out (fun _ hk => hk.2))); (case aS => exact (below_size (by repeat (first | (with_reducible first | exact HB.out | apply below_alloc | apply pw_below_drewN | apply below_drew1) | exact HB.out)))); (case aL => have := LMc26.out; omega); intro v202 w42 ho hb hg hat; rw [← Ny201.out] at ho; have n0_ := Aside0.mk (Kd.R_after (ok := (fun _ => True)) (by (with_reducible repeat (first | apply Kd.R_alloc | apply Kd.R_drewN | apply Kd.R_drew)); exact HO_11.out) hg hat); have n1_ := Aside0.mk (Kd.R_over' (by (with_reducible repeat (first | apply Kd.R_alloc | apply Kd.R_drewN | apply Kd.R_drew)); exact HO_13.out) (Kd.R_typed (by (with_reducible repeat (first | apply Kd.R_alloc | apply Kd.R_drewN | apply Kd.R_drew)); exact HO200.out)) (by decide) hg); have n2_ := Aside0.mk (Kd.R_over' (by (with_reducible repeat (first | apply Kd.R_alloc | apply Kd.R_drewN | apply Kd.R_drew)); exact HO189.out) (Kd.R_typed (by (with_reducible repeat (first | apply Kd.R_alloc | apply Kd.R_drewN | apply Kd.R_drew)); exact HO200.out)) (by decide) hg); have n3_ := Aside0.mk (Kd.R_over' (by (with_reducible repeat (first | apply Kd.R_alloc | apply Kd.R_drewN | apply Kd.R_drew)); exact HO197.out) (Kd.R_typed (by (with_reducible repeat (first | apply Kd.R_alloc | apply Kd.R_drewN | apply Kd.R_drew)); exact HO200.out)) (by decide) hg); have n4_ := Aside0.mk (hb); have n5_ := Aside0.mk ((show Kd.C (Kd.int .u8) w42 Ao36 y190.length y190 from by rw [Ny190.out]; exact Kd.C_take (m := ((ji21) : Int).toNat) ((Kd.R_reads' (Kd.R_after (ok := (fun _ => True)) (by (with_reducible repeat (first | apply Kd.R_alloc | apply Kd.R_drewN | apply Kd.R_drew)); exact HO_11.out) hg hat)).2.2) KL39.out)); have n6_ := Aside0.mk (ho); clear HO_11; clear HO_13; clear HO189; clear HO197; clear HB; clear HR193; clear HO200; have HO_11 := n0_; have HO_13 := n1_; have HO189 := n2_; have HO197 := n3_; have HB := n4_; have HR193 := n5_; have HO203 := n6_; clear n0_ n1_ n2_ n3_ n4_ n5_ n6_; clear ho hb hg hat; obtain ⟨Ao43, co43, eo43⟩ := Kd.R_slice HO203.out; subst eo43) | ((with_reducible refine gate_callee (f := 15) rfl ?_); refine goesL_ (some 95) rfl rfl Try.func15 (by kernel_rfl) rfl #[.slice A0 l0.length c0, .slice Ao37 x13_2.length co37, .slice Ao43 y201.length co43] rfl (by (try simp only [List.map_toArray, List.map_cons, List.map_nil]); first | done | rfl | (simp only [List.length_drop, List.length_take]; rfl)) ?_; (with_reducible refine (coder_Decode.calls _ _ l0 _ _ x13_2 _ _ y201 t204 t205 _ ?side1 ?side2 ?side3 ?side4 ?side5 ?side6 A27.out).mono ?_); (case side1 => repeat (first | exact (Kd.C_below HR0.out HB.out) | (with_reducible refine Kd.C_alloc ?_ _) | (with_reducible refine Kd.C_drewN ?_ _) | (with_reducible refine Kd.C_drew ?_))); (case side2 => exact HC0.out); (case side3 => repeat (first | exact (Kd.R_reads' HO_13.out).2.2 | (with_reducible refine Kd.C_alloc ?_ _) | (with_reducible refine Kd.C_drewN ?_ _) | (with_reducible refine Kd.C_drew ?_))); (case side4 => exact (Kd.R_reads' HO_13.out).2.1); (case side5 => repeat (first | exact (Kd.R_reads' HO203.out).2.2 | (with_reducible refine Kd.C_alloc ?_ _) | (with_reducible refine Kd.C_drewN ?_ _) | (with_reducible refine Kd.C_drew ?_))); (case side6 => exact (Kd.R_reads' HO203.out).2.1); rintro e w44 ⟨v206, rfl, ho0, hb⟩; refine ⟨_, rfl, ?_⟩; have n0_ := Aside0.mk (Kd.R_below (by (with_reducible repeat (first | apply Kd.R_alloc | apply Kd.R_drewN | apply Kd.R_drew)); exact HO_11.out) hb); have n1_ := Aside0.mk (Kd.R_below (by (with_reducible repeat (first | apply Kd.R_alloc | apply Kd.R_drewN | apply Kd.R_drew)); exact HO_13.out) hb); have n2_ := Aside0.mk (Kd.R_elder' (by (with_reducible repeat (first | apply Kd.R_alloc | apply Kd.R_drewN | apply Kd.R_drew)); exact HO189.out) (Kd.R_base ho0) hb); have n3_ := Aside0.mk (Kd.R_elder' (by (with_reducible repeat (first | apply Kd.R_alloc | apply Kd.R_drewN | apply Kd.R_drew)); exact HO197.out) (Kd.R_base ho0) hb); have n4_ := Aside0.mk (Kd.R_below (by (with_reducible repeat (first | apply Kd.R_alloc | apply Kd.R_drewN | apply Kd.R_drew)); exact HO203.out) hb); have n5_ := Aside0.mk (Kd.R_lower (Kd.R_new' (Kd.R_new' ho0 (Kd.R_lt (by (with_reducible repeat (first | apply Kd.R_alloc | apply Kd.R_drewN | apply Kd.R_drew)); exact HO189.out))) (Kd.R_lt (by (with_reducible repeat (first | apply Kd.R_alloc | apply Kd.R_drewN | apply Kd.R_drew)); exact HO197.out))) (below_size (by repeat (first | (with_reducible first | exact HB.out | apply below_alloc | apply pw_below_drewN | apply below_drew1) | exact HB.out)))); have n6_ := Aside0.mk (Kd.C_below (by repeat (first | (with_reducible exact HR193.out) | (with_reducible refine Kd.C_alloc ?_ _) | (with_reducible refine Kd.C_drewN ?_ _) | (with_reducible refine Kd.C_drew ?_) | exact HR193.out)) hb); have n7_ := Aside0.mk (below_step (by repeat (first | (with_reducible first | exact HB.out | apply below_alloc | apply pw_below_drewN | apply below_drew1) | exact HB.out)) hb); clear HO_11; clear HO_13; clear HO189; clear HO197; clear HO203; clear HR193; clear HB; have HO_11 := n0_; have HO_13 := n1_; have HO189 := n2_; have HO197 := n3_; have HO203 := n4_; have HO207 := n5_; have HR193 := n6_; have HB := n7_; clear n0_ n1_ n2_ n3_ n4_ n5_ n6_ n7_; (try clear hb); (try clear hb2); (try clear hk); (try clear hi); (try clear ho0)) | ((with_reducible refine gate_callee (f := 18) rfl ?_); refine goesL_ (some 99) rfl rfl Try.func18 (by kernel_rfl) rfl #[.slice Ao36 t177.length co36] rfl (by (try simp only [List.map_toArray, List.map_cons, List.map_nil]); first | done | rfl | (simp only [List.length_drop, List.length_take]; rfl)) ?_; (with_reducible refine (lapidaryref00_Copy.calls _ _ t177 t208 _ ?side1 ?side2 A28.out).mono ?_); (case side1 => repeat (first | exact (Kd.R_reads' HO_11.out).2.2 | (with_reducible refine Kd.C_alloc ?_ _) | (with_reducible refine Kd.C_drewN ?_ _) | (with_reducible refine Kd.C_drew ?_))); (case side2 => exact (Kd.R_reads' HO_11.out).2.1); rintro e w45 ⟨v209, rfl, ho0, hb⟩; refine ⟨_, rfl, ?_⟩; have n0_ := Aside0.mk (Kd.R_elder' (by (with_reducible repeat (first | apply Kd.R_alloc | apply Kd.R_drewN | apply Kd.R_drew)); exact HO_11.out) (Kd.R_base ho0) hb); have n1_ := Aside0.mk (Kd.R_below (by (with_reducible repeat (first | apply Kd.R_alloc | apply Kd.R_drewN | apply Kd.R_drew)); exact HO_13.out) hb); have n2_ := Aside0.mk (Kd.R_below (by (with_reducible repeat (first | apply Kd.R_alloc | apply Kd.R_drewN | apply Kd.R_drew)); exact HO189.out) hb); have n3_ := Aside0.mk (Kd.R_below (by (with_reducible repeat (first | apply Kd.R_alloc | apply Kd.R_drewN | apply Kd.R_drew)); exact HO197.out) hb); have n4_ := Aside0.mk (Kd.R_elder' (by (with_reducible repeat (first | apply Kd.R_alloc | apply Kd.R_drewN | apply Kd.R_drew)); exact HO203.out) (Kd.R_base ho0) hb); have n5_ := Aside0.mk (Kd.R_below (by (with_reducible repeat (first | apply Kd.R_alloc | apply Kd.R_drewN | apply Kd.R_drew)); exact HO207.out) hb); have n6_ := Aside0.mk (Kd.R_lower (Kd.R_new' (Kd.R_new' ho0 (Kd.R_lt (by (with_reducible repeat (first | apply Kd.R_alloc | apply Kd.R_drewN | apply Kd.R_drew)); exact HO_11.out))) (Kd.R_lt (by (with_reducible repeat (first | apply Kd.R_alloc | apply Kd.R_drewN | apply Kd.R_drew)); exact HO203.out))) (below_size (by repeat (first | (with_reducible first | exact HB.out | apply below_alloc | apply pw_below_drewN | apply below_drew1) | exact HB.out)))); have n7_ := Aside0.mk (Kd.C_below (by repeat (first | (with_reducible exact HR193.out) | (with_reducible refine Kd.C_alloc ?_ _) | (with_reducible refine Kd.C_drewN ?_ _) | (with_reducible refine Kd.C_drew ?_) | exact HR193.out)) hb); have n8_ := Aside0.mk (below_step (by repeat (first | (with_reducible first | exact HB.out | apply below_alloc | apply pw_below_drewN | apply below_drew1) | exact HB.out)) hb); clear HO_11; clear HO_13; clear HO189; clear HO197; clear HO203; clear HO207; clear HR193; clear HB; have HO_11 := n0_; have HO_13 := n1_; have HO189 := n2_; have HO197 := n3_; have HO203 := n4_; have HO207 := n5_; have HO210 := n6_; have HR193 := n7_; have HB := n8_; clear n0_ n1_ n2_ n3_ n4_ n5_ n6_ n7_ n8_; (try clear hb); (try clear hb2); (try clear hk); (try clear hi); (try clear ho0)))
                              have n0_ := Aside0.mk (Kd.R_drew HO_11.out)
                              have n1_ := Aside0.mk (Kd.R_drew HO_13.out)
                              have n2_ := Aside0.mk (Kd.R_drew HO189.out)
                              have n3_ := Aside0.mk (Kd.R_drew HO197.out)
                              have n4_ := Aside0.mk (Kd.R_drew HO203.out)
                              have n5_ := Aside0.mk (Kd.R_drew HO207.out)
                              have n6_ := Aside0.mk (Kd.R_drew HO210.out)
                              have n7_ := Aside0.mk (Kd.C_drew HR193.out)
                              have n8_ := Aside0.mk (below_drew1 HB.out)
                              clear HO_11
                              clear HO_13
                              clear HO189
                              clear HO197
                              clear HO203
                              clear HO207
                              clear HO210
                              clear HR193
                              clear HB
                              have HO_11 := n0_
                              have HO_13 := n1_
                              have HO189 := n2_
                              have HO197 := n3_
                              have HO203 := n4_
                              have HO207 := n5_
                              have HO210 := n6_
                              have HR193 := n7_
                              have HB := n8_
                              clear n0_ n1_ n2_ n3_ n4_ n5_ n6_ n7_ n8_
                              obtain ⟨Ao47, co47, eo47⟩ := Kd.R_slice HO210.out
                              (first | subst eo47 | (injection eo47 with f1_ f2_ f3_; have f4_ := f1_.symm; have f5_ := f3_.symm; clear f1_ f2_ f3_; subst f4_; subst f5_))
                              have p211 : 0 ≤ ((ji30) : Int) := of_decide_eq_true (by first | (with_reducible assumption) | assumption)
                              have q211 : (ji30) < (t208.length : Int) := of_decide_eq_true (by first | (with_reducible assumption) | assumption)
                              obtain ⟨ad211, e211, hx211_0⟩ := Kd.at_int (Kd.R_reads' HO210.out).2.2 (ji30) p211 q211
                              cases e211
                              replace p211 := eq_true p211
                              replace q211 := eq_true q211
                              have p33 : 0 ≤ ((ji30) : Int) := of_decide_eq_true (by first | (with_reducible assumption) | assumption)
                              have q33 : ((ji30) : Int) < ((t208.length : Int) : Int) := of_decide_eq_true (by first | (with_reducible assumption) | assumption)
                              obtain ⟨go33, co33, eo33, gb33, gl33, cl33, HG33⟩ := Kd.R_form HO210.out (by omega)
                              (first | cases eo33 | (injection eo33 with ea_ en_ ec_; (first | subst ea_ | (injection ea_ with ea_; subst ea_)); subst ec_; clear en_))
                              have GB33 := Aside0.mk gb33
                              have GG33 := Aside0.mk HG33
                              clear gb33 gl33 HG33
                              (first | simp only [add_plain] at hx211_0 | skip)
                              obtain ⟨hx33_0, hf33_0⟩ := Kd.R_celln 0 HO210.out ((ji30) : Int) p33 q33
                              replace p33 := eq_true p33
                              replace q33 := eq_true q33
                              have HP48 := Kd.R_putn HO210.out ((ji30) : Int) (Go.bits .xor .u8 (rd t208 (ji30)) a4)
                              rw [← Ny212.out] at HP48
                              have HQ48 := Aside0.mk HP48
                              clear HP48
                              refine start_ (n := 18) (S := fun w' => w'.cell? ⟨go33, ((ji30)).toNat, none⟩ = some (.int .u8 (rd t208 (ji30)))) (ds := [17]) #[false, false, false, false, false, false, false, false, false, false, false, false, false, false, false, false, false, false] (by kernel_rfl) rfl rfl (hx211_0) (fun hHeld => ?_); refine with_tabW lapidarylaw06_CoderBack.tab19 lapidarylaw06_CoderBack.bits19 (fun HT_ HW_ => ?_)
                              generalize w45.drew = w46 at HO_11 HO_13 HO189 HO197 HO203 HO207 HO210 HR193 HB GG33 HQ48 hf33_0 hx211_0 hx33_0 hHeld ⊢
                              refine pure_ (i := 0) (N := some 100) (v := ?_) (a' := ?_) #[true, false, false, false, false, false, false, false, false, false, false, false, false, false, false, false, false, false] rfl rfl (any_of HT_.out (by kernel_rfl)) (fun _ _ _ h => h) (Or.inl ⟨by rfl, ?_⟩) ?_ ?_
                              rotate_left
                              · intro w'
                                go_simp
                                with_reducible rfl
                              rotate_left
                              · simp only [Act.put, List.setIfInBounds_toArray, List.set_cons_zero, List.set_cons_succ, i64_w, i32_w]
                                rfl
                              refine pure_ (i := 1) (N := some 101) (v := ?_) (a' := ?_) #[true, true, false, false, false, false, false, false, false, false, false, false, false, false, false, false, false, false] rfl rfl (any_of HT_.out (by kernel_rfl)) (fun _ _ _ h => h) (Or.inl ⟨by rfl, ?_⟩) ?_ ?_
                              rotate_left
                              · intro w'
                                go_simp
                                with_reducible rfl
                              rotate_left
                              · simp only [Act.put, List.setIfInBounds_toArray, List.set_cons_zero, List.set_cons_succ, i64_w, i32_w]
                                rfl
                              refine pure_ (i := 2) (N := some 102) (v := ?_) (a' := ?_) #[true, true, true, false, false, false, false, false, false, false, false, false, false, false, false, false, false, false] rfl rfl (any_of HT_.out (by kernel_rfl)) (fun _ _ _ h => h) (Or.inl ⟨by rfl, ?_⟩) ?_ ?_
                              rotate_left
                              · intro w'
                                go_simp
                                with_reducible rfl
                              rotate_left
                              · simp only [Act.put, List.setIfInBounds_toArray, List.set_cons_zero, List.set_cons_succ, i64_w, i32_w]
                                rfl
                              refine pure_ (i := 3) (N := some 103) (v := ?_) (a' := ?_) #[true, true, true, true, false, false, false, false, false, false, false, false, false, false, false, false, false, false] rfl rfl (any_of HT_.out (by kernel_rfl)) (fun _ _ _ h => h) (Or.inl ⟨by rfl, ?_⟩) ?_ ?_
                              rotate_left
                              · intro w'
                                go_simp
                                with_reducible rfl
                              rotate_left
                              · simp only [Act.put, List.setIfInBounds_toArray, List.set_cons_zero, List.set_cons_succ, i64_w, i32_w]
                                rfl
                              refine pure_ (i := 4) (N := some 104) (v := ?_) (a' := ?_) #[true, true, true, true, true, false, false, false, false, false, false, false, false, false, false, false, false, false] rfl rfl (any_of HT_.out (by kernel_rfl)) (fun _ _ _ h => h) (Or.inl ⟨by rfl, ?_⟩) ?_ ?_
                              rotate_left
                              · intro w'
                                go_simp
                                with_reducible rfl
                              rotate_left
                              · simp only [Act.put, List.setIfInBounds_toArray, List.set_cons_zero, List.set_cons_succ, i64_w, i32_w]
                                rfl
                              refine pure_ (i := 5) (N := some 105) (v := ?_) (a' := ?_) #[true, true, true, true, true, true, false, false, false, false, false, false, false, false, false, false, false, false] rfl rfl (any_of HT_.out (by kernel_rfl)) (fun _ _ _ h => h) (Or.inl ⟨by rfl, ?_⟩) ?_ ?_
                              rotate_left
                              · intro w'
                                go_simp
                                with_reducible rfl
                              rotate_left
                              · simp only [Act.put, List.setIfInBounds_toArray, List.set_cons_zero, List.set_cons_succ, i64_w, i32_w]
                                rfl
                              refine pure_ (i := 6) (N := some 106) (v := ?_) (a' := ?_) #[true, true, true, true, true, true, true, false, false, false, false, false, false, false, false, false, false, false] rfl rfl (any_of HT_.out (by kernel_rfl)) (fun _ _ _ h => h) (Or.inl ⟨by rfl, ?_⟩) ?_ ?_
                              rotate_left
                              · intro w'
                                go_simp
                                with_reducible rfl
                              rotate_left
                              · simp only [Act.put, List.setIfInBounds_toArray, List.set_cons_zero, List.set_cons_succ, i64_w, i32_w]
                                rfl
                              refine pure_ (i := 7) (N := some 107) (v := ?_) (a' := ?_) #[true, true, true, true, true, true, true, true, false, false, false, false, false, false, false, false, false, false] rfl rfl (any_of HT_.out (by kernel_rfl)) (fun _ _ _ h => h) (Or.inl ⟨by rfl, ?_⟩) ?_ ?_
                              rotate_left
                              · intro w'
                                go_simp
                                with_reducible rfl
                              rotate_left
                              · simp only [Act.put, List.setIfInBounds_toArray, List.set_cons_zero, List.set_cons_succ, i64_w, i32_w]
                                rfl
                              refine pure_ (i := 8) (N := some 108) (v := ?_) (a' := ?_) #[true, true, true, true, true, true, true, true, true, false, false, false, false, false, false, false, false, false] rfl rfl (any_of HT_.out (by kernel_rfl)) (fun _ _ _ h => h) (Or.inl ⟨by rfl, ?_⟩) ?_ ?_
                              rotate_left
                              · intro w'
                                go_simp
                                with_reducible rfl
                              rotate_left
                              · simp only [Act.put, List.setIfInBounds_toArray, List.set_cons_zero, List.set_cons_succ, i64_w, i32_w]
                                rfl
                              refine pure_ (i := 9) (N := some 109) (v := ?_) (a' := ?_) #[true, true, true, true, true, true, true, true, true, true, false, false, false, false, false, false, false, false] rfl rfl (any_of HT_.out (by kernel_rfl)) (fun _ _ _ h => h) (Or.inl ⟨by rfl, ?_⟩) ?_ ?_
                              rotate_left
                              · intro w'
                                go_simp
                                with_reducible rfl
                              rotate_left
                              · simp only [Act.put, List.setIfInBounds_toArray, List.set_cons_zero, List.set_cons_succ, i64_w, i32_w]
                                rfl
                              refine pure_ (i := 10) (N := some 110) (v := ?_) (a' := ?_) #[true, true, true, true, true, true, true, true, true, true, true, false, false, false, false, false, false, false] rfl rfl (any_of HT_.out (by kernel_rfl)) (fun _ _ _ h => h) (Or.inl ⟨by rfl, ?_⟩) ?_ ?_
                              rotate_left
                              · intro w'
                                go_simp
                                with_reducible rfl
                              rotate_left
                              · simp only [Act.put, List.setIfInBounds_toArray, List.set_cons_zero, List.set_cons_succ, i64_w, i32_w]
                                rfl
                              refine pure_ (i := 11) (N := some 111) (v := ?_) (a' := ?_) #[true, true, true, true, true, true, true, true, true, true, true, true, false, false, false, false, false, false] rfl rfl (any_of HT_.out (by kernel_rfl)) (fun _ _ _ h => h) (Or.inl ⟨by rfl, ?_⟩) ?_ ?_
                              rotate_left
                              · intro w'
                                go_simp
                                with_reducible rfl
                              rotate_left
                              · simp only [Act.put, List.setIfInBounds_toArray, List.set_cons_zero, List.set_cons_succ, i64_w, i32_w]
                                rfl
                              refine pure_ (i := 12) (N := some 112) (v := ?_) (a' := ?_) #[true, true, true, true, true, true, true, true, true, true, true, true, true, false, false, false, false, false] rfl rfl (any_of HT_.out (by kernel_rfl)) (fun _ _ _ h => h) (Or.inl ⟨by rfl, ?_⟩) ?_ ?_
                              rotate_left
                              · intro w'
                                go_simp
                                with_reducible rfl
                              rotate_left
                              · simp only [Act.put, List.setIfInBounds_toArray, List.set_cons_zero, List.set_cons_succ, i64_w, i32_w]
                                rfl
                              refine pure_ (i := 14) (N := some 114) (v := ?_) (a' := ?_) #[true, true, true, true, true, true, true, true, true, true, true, true, true, false, true, false, false, false] rfl rfl (any_of HT_.out (by kernel_rfl)) (fun _ _ _ h => h) (Or.inl ⟨by rfl, ?_⟩) ?_ ?_
                              rotate_left
                              · intro w'
                                go_simp
                                with_reducible rfl
                              rotate_left
                              · simp only [Act.put, List.setIfInBounds_toArray, List.set_cons_zero, List.set_cons_succ, i64_w, i32_w]
                                rfl
                              refine take_ (i := 13) (N := some 113) (v := ?_) (a' := ?_) #[true, true, true, true, true, true, true, true, true, true, true, true, true, true, true, false, false, false] rfl rfl (take_ofW HT_.out HW_.out (by kernel_rfl)) (fun _ _ _ h => h) (Or.inl ⟨by rfl, ?_⟩) hHeld ?_ ?_
                              rotate_left
                              · intro w' s0
                                go_simp
                                with_reducible rfl
                              rotate_left
                              · simp only [Act.put, List.setIfInBounds_toArray, List.set_cons_zero, List.set_cons_succ, i64_w, i32_w]
                                rfl
                              refine pure_ (i := 15) (N := some 115) (v := ?_) (a' := ?_) #[true, true, true, true, true, true, true, true, true, true, true, true, true, true, true, true, false, false] rfl rfl (any_of HT_.out (by kernel_rfl)) (fun _ _ _ h => h) (Or.inl ⟨by rfl, ?_⟩) ?_ ?_
                              rotate_left
                              · intro w'
                                go_simp
                                with_reducible rfl
                              rotate_left
                              · simp only [Act.put, List.setIfInBounds_toArray, List.set_cons_zero, List.set_cons_succ, i64_w, i32_w]
                                rfl
                              refine pure_ (i := 16) (N := some 116) (v := ?_) (a' := ?_) #[true, true, true, true, true, true, true, true, true, true, true, true, true, true, true, true, true, false] rfl rfl (any_of HT_.out (by kernel_rfl)) (fun _ _ _ h => h) (Or.inl ⟨by rfl, ?_⟩) ?_ ?_
                              rotate_left
                              · intro w'
                                go_simp
                                with_reducible rfl
                              rotate_left
                              · simp only [Act.put, List.setIfInBounds_toArray, List.set_cons_zero, List.set_cons_succ, i64_w, i32_w]
                                rfl
                              refine last_ (i := 17) (N := none) #[true, true, true, true, true, true, true, true, true, true, true, true, true, true, true, true, true, true] rfl rfl (one_of HT_.out (by kernel_rfl)) (by decide) (fun K hK => ?_)
                              refine skip_ (w1 := ?_) (by rfl) rfl ?_ ?_
                              rotate_left
                              · go_simp
                                rfl
                              refine hK.out _ _ ?_
                              clear hK K
                              refine done_ (done_of HT_.out (by kernel_rfl)) ?_
                              go_upto_region 21 with (first | ((with_reducible refine gate_callee (f := 15) rfl ?_); refine goesL_ (some 121) rfl rfl Try.func15 (by kernel_rfl) rfl #[.slice A0 l0.length c0, .slice Ao37 x13_2.length co37, .slice (some ⟨go33, 0, none⟩) y212.length co47] rfl (by (try simp only [List.map_toArray, List.map_cons, List.map_nil]); first | done | (rw [show y212.length = t208.length from (Kd.R_reads' HQ48.out).1.symm] <;> rfl) | rfl | (simp only [List.length_drop, List.length_take]; rfl)) ?_; (with_reducible refine (coder_Decode.calls _ _ l0 _ _ x13_2 _ _ y212 t213 t214 _ ?side1 ?side2 ?side3 ?side4 ?side5 ?side6 A34.out).mono ?_); (case side1 => exact Kd.C_below HR0.out (by repeat (first | (with_reducible first | exact HB.out | apply below_alloc | apply pw_below_drewN | apply below_drew1 | refine below_set ?_ GB33.out) | exact HB.out))); (case side2 => exact HC0.out); (case side3 => refine (Kd.R_reads' (e := 3) (base := w.heap.size) (ok := fun k_ => True) (n := x13_2.length) (c := co37) ?_).2.2; exact (by (with_reducible repeat (first | apply Kd.R_alloc | apply Kd.R_drewN | apply Kd.R_drew)); exact (Kd.R_mono (Kd.R_far (p := ⟨go33, ((ji30) : Int).toNat, none⟩) (Kd.R_types HO_13.out GG33.out (by decide)) (fun _ hk => hk.2) (.int .u8 (Go.bits .xor .u8 (rd t208 (ji30)) a4))) (fun _ h_ => h_.1)))); (case side4 => exact (Kd.R_reads' HO_13.out).2.1); (case side5 => refine (Kd.R_reads' (e := 5) (base := w.heap.size) (ok := fun k_ => ((True ∧ some k_ ≠ (.slice Ao36 t177.length co36 : Value).ownBlock) ∧ some k_ ≠ (.slice Ao43 y201.length co43 : Value).ownBlock)) (n := t208.length) (c := co47) ?_).2.2; exact (by (with_reducible repeat (first | apply Kd.R_alloc | apply Kd.R_drewN | apply Kd.R_drew)); exact HQ48.out)); (case side6 => rw [show y212.length = t208.length from (Kd.R_reads' HQ48.out).1.symm]; exact (Kd.R_reads' HO210.out).2.1); rintro e w49 ⟨v215, rfl, ho0, hb⟩; refine ⟨_, rfl, ?_⟩; have n0_ := Aside0.mk (Kd.R_below (by (with_reducible repeat (first | apply Kd.R_alloc | apply Kd.R_drewN | apply Kd.R_drew)); exact (Kd.R_mono (Kd.R_far (p := ⟨go33, ((ji30) : Int).toNat, none⟩) (Kd.R_mono HO_11.out (fun k_ hk => (⟨hk, fun e_ => hk.2 (by rw [e_]; rfl)⟩ : _ ∧ k_ ≠ go33))) (fun _ hk => hk.2) (.int .u8 (Go.bits .xor .u8 (rd t208 (ji30)) a4))) (fun _ h_ => h_.1))) hb); have n1_ := Aside0.mk (Kd.R_below (by (with_reducible repeat (first | apply Kd.R_alloc | apply Kd.R_drewN | apply Kd.R_drew)); exact (Kd.R_mono (Kd.R_far (p := ⟨go33, ((ji30) : Int).toNat, none⟩) (Kd.R_types HO_13.out GG33.out (by decide)) (fun _ hk => hk.2) (.int .u8 (Go.bits .xor .u8 (rd t208 (ji30)) a4))) (fun _ h_ => h_.1))) hb); have n2_ := Aside0.mk (Kd.R_elder' (by (with_reducible repeat (first | apply Kd.R_alloc | apply Kd.R_drewN | apply Kd.R_drew)); exact (Kd.R_mono (Kd.R_far (p := ⟨go33, ((ji30) : Int).toNat, none⟩) (Kd.R_types HO189.out GG33.out (by decide)) (fun _ hk => hk.2) (.int .u8 (Go.bits .xor .u8 (rd t208 (ji30)) a4))) (fun _ h_ => h_.1))) (Kd.R_base ho0) hb); have n3_ := Aside0.mk (Kd.R_elder' (by (with_reducible repeat (first | apply Kd.R_alloc | apply Kd.R_drewN | apply Kd.R_drew)); exact (Kd.R_mono (Kd.R_far (p := ⟨go33, ((ji30) : Int).toNat, none⟩) (Kd.R_types HO197.out GG33.out (by decide)) (fun _ hk => hk.2) (.int .u8 (Go.bits .xor .u8 (rd t208 (ji30)) a4))) (fun _ h_ => h_.1))) (Kd.R_base ho0) hb); have n4_ := Aside0.mk (Kd.R_below (by (with_reducible repeat (first | apply Kd.R_alloc | apply Kd.R_drewN | apply Kd.R_drew)); exact (Kd.R_mono (Kd.R_far (p := ⟨go33, ((ji30) : Int).toNat, none⟩) (Kd.R_mono HO203.out (fun k_ hk => (⟨hk, fun e_ => hk.2 (by rw [e_]; rfl)⟩ : _ ∧ k_ ≠ go33))) (fun _ hk => hk.2) (.int .u8 (Go.bits .xor .u8 (rd t208 (ji30)) a4))) (fun _ h_ => h_.1))) hb); have n5_ := Aside0.mk (Kd.R_elder' (by (with_reducible repeat (first | apply Kd.R_alloc | apply Kd.R_drewN | apply Kd.R_drew)); exact (Kd.R_mono (Kd.R_far (p := ⟨go33, ((ji30) : Int).toNat, none⟩) (Kd.R_types HO207.out GG33.out (by decide)) (fun _ hk => hk.2) (.int .u8 (Go.bits .xor .u8 (rd t208 (ji30)) a4))) (fun _ h_ => h_.1))) (Kd.R_base ho0) hb); have n6_ := Aside0.mk (Kd.R_below (by (with_reducible repeat (first | apply Kd.R_alloc | apply Kd.R_drewN | apply Kd.R_drew)); exact HQ48.out) hb); have n7_ := Aside0.mk (Kd.R_lower (Kd.R_new' (Kd.R_new' (Kd.R_new' ho0 (Kd.R_lt (by (with_reducible repeat (first | apply Kd.R_alloc | apply Kd.R_drewN | apply Kd.R_drew)); exact (Kd.R_mono (Kd.R_far (p := ⟨go33, ((ji30) : Int).toNat, none⟩) (Kd.R_types HO189.out GG33.out (by decide)) (fun _ hk => hk.2) (.int .u8 (Go.bits .xor .u8 (rd t208 (ji30)) a4))) (fun _ h_ => h_.1))))) (Kd.R_lt (by (with_reducible repeat (first | apply Kd.R_alloc | apply Kd.R_drewN | apply Kd.R_drew)); exact (Kd.R_mono (Kd.R_far (p := ⟨go33, ((ji30) : Int).toNat, none⟩) (Kd.R_types HO197.out GG33.out (by decide)) (fun _ hk => hk.2) (.int .u8 (Go.bits .xor .u8 (rd t208 (ji30)) a4))) (fun _ h_ => h_.1))))) (Kd.R_lt (by (with_reducible repeat (first | apply Kd.R_alloc | apply Kd.R_drewN | apply Kd.R_drew)); exact (Kd.R_mono (Kd.R_far (p := ⟨go33, ((ji30) : Int).toNat, none⟩) (Kd.R_types HO207.out GG33.out (by decide)) (fun _ hk => hk.2) (.int .u8 (Go.bits .xor .u8 (rd t208 (ji30)) a4))) (fun _ h_ => h_.1))))) (below_size (by repeat (first | (with_reducible first | exact HB.out | apply below_alloc | apply pw_below_drewN | apply below_drew1 | refine below_set ?_ GB33.out) | exact HB.out)))); have n8_ := Aside0.mk (below_step (by repeat (first | (with_reducible first | exact HB.out | apply below_alloc | apply pw_below_drewN | apply below_drew1 | refine below_set ?_ GB33.out) | exact HB.out)) hb); clear HO_11; clear HO_13; clear HO189; clear HO197; clear HO203; clear HO207; clear HO210; clear HB; have HO_11 := n0_; have HO_13 := n1_; have HO189 := n2_; have HO197 := n3_; have HO203 := n4_; have HO207 := n5_; have HO210 := n6_; have HO216 := n7_; have HB := n8_; clear n0_ n1_ n2_ n3_ n4_ n5_ n6_ n7_ n8_; (try clear hb); (try clear hb2); (try clear hk); (try clear hi); (try clear ho0)))
                              (try simp only [Act.put, List.setIfInBounds_toArray, List.set_cons_zero, List.set_cons_succ])
                              go_cut [142] (fun v142 wc => ∃ (kq : Nat) (x142_34 : Bool), v142 = .bool x142_34 ∧ Aside0 (lapidarylaw06_CoderBack.j2 kq l1 t186 t187 t195 t205 x142_34 = some r) ∧ Aside0 (kq ≤ k2) ∧ Aside0 (Kd.R k41 41 wc w.heap.size (fun _ => True) v188 t186) ∧ Aside0 (Below w.heap.size w wc))
                              case first =>
                                have H := HC35.out
                                clear HC35
                                by_cases c50 : a4 = 0
                                · rw [if_pos c50] at H
                                  have c50b0 : (a4 == 0) = true := beq_iff_eq.mpr c50
                                  have c50b1 : (a4 != 0) = false := bne_eq_false_iff_eq.mpr c50
                                  clear c50
                                  (first | rw [c50b0] | (simp only [i64_w, i32_w]; rw [c50b0]) | skip)
                                  by_cases c51 : t214 = 0
                                  · rw [if_pos c51] at H
                                    have c51b0 : (t214 == 0) = true := beq_iff_eq.mpr c51
                                    have c51b1 : (t214 != 0) = false := bne_eq_false_iff_eq.mpr c51
                                    clear c51
                                    have H' := Aside0.mk H
                                    clear H
                                    go_wp2
                                    go_meet
                                    case rel => exact ⟨_, (false), (by first | rfl | (simp; done) | (simp [*]; done)), H', ⟨by have := HJ5.out; have := HK2.out; first | omega | exact Nat.le_refl _⟩, ⟨by (with_reducible repeat (first | apply Kd.R_alloc | apply Kd.R_drewN | apply Kd.R_drew)); exact Kd.R_mono HO189.out (fun _ hk => trivial)⟩, ⟨by repeat (first | (with_reducible first | exact HB.out | apply below_alloc | apply pw_below_drewN | apply below_drew1) | exact HB.out)⟩⟩
                                  · rw [if_neg c51] at H
                                    have c51b0 : (t214 == 0) = false := beq_eq_false_iff_ne.mpr c51
                                    have c51b1 : (t214 != 0) = true := bne_iff_ne.mpr c51
                                    have H' := Aside0.mk H
                                    clear H
                                    go_wp2
                                    go_meet
                                    case rel => exact ⟨_, (true), (by first | rfl | (simp; done) | (simp [*]; done)), H', ⟨by have := HJ5.out; have := HK2.out; first | omega | exact Nat.le_refl _⟩, ⟨by (with_reducible repeat (first | apply Kd.R_alloc | apply Kd.R_drewN | apply Kd.R_drew)); exact Kd.R_mono HO189.out (fun _ hk => trivial)⟩, ⟨by repeat (first | (with_reducible first | exact HB.out | apply below_alloc | apply pw_below_drewN | apply below_drew1) | exact HB.out)⟩⟩
                                · rw [if_neg c50] at H
                                  have c50b0 : (a4 == 0) = false := beq_eq_false_iff_ne.mpr c50
                                  have c50b1 : (a4 != 0) = true := bne_iff_ne.mpr c50
                                  (first | rw [c50b0] | (simp only [i64_w, i32_w]; rw [c50b0]) | skip)
                                  by_cases c52 : t214 = 0
                                  · rw [if_pos c52] at H
                                    have c52b0 : (t214 == 0) = true := beq_iff_eq.mpr c52
                                    have c52b1 : (t214 != 0) = false := bne_eq_false_iff_eq.mpr c52
                                    clear c52
                                    replace H := Option.bind_eq_some_iff.mp H
                                    obtain ⟨t217, A530, H⟩ := H
                                    replace H : (lapidarylaw06_CoderBack.j2 k2 l1 t186 t187 t195 t205 t217) = some r := H
                                    have A53 := Aside0.mk A530
                                    clear A530
                                    have H' := Aside0.mk H
                                    clear H
                                    obtain ⟨Ao54, co54, eo54⟩ := Kd.R_slice HO216.out
                                    subst eo54
                                    go_wp2_with (first | (go_at_call 17; (with_reducible refine (lapidaryref06_Same.calls k2 _ _ t213 _ _ l1 t217 _ ?side1 ?side2 ?side3 ?side4 A53.out).mono ?_); (case side1 => repeat (first | exact (Kd.R_reads' HO216.out).2.2 | (with_reducible refine Kd.C_alloc ?_ _) | (with_reducible refine Kd.C_drewN ?_ _) | (with_reducible refine Kd.C_drew ?_))); (case side2 => exact (Kd.R_reads' HO216.out).2.1); (case side3 => repeat (first | exact (Kd.C_below HR1.out HB.out) | (with_reducible refine Kd.C_alloc ?_ _) | (with_reducible refine Kd.C_drewN ?_ _) | (with_reducible refine Kd.C_drew ?_))); (case side4 => exact HC1.out); rintro e w' ⟨rfl, ⟨nd, rfl⟩⟩))
                                    go_meet
                                    case rel => exact ⟨_, (t217), (by first | rfl | (simp; done) | (simp [*]; done)), H', ⟨by have := HJ5.out; have := HK2.out; first | omega | exact Nat.le_refl _⟩, ⟨by (with_reducible repeat (first | apply Kd.R_alloc | apply Kd.R_drewN | apply Kd.R_drew)); exact Kd.R_mono HO189.out (fun _ hk => trivial)⟩, ⟨by repeat (first | (with_reducible first | exact HB.out | apply below_alloc | apply pw_below_drewN | apply below_drew1) | exact HB.out)⟩⟩
                                  · rw [if_neg c52] at H
                                    have c52b0 : (t214 == 0) = false := beq_eq_false_iff_ne.mpr c52
                                    have c52b1 : (t214 != 0) = true := bne_iff_ne.mpr c52
                                    have H' := Aside0.mk H
                                    clear H
                                    go_wp2
                                    go_meet
                                    case rel => exact ⟨_, (false), (by first | rfl | (simp; done) | (simp [*]; done)), H', ⟨by have := HJ5.out; have := HK2.out; first | omega | exact Nat.le_refl _⟩, ⟨by (with_reducible repeat (first | apply Kd.R_alloc | apply Kd.R_drewN | apply Kd.R_drew)); exact Kd.R_mono HO189.out (fun _ hk => trivial)⟩, ⟨by repeat (first | (with_reducible first | exact HB.out | apply below_alloc | apply pw_below_drewN | apply below_drew1) | exact HB.out)⟩⟩
                              case rest =>
                                clear HC35
                                try clear c1
                                try clear p1
                                try clear q1
                                try clear hx1
                                try clear c2
                                try clear p2
                                try clear q2
                                try clear hx2
                                try clear c3
                                try clear p3
                                try clear q3
                                try clear hx3
                                try clear c5
                                try clear p6
                                try clear c7
                                try clear c7b0
                                try clear c7b1
                                try clear c8
                                try clear c11
                                try clear c12
                                try clear c12b0
                                try clear c12b1
                                try clear c14
                                try clear c14b0
                                try clear c15
                                try clear c15b0
                                try clear c16
                                try clear c18
                                try clear c18b0
                                try clear c18b1
                                try clear c18b2
                                try clear p18
                                try clear q18
                                try clear hx18
                                try clear p21
                                try clear q21
                                try clear hx21
                                try clear c22
                                try clear c22b0
                                try clear c22b1
                                try clear c23
                                try clear c23b0
                                try clear c23b1
                                try clear c26
                                try clear c29
                                try clear c29b0
                                try clear c29b1
                                try clear c29b2
                                try clear c31
                                try clear c31b0
                                try clear c32
                                try clear c32b0
                                try clear p33
                                try clear q33
                                try clear hx33
                                try clear hf33
                                try clear q39
                                try clear c50
                                try clear c50b0
                                try clear c50b1
                                try clear c51
                                try clear c51b0
                                try clear c51b1
                                try clear c52
                                try clear c52b0
                                try clear c52b1
                                try clear hx182_0
                                try clear hx182_1
                                try clear hx211_0
                                try clear hx33_0
                                try clear p182
                                try clear p2
                                try clear p211
                                try clear p33
                                try clear q182
                                try clear q211
                                try clear q33
                                try clear q39
                                obtain ⟨kq, x142_34, rfl, HA, HJ34, HO_15, HB⟩ := hcut
                                cases kq with
                                | zero => exact absurd HA.out (by simp [lapidarylaw06_CoderBack.j2])
                                | succ kj34 =>
                                  have H := HA.out
                                  clear HA
                                  simp only [lapidarylaw06_CoderBack.j2] at H
                                  by_cases c55 : x142_34 = true
                                  · subst c55
                                    have H1 : (some false) = some r := by rw [if_pos rfl] at H; exact H
                                    clear H
                                    have H := H1
                                    clear H1
                                    obtain rfl := Option.some.inj H
                                    go_wp2
                                    go_ret
                                    exact ⟨by first | rfl | (simp [errW_none, errW_some] <;> rfl) | (simp only [← hji21, ← hji30]; first | rfl | (simp [errW_none, errW_some] <;> rfl)) | (simp [*, errW_none, errW_some] <;> rfl), by repeat (first | (with_reducible first | exact HB.out | apply below_alloc | apply pw_below_drewN | apply below_drew1) | exact HB.out)⟩
                                  · replace c55 := Bool.eq_false_iff.mpr c55
                                    subst c55
                                    have H1 : (if t187 = 0 then ((lapidaryref06_Same.f kj34 t186 l1).bind fun t218 => (if t218 = true then (if t195 = 11 then (if t205 = 11 then ((lapidarylaw06_known.f kj34).bind fun t219 => (some t219)) else (some false)) else (some false)) else (some false))) else (some false)) = some r := by rw [if_neg (show ¬ (false = true) by decide)] at H; exact H
                                    clear H
                                    have H := H1
                                    clear H1
                                    by_cases c56 : t187 = 0
                                    · rw [if_pos c56] at H
                                      have c56b0 : (t187 == 0) = true := beq_iff_eq.mpr c56
                                      have c56b1 : (t187 != 0) = false := bne_eq_false_iff_eq.mpr c56
                                      clear c56
                                      replace H := Option.bind_eq_some_iff.mp H
                                      obtain ⟨t218, A570, H⟩ := H
                                      replace H : (if t218 = true then (if t195 = 11 then (if t205 = 11 then ((lapidarylaw06_known.f kj34).bind fun t219 => (some t219)) else (some false)) else (some false)) else (some false)) = some r := H
                                      have A57 := Aside0.mk A570
                                      clear A570
                                      by_cases c58 : t218 = true
                                      · subst c58
                                        have H1 : (if t195 = 11 then (if t205 = 11 then ((lapidarylaw06_known.f kj34).bind fun t219 => (some t219)) else (some false)) else (some false)) = some r := by rw [if_pos rfl] at H; exact H
                                        clear H
                                        have H := H1
                                        clear H1
                                        by_cases c59 : t195 = 11
                                        · rw [if_pos c59] at H
                                          have c59b0 : (t195 == 11) = true := beq_iff_eq.mpr c59
                                          have c59b1 : (t195 != 11) = false := bne_eq_false_iff_eq.mpr c59
                                          clear c59
                                          by_cases c60 : t205 = 11
                                          · rw [if_pos c60] at H
                                            have c60b0 : (t205 == 11) = true := beq_iff_eq.mpr c60
                                            have c60b1 : (t205 != 11) = false := bne_eq_false_iff_eq.mpr c60
                                            clear c60
                                            replace H := Option.bind_eq_some_iff.mp H
                                            obtain ⟨t219, A610, H⟩ := H
                                            replace H : (some t219) = some r := H
                                            have A61 := Aside0.mk A610
                                            clear A610
                                            obtain rfl := Option.some.inj H
                                            obtain ⟨Ao62, co62, eo62⟩ := Kd.R_slice HO_15.out
                                            subst eo62
                                            go_wp2_with (first | (go_at_call 17; (with_reducible refine (lapidaryref06_Same.calls kj34 _ _ t186 _ _ l1 true _ ?side1 ?side2 ?side3 ?side4 A57.out).mono ?_); (case side1 => repeat (first | exact (Kd.R_reads' HO_15.out).2.2 | (with_reducible refine Kd.C_alloc ?_ _) | (with_reducible refine Kd.C_drewN ?_ _) | (with_reducible refine Kd.C_drew ?_))); (case side2 => exact (Kd.R_reads' HO_15.out).2.1); (case side3 => repeat (first | exact (Kd.C_below HR1.out HB.out) | (with_reducible refine Kd.C_alloc ?_ _) | (with_reducible refine Kd.C_drewN ?_ _) | (with_reducible refine Kd.C_drew ?_))); (case side4 => exact HC1.out); rintro e w' ⟨rfl, ⟨nd, rfl⟩⟩) | (go_at_call 11; (with_reducible refine (lapidarylaw06_known.calls kj34  t219 _ A61.out).mono ?_); rintro e w63 ⟨rfl, hb⟩; have n0_ := Aside0.mk (Kd.R_below (by (with_reducible repeat (first | apply Kd.R_alloc | apply Kd.R_drewN | apply Kd.R_drew)); exact HO_15.out) hb); have n2_ := Aside0.mk (below_step (by repeat (first | (with_reducible first | exact HB.out | apply below_alloc | apply pw_below_drewN | apply below_drew1) | exact HB.out)) hb); clear HO_15; clear HB; have HO_15 := n0_; have HB := n2_; clear n0_ n2_; (try clear hb); (try clear hb2); (try clear hk); (try clear hi)))
                                            go_ret
                                            exact ⟨by first | rfl | (simp [errW_none, errW_some] <;> rfl) | (simp only [← hji21, ← hji30]; first | rfl | (simp [errW_none, errW_some] <;> rfl)) | (simp [*, errW_none, errW_some] <;> rfl), by repeat (first | (with_reducible first | exact HB.out | apply below_alloc | apply pw_below_drewN | apply below_drew1) | exact HB.out)⟩
                                          · rw [if_neg c60] at H
                                            have c60b0 : (t205 == 11) = false := beq_eq_false_iff_ne.mpr c60
                                            have c60b1 : (t205 != 11) = true := bne_iff_ne.mpr c60
                                            obtain rfl := Option.some.inj H
                                            obtain ⟨Ao64, co64, eo64⟩ := Kd.R_slice HO_15.out
                                            subst eo64
                                            go_wp2_with (first | (go_at_call 17; (with_reducible refine (lapidaryref06_Same.calls kj34 _ _ t186 _ _ l1 true _ ?side1 ?side2 ?side3 ?side4 A57.out).mono ?_); (case side1 => repeat (first | exact (Kd.R_reads' HO_15.out).2.2 | (with_reducible refine Kd.C_alloc ?_ _) | (with_reducible refine Kd.C_drewN ?_ _) | (with_reducible refine Kd.C_drew ?_))); (case side2 => exact (Kd.R_reads' HO_15.out).2.1); (case side3 => repeat (first | exact (Kd.C_below HR1.out HB.out) | (with_reducible refine Kd.C_alloc ?_ _) | (with_reducible refine Kd.C_drewN ?_ _) | (with_reducible refine Kd.C_drew ?_))); (case side4 => exact HC1.out); rintro e w' ⟨rfl, ⟨nd, rfl⟩⟩))
                                            go_ret
                                            exact ⟨by first | rfl | (simp [errW_none, errW_some] <;> rfl) | (simp only [← hji21, ← hji30]; first | rfl | (simp [errW_none, errW_some] <;> rfl)) | (simp [*, errW_none, errW_some] <;> rfl), by repeat (first | (with_reducible first | exact HB.out | apply below_alloc | apply pw_below_drewN | apply below_drew1) | exact HB.out)⟩
                                        · rw [if_neg c59] at H
                                          have c59b0 : (t195 == 11) = false := beq_eq_false_iff_ne.mpr c59
                                          have c59b1 : (t195 != 11) = true := bne_iff_ne.mpr c59
                                          obtain rfl := Option.some.inj H
                                          obtain ⟨Ao65, co65, eo65⟩ := Kd.R_slice HO_15.out
                                          subst eo65
                                          go_wp2_with (first | (go_at_call 17; (with_reducible refine (lapidaryref06_Same.calls kj34 _ _ t186 _ _ l1 true _ ?side1 ?side2 ?side3 ?side4 A57.out).mono ?_); (case side1 => repeat (first | exact (Kd.R_reads' HO_15.out).2.2 | (with_reducible refine Kd.C_alloc ?_ _) | (with_reducible refine Kd.C_drewN ?_ _) | (with_reducible refine Kd.C_drew ?_))); (case side2 => exact (Kd.R_reads' HO_15.out).2.1); (case side3 => repeat (first | exact (Kd.C_below HR1.out HB.out) | (with_reducible refine Kd.C_alloc ?_ _) | (with_reducible refine Kd.C_drewN ?_ _) | (with_reducible refine Kd.C_drew ?_))); (case side4 => exact HC1.out); rintro e w' ⟨rfl, ⟨nd, rfl⟩⟩))
                                          go_ret
                                          exact ⟨by first | rfl | (simp [errW_none, errW_some] <;> rfl) | (simp only [← hji21, ← hji30]; first | rfl | (simp [errW_none, errW_some] <;> rfl)) | (simp [*, errW_none, errW_some] <;> rfl), by repeat (first | (with_reducible first | exact HB.out | apply below_alloc | apply pw_below_drewN | apply below_drew1) | exact HB.out)⟩
                                      · replace c58 := Bool.eq_false_iff.mpr c58
                                        subst c58
                                        have H1 : (some false) = some r := by rw [if_neg (show ¬ (false = true) by decide)] at H; exact H
                                        clear H
                                        have H := H1
                                        clear H1
                                        obtain rfl := Option.some.inj H
                                        obtain ⟨Ao66, co66, eo66⟩ := Kd.R_slice HO_15.out
                                        subst eo66
                                        go_wp2_with (first | (go_at_call 17; (with_reducible refine (lapidaryref06_Same.calls kj34 _ _ t186 _ _ l1 false _ ?side1 ?side2 ?side3 ?side4 A57.out).mono ?_); (case side1 => repeat (first | exact (Kd.R_reads' HO_15.out).2.2 | (with_reducible refine Kd.C_alloc ?_ _) | (with_reducible refine Kd.C_drewN ?_ _) | (with_reducible refine Kd.C_drew ?_))); (case side2 => exact (Kd.R_reads' HO_15.out).2.1); (case side3 => repeat (first | exact (Kd.C_below HR1.out HB.out) | (with_reducible refine Kd.C_alloc ?_ _) | (with_reducible refine Kd.C_drewN ?_ _) | (with_reducible refine Kd.C_drew ?_))); (case side4 => exact HC1.out); rintro e w' ⟨rfl, ⟨nd, rfl⟩⟩))
                                        go_ret
                                        exact ⟨by first | rfl | (simp [errW_none, errW_some] <;> rfl) | (simp only [← hji21, ← hji30]; first | rfl | (simp [errW_none, errW_some] <;> rfl)) | (simp [*, errW_none, errW_some] <;> rfl), by repeat (first | (with_reducible first | exact HB.out | apply below_alloc | apply pw_below_drewN | apply below_drew1) | exact HB.out)⟩
                                    · rw [if_neg c56] at H
                                      have c56b0 : (t187 == 0) = false := beq_eq_false_iff_ne.mpr c56
                                      have c56b1 : (t187 != 0) = true := bne_iff_ne.mpr c56
                                      obtain rfl := Option.some.inj H
                                      go_wp2
                                      go_ret
                                      exact ⟨by first | rfl | (simp [errW_none, errW_some] <;> rfl) | (simp only [← hji21, ← hji30]; first | rfl | (simp [errW_none, errW_some] <;> rfl)) | (simp [*, errW_none, errW_some] <;> rfl), by repeat (first | (with_reducible first | exact HB.out | apply below_alloc | apply pw_below_drewN | apply below_drew1) | exact HB.out)⟩
                            · rw [if_neg c32] at H
                              exact absurd H (by simp)
                          · rw [if_neg c31] at H
                            exact absurd H (by simp)
                      · rw [if_neg c26] at H
                        exact absurd H (by simp)
                    · rw [if_neg c23] at H
                      exact absurd H (by simp)
                  · rw [if_neg c22] at H
                    exact absurd H (by simp)
        · rw [if_neg c12] at H
          have c12b0 : (t178 == 0) = false := beq_eq_false_iff_ne.mpr c12
          have c12b1 : (t178 != 0) = true := bne_iff_ne.mpr c12
          by_cases c67 : (t177.length : Int) = 0
          · rw [if_pos c67] at H
            have c67b0 : ((t177.length : Int) == 0) = true := beq_iff_eq.mpr c67
            have c67b1 : ((t177.length : Int) != 0) = false := bne_eq_false_iff_eq.mpr c67
            clear c67
            replace H := Option.bind_eq_some_iff.mp H
            obtain ⟨t181, A680, H⟩ := H
            replace H : (some t181) = some r := H
            have A68 := Aside0.mk A680
            clear A680
            obtain rfl := Option.some.inj H
            go_wp2_with (first | ((with_reducible refine gate_callee (f := 12) rfl ?_); refine goesL_ (some 37) rfl rfl Try.func12 (by kernel_rfl) rfl #[.slice A0 l0.length c0, .slice A1 l1.length c1] rfl (by (try simp only [List.map_toArray, List.map_cons, List.map_nil]); first | done | rfl | (simp only [List.length_drop, List.length_take]; rfl)) ?_; (with_reducible refine (coder_Encode.calls _ _ l0 _ _ l1 t177 t178 _ ?side1 ?side2 ?side3 ?side4 A11.out).mono ?_); (case side1 => repeat (first | exact (Kd.C_below HR0.out HB.out) | (with_reducible refine Kd.C_alloc ?_ _) | (with_reducible refine Kd.C_drewN ?_ _) | (with_reducible refine Kd.C_drew ?_))); (case side2 => exact HC0.out); (case side3 => repeat (first | exact (Kd.C_below HR1.out HB.out) | (with_reducible refine Kd.C_alloc ?_ _) | (with_reducible refine Kd.C_drewN ?_ _) | (with_reducible refine Kd.C_drew ?_))); (case side4 => exact HC1.out); rintro e w69 ⟨v179, rfl, ho0, hb⟩; refine ⟨_, rfl, ?_⟩; have n0_ := Aside0.mk (Kd.R_lower ho0 (below_size (by repeat (first | (with_reducible first | exact HB.out | apply below_alloc | apply pw_below_drewN | apply below_drew1) | exact HB.out)))); have n1_ := Aside0.mk (below_step (by repeat (first | (with_reducible first | exact HB.out | apply below_alloc | apply pw_below_drewN | apply below_drew1) | exact HB.out)) hb); clear HB; have HO180 := n0_; have HB := n1_; clear n0_ n1_; (try clear hb); (try clear hb2); (try clear hk); (try clear hi); (try clear ho0); obtain ⟨Ao70, co70, eo70⟩ := Kd.R_slice HO180.out; subst eo70) | (go_at_call 11; (with_reducible refine (lapidarylaw06_known.calls kj5  t181 _ A68.out).mono ?_); rintro e w71 ⟨rfl, hb⟩; have n0_ := Aside0.mk (Kd.R_below (by (with_reducible repeat (first | apply Kd.R_alloc | apply Kd.R_drewN | apply Kd.R_drew)); exact HO180.out) hb); have n1_ := Aside0.mk (below_step (by repeat (first | (with_reducible first | exact HB.out | apply below_alloc | apply pw_below_drewN | apply below_drew1) | exact HB.out)) hb); clear HO180; clear HB; have HO180 := n0_; have HB := n1_; clear n0_ n1_; (try clear hb); (try clear hb2); (try clear hk); (try clear hi)))
            go_ret
            exact ⟨by first | rfl | (simp [errW_none, errW_some] <;> rfl) | (simp [*, errW_none, errW_some] <;> rfl), by repeat (first | (with_reducible first | exact HB.out | apply below_alloc | apply pw_below_drewN | apply below_drew1) | exact HB.out)⟩
          · rw [if_neg c67] at H
            have c67b0 : ((t177.length : Int) == 0) = false := beq_eq_false_iff_ne.mpr c67
            have c67b1 : ((t177.length : Int) != 0) = true := bne_iff_ne.mpr c67
            have c67b2 : ¬ (t177 = []) := fun h_ => c67 (by rw [h_]; rfl)
            obtain rfl := Option.some.inj H
            go_wp2_with (first | ((with_reducible refine gate_callee (f := 12) rfl ?_); refine goesL_ (some 37) rfl rfl Try.func12 (by kernel_rfl) rfl #[.slice A0 l0.length c0, .slice A1 l1.length c1] rfl (by (try simp only [List.map_toArray, List.map_cons, List.map_nil]); first | done | rfl | (simp only [List.length_drop, List.length_take]; rfl)) ?_; (with_reducible refine (coder_Encode.calls _ _ l0 _ _ l1 t177 t178 _ ?side1 ?side2 ?side3 ?side4 A11.out).mono ?_); (case side1 => repeat (first | exact (Kd.C_below HR0.out HB.out) | (with_reducible refine Kd.C_alloc ?_ _) | (with_reducible refine Kd.C_drewN ?_ _) | (with_reducible refine Kd.C_drew ?_))); (case side2 => exact HC0.out); (case side3 => repeat (first | exact (Kd.C_below HR1.out HB.out) | (with_reducible refine Kd.C_alloc ?_ _) | (with_reducible refine Kd.C_drewN ?_ _) | (with_reducible refine Kd.C_drew ?_))); (case side4 => exact HC1.out); rintro e w72 ⟨v179, rfl, ho0, hb⟩; refine ⟨_, rfl, ?_⟩; have n0_ := Aside0.mk (Kd.R_lower ho0 (below_size (by repeat (first | (with_reducible first | exact HB.out | apply below_alloc | apply pw_below_drewN | apply below_drew1) | exact HB.out)))); have n1_ := Aside0.mk (below_step (by repeat (first | (with_reducible first | exact HB.out | apply below_alloc | apply pw_below_drewN | apply below_drew1) | exact HB.out)) hb); clear HB; have HO180 := n0_; have HB := n1_; clear n0_ n1_; (try clear hb); (try clear hb2); (try clear hk); (try clear hi); (try clear ho0); obtain ⟨Ao73, co73, eo73⟩ := Kd.R_slice HO180.out; subst eo73))
            go_ret
            exact ⟨by first | rfl | (simp [errW_none, errW_some] <;> rfl) | (simp [*, errW_none, errW_some] <;> rfl), by repeat (first | (with_reducible first | exact HB.out | apply below_alloc | apply pw_below_drewN | apply below_drew1) | exact HB.out)⟩

end Go.Proofs.Ythegimfokcdehaa.PCod
