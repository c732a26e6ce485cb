/- The statements of grid: those whose parameters are numbers. -/
import Derived.Test.YtpkcabpnehbmhaaGridWalk7
import Derived.Below
namespace Go.Proofs.Ytpkcabpnehbmhaa.GW
open Go Go.RowKit Go.Proofs.Ytpkcabpnehbmhaa.Mem Go.Proofs.Ytpkcabpnehbmhaa.FM
set_option linter.unusedVariables false
set_option linter.unusedSimpArgs false

theorem k1 : scaledB 4613937818241073152 0 = (3, 0) := by decide +kernel
theorem k2 : scaledB 9223372036854775808 0 = (0, 71) := by decide +kernel
theorem k3 : scaledB 4604930618986332160 2 = (3, 0) := by decide +kernel
theorem k4 : roundB 4612811918334230528 = (2, 0) := by decide +kernel
theorem k5 : roundB 13838435755002691584 = (-4, 0) := by decide +kernel
theorem k6 : scaledB 9221120237041090561 0 = (0, 70) := by decide +kernel
theorem k7 : wd (ng 13830554455654793216) (rung 0) = 9223372036854775808 := by decide

set_option maxRecDepth 100000 in
theorem known16 (w : World) : Calls Try.prog 16 #[] w fun e w' => e = .returned (.bool true) ∧ w' = w := by
  go_enter Try.func16, Try.ntmps16
  go_wp2_with fail
  refine (Int15 _ (by decide) _).mono ?_
  rintro e _ ⟨rfl, rfl⟩
  rw [k1]
  go_wp2_with fail
  refine (Copysign24 _ _ (by decide) (by decide) _).mono ?_
  rintro e _ ⟨rfl, rfl⟩
  rw [k7]
  go_wp2_with fail
  refine (Int15 _ (by decide) _).mono ?_
  rintro e _ ⟨rfl, rfl⟩
  rw [k2]
  go_wp2_with fail
  refine (Scaled13 _ (by decide) _ _).mono ?_
  rintro e _ ⟨rfl, rfl⟩
  rw [k3]
  go_wp2_with fail
  refine (Round17 _ (by decide) _).mono ?_
  rintro e _ ⟨rfl, rfl⟩
  rw [k4]
  go_wp2_with fail
  refine (Round17 _ (by decide) _).mono ?_
  rintro e _ ⟨rfl, rfl⟩
  rw [k5]
  go_wp2_with fail
  refine (NaN37 _).mono ?_
  rintro e _ ⟨rfl, rfl⟩
  go_wp2_with fail
  refine (Int15 _ (by decide) _).mono ?_
  rintro e _ ⟨rfl, rfl⟩
  rw [k6]
  go_wp2
  go_ret
  exact ⟨rfl, rfl⟩

theorem wf_u64 {a : Int} (h : (Lit.int .u64 a).wf = true) : ∃ b : Nat, a = b ∧ b < 18446744073709551616 := by
  simp [Lit.wf, IntKind.min, IntKind.max, IntKind.bits, IntKind.signed] at h
  exact ⟨a.toNat, by omega, by omega⟩
theorem wf_i64 {a : Int} (h : (Lit.int .i64 a).wf = true) : -9223372036854775808 ≤ a ∧ a ≤ 9223372036854775807 := by
  simp [Lit.wf, IntKind.min, IntKind.max, IntKind.bits, IntKind.signed] at h
  omega
theorem wf_i32 {a : Int} (h : (Lit.int .i32 a).wf = true) : -2147483648 ≤ a ∧ a ≤ 2147483647 := by
  simp [Lit.wf, IntKind.min, IntKind.max, IntKind.bits, IntKind.signed] at h
  omega
theorem wf_u8 {a : Int} (h : (Lit.int .u8 a).wf = true) : 0 ≤ a ∧ a ≤ 255 := by
  simp [Lit.wf, IntKind.min, IntKind.max, IntKind.bits, IntKind.signed] at h
  omega

theorem good {W : World} : Below W.heap.size W W := Below.refl _ _

set_option maxRecDepth 100000 in
theorem takes3 (W : World) (a : Int) (ha : (Lit.int .u64 a).wf = true) (up : Int) (hu : (Lit.int .i64 up).wf = true) : Calls Try.prog 3 #[.int .u64 a, .int .i64 up] W fun e W' => e = .returned (.bool true) ∧ Below W.heap.size W W' := by
  obtain ⟨b, rfl, hb⟩ := wf_u64 ha
  have h12 := x12
  clear ha hu
  go_enter Try.func3, Try.ntmps3
  go_wp2_with fail
  refine (Scaled13 b hb _ _).mono ?_
  rintro e _ ⟨rfl, rfl⟩
  go_wp2_with fail
  refine (Scaled14 b hb _ _).mono ?_
  rintro e _ ⟨rfl, rfl⟩
  go_wp2_with fail
  refine (Int15 b hb _).mono ?_
  rintro e _ ⟨rfl, rfl⟩
  go_wp2_with fail
  refine (Scaled14 b hb _ _).mono ?_
  rintro e _ ⟨rfl, rfl⟩
  go_wp2_with fail
  refine (known16 _).mono ?_
  rintro e _ ⟨rfl, rfl⟩
  go_wp2
  go_ret
  exact ⟨rfl, good⟩

set_option maxRecDepth 100000 in
theorem rounds4 (W : World) (a : Int) (ha : (Lit.int .u64 a).wf = true) : Calls Try.prog 4 #[.int .u64 a] W fun e W' => e = .returned (.bool true) ∧ Below W.heap.size W W' := by
  obtain ⟨b, rfl, hb⟩ := wf_u64 ha
  have h12 := x12
  clear ha
  go_enter Try.func4, Try.ntmps4
  go_wp2_with fail
  refine (Round17 b hb _).mono ?_
  rintro e _ ⟨rfl, rfl⟩
  go_wp2_with fail
  refine (Round18 b hb _).mono ?_
  rintro e _ ⟨rfl, rfl⟩
  go_wp2_with fail
  refine (Kind19 b hb _).mono ?_
  rintro e _ ⟨rfl, rfl⟩
  go_wp2_with fail
  refine (Kind20 b hb _).mono ?_
  rintro e _ ⟨rfl, rfl⟩
  go_wp2_with fail
  refine (known16 _).mono ?_
  rintro e _ ⟨rfl, rfl⟩
  go_wp2
  go_ret
  exact ⟨rfl, good⟩

theorem same_self (x : Nat) : sameB x x = true := by unfold sameB; rw [decide_eq_true rfl]; rfl
theorem same_comm (x y : Nat) : sameB y x = sameB x y := by
  unfold sameB
  by_cases h : x = y
  · subst h; rfl
  · rw [decide_eq_false h, decide_eq_false (fun e => h e.symm), Bool.false_or, Bool.false_or, Bool.and_comm]

set_option maxRecDepth 100000 in
theorem same7 (W : World) (a : Int) (ha : (Lit.int .u64 a).wf = true) (c : Int) (hc : (Lit.int .u64 c).wf = true) : Calls Try.prog 7 #[.int .u64 a, .int .u64 c] W fun e W' => e = .returned (.bool true) ∧ Below W.heap.size W W' := by
  obtain ⟨x, rfl, hx⟩ := wf_u64 ha
  obtain ⟨y, rfl, hy⟩ := wf_u64 hc
  have h12 := x12
  clear ha hc
  go_enter Try.func7, Try.ntmps7
  go_wp2_with fail
  refine (Same21 x y hx hy _).mono ?_
  rintro e _ ⟨rfl, rfl⟩
  go_wp2_with fail
  refine (Same22 x y hx hy _).mono ?_
  rintro e _ ⟨rfl, rfl⟩
  go_wp2_with fail
  refine (Same21 x x hx hx _).mono ?_
  rintro e _ ⟨rfl, rfl⟩
  rw [same_self]
  go_wp2_with fail
  refine (Same21 y x hy hx _).mono ?_
  rintro e _ ⟨rfl, rfl⟩
  rw [same_comm]
  go_wp2_with fail
  refine (Same21 x y hx hy _).mono ?_
  rintro e _ ⟨rfl, rfl⟩
  go_wp2_with fail
  refine (known16 _).mono ?_
  rintro e _ ⟨rfl, rfl⟩
  go_wp2
  go_ret
  exact ⟨rfl, good⟩

theorem float_word (n up : Int) : (floatB n up).1 < 18446744073709551616 := by
  unfold floatB
  split
  · decide
  · rename_i h
    have hc : coordB n = true := by cases hc : coordB n; exact absurd (.inr (.inr hc)) h; rfl
    have := (coordB_iff n).1 hc
    exact wd_lt (rungOf_lt (has_float (by omega) (by omega)))
theorem float_zero (n up : Int) : (floatB n up).2 = 0 ∨ ((floatB n up).2 = 2 ∧ (floatB n up).1 = 0) := by
  unfold floatB
  split
  · exact .inr ⟨rfl, rfl⟩
  · exact .inl rfl

set_option maxRecDepth 100000 in
theorem floats10 (W : World) (n : Int) (hn : (Lit.int .i64 n).wf = true) (up : Int) (hu : (Lit.int .i64 up).wf = true) : Calls Try.prog 10 #[.int .i64 n, .int .i64 up] W fun e W' => e = .returned (.bool true) ∧ Below W.heap.size W W' := by
  have hn' := wf_i64 hn
  clear hn hu
  have h27 := x27
  have hw := float_word n up
  have hz := float_zero n up
  go_enter Try.func10, Try.ntmps10
  go_wp2_with fail
  refine (Float25 n up hn'.1 hn'.2 _).mono ?_
  rintro e _ ⟨rfl, rfl⟩
  go_wp2_with fail
  refine (Float26 n up hn'.1 hn'.2 _).mono ?_
  rintro e _ ⟨rfl, rfl⟩
  generalize (floatB n up).1 = x at *
  generalize (floatB n up).2 = y at *
  go_wp2_with fail
  refine (Same21 x x hw hw _).mono ?_
  rintro e _ ⟨rfl, rfl⟩
  rw [same_self]
  rcases hz with rfl | ⟨rfl, rfl⟩
  all_goals
    go_wp2_with fail
    refine (known16 _).mono ?_
    rintro e _ ⟨rfl, rfl⟩
    go_wp2
    go_ret
    exact ⟨rfl, good⟩
end Go.Proofs.Ytpkcabpnehbmhaa.GW
