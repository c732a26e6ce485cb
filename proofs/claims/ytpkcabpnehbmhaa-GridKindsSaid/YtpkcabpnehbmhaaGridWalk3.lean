/- The walks of the floating functions: whole parts, powers of two. -/
import Derived.Test.YtpkcabpnehbmhaaGridWalk2
namespace Go.Proofs.Ytpkcabpnehbmhaa.GW
open Go Go.RowKit Go.Proofs.Ytpkcabpnehbmhaa.Mem Go.Proofs.Ytpkcabpnehbmhaa.FM
set_option linter.unusedVariables false
set_option linter.unusedSimpArgs false

def truncB (b : Nat) : Nat := wd (ng b) (rungOf (mag b / U * U))
def evenB (b : Nat) : Nat := wd (ng b) (rungOf (rnd (mag b) U * U))

theorem toIntegral_fin (name : String) (way : Ieee.Toward) (b : Nat) (h : FM.Fin b) : Extern.MathFloor.toIntegral name way #[.float .f64 b] = pure (.float .f64 (Ieee.double.write ((Ieee.double.read b).integral way))) := by
  have h1 : FloatKind.f64.decode b = .number (ng b) (sig (rung b)) (-1074 + (lev (rung b) : Nat)) := read_fin h
  have h2 : Ieee.double.read b = .number (ng b) (sig (rung b)) (-1074 + (lev (rung b) : Nat)) := read_fin h
  rw [h2]
  delta Extern.MathFloor.toIntegral
  conv => lhs; whnf
  rw [h1]
  rfl
theorem toIntegral_inf (name : String) (way : Ieee.Toward) (b : Nat) (hb : b < 18446744073709551616) (h : rung b = 9218868437227405312) : Extern.MathFloor.toIntegral name way #[.float .f64 b] = pure (.float .f64 b) := by
  have h1 : FloatKind.f64.decode b = .infinity (ng b) := read_inf h
  have h2 : FloatKind.f64.encode ((Ieee.Datum.infinity (ng b)).integral way) = b := by
    have h3 : Ieee.double.infRung = 9218868437227405312 := by decide
    show Ieee.double.word (ng b) Ieee.double.infRung = b
    rw [word_wd, h3, ← h, wd_self hb]
  conv => rhs; rw [← h2]
  delta Extern.MathFloor.toIntegral
  conv => lhs; whnf
  rw [h1]

theorem x43 (b : Nat) (h : FM.Fin b) (w : World) : (Sem.run Try.prog (callFunc 43 #[.float .f64 b]) w) = .ok (.value (.float .f64 (truncB b))) w := by
  rw [run_callFunc_extern (e := Extern.MathFloor.toIntegral "math.archTrunc" .zero) Try.func43 (by kernel_rfl) (by kernel_rfl) (by kernel_rfl) (by kernel_rfl)]
  rw [toIntegral_fin _ _ b h, trunc_fin h]
  rfl
theorem x38 (b : Nat) (h : FM.Fin b) (w : World) : (Sem.run Try.prog (callFunc 38 #[.float .f64 b]) w) = .ok (.value (.float .f64 (evenB b))) w := by
  rw [run_callFunc_extern (e := Extern.MathFloor.toIntegral "math.RoundToEven" .even) Try.func38 (by kernel_rfl) (by kernel_rfl) (by kernel_rfl) (by kernel_rfl)]
  rw [toIntegral_fin _ _ b h, even_fin h]
  rfl
theorem x38i (b : Nat) (hb : b < 18446744073709551616) (h : rung b = 9218868437227405312) (w : World) : (Sem.run Try.prog (callFunc 38 #[.float .f64 b]) w) = .ok (.value (.float .f64 b)) w := by
  rw [run_callFunc_extern (e := Extern.MathFloor.toIntegral "math.RoundToEven" .even) Try.func38 (by kernel_rfl) (by kernel_rfl) (by kernel_rfl) (by kernel_rfl)]
  rw [toIntegral_inf _ _ b hb h]
  rfl

set_option maxRecDepth 100000 in
theorem Trunc33 (b : Nat) (h : FM.Fin b) (w : World) : Calls Try.prog 33 #[.float .f64 b] w fun e w' => e = .returned (.float .f64 (truncB b)) ∧ w' = w := by
  have h43 := x43 b h
  go_enter Try.func33, Try.ntmps33
  go_wp2
  go_ret
  exact ⟨rfl, rfl⟩

def low52 : Nat := 4841369599423283200
theorem up52 {b : Nat} (h : FM.Fin b) (h5 : rung b < 4503599627370496) : Ieee.double.mul b 4841369599423283200 = some (wd (ng b) (rungOf (mag b * 2 ^ 52))) ∧ Has (mag b * 2 ^ 52) := by
  have e0 : rung 4841369599423283200 = 4841369599423283200 := by decide
  have e1 : lev (rung 4841369599423283200) = 1074 := by decide
  have e2 : sig (rung 4841369599423283200) = 4503599627370496 := by decide
  have hl : lev (rung b) = 0 := by unfold lev; rw [if_pos h5]
  have hh : Has (mag b * 2 ^ 52) := has_scaled h (by rw [hl]; decide)
  refine ⟨?_, hh⟩
  have hf : FM.Fin 4841369599423283200 := by unfold FM.Fin; rw [e0]; decide
  have hm := mul_exact (x := b) (y := 4841369599423283200) h hf hh.rungOf.2 (by
    rw [hh.rungOf.1]
    obtain ⟨k, hk⟩ : ∃ k : Nat, k = 1074 := ⟨_, rfl⟩
    unfold mag
    conv => lhs; rw [show magR (rung 4841369599423283200) = sig (rung 4841369599423283200) * 2 ^ lev (rung 4841369599423283200) from rfl]
    rw [e1, e2, U_eq hk, ← hk, Nat.mul_assoc, show (4503599627370496 : Nat) = 2 ^ 52 by decide])
  rw [hm, show ng 4841369599423283200 = false by decide, Bool.xor_false]
set_option maxRecDepth 100000 in
/-- With all its digits: the number, and how much it was raised. -/
theorem normalize46 (b : Nat) (hb : b < 2 ^ 64) (h : FM.Fin b) (hz : rung b ≠ 0) (w : World) :
    Calls Try.prog 46 #[.float .f64 b] w fun e w' => w' = w ∧ ∃ (y : Nat) (d : Int), e = .returned (.tuple #[.float .f64 y, .int .i64 d]) ∧ y < 18446744073709551616 ∧ FM.Fin y ∧ 4503599627370496 ≤ rung y ∧ ng y = ng b ∧ ((d = 0 ∧ mag y = mag b) ∨ (d = -52 ∧ mag y = mag b * 2 ^ 52)) := by
  go_enter Try.func46, Try.ntmps46
  go_wp2_with fail
  refine (Abs31 b hb _).mono ?_
  rintro e _ ⟨rfl, rfl⟩
  by_cases h5 : rung b < 4503599627370496
  · have hl := w_lt (rung b) 4503599627370496 true (rung_lt b) (by decide) (decide_eq_true h5)
    obtain ⟨hm, hh⟩ := up52 h h5
    have hm' := fun w => run_float_arith (P := Try.prog) w .mul 23 .f64 b 4841369599423283200 _ hm
    obtain ⟨m1, m2, m3, m4⟩ := mag_wd (s := ng b) hh
    generalize wd (ng b) (rungOf (mag b * 2 ^ 52)) = y at *
    go_wp2
    go_ret2
    refine ⟨rfl, y, -52, rfl, m4, m3, ?_, m2, .inr ⟨rfl, m1⟩⟩
    rcases Nat.lt_or_ge (rung y) 4503599627370496 with hlt | hge
    · exfalso
      have h1 : mag y = rung y := by unfold mag magR lev sig; rw [if_pos hlt, if_pos hlt, Nat.pow_zero, Nat.mul_one]
      have h2 : mag b ≠ 0 := fun hc => hz (mag_zero.1 hc)
      rw [h1] at m1
      have : (2 : Nat) ^ 52 = 4503599627370496 := by decide
      rw [this] at m1
      omega
    · exact hge
  · have hl := w_lt (rung b) 4503599627370496 false (rung_lt b) (by decide) (decide_eq_false h5)
    go_wp2
    go_ret2
    exact ⟨rfl, b, 0, rfl, hb, h, by omega, rfl, .inl ⟨rfl, rfl⟩⟩
end Go.Proofs.Ytpkcabpnehbmhaa.GW
