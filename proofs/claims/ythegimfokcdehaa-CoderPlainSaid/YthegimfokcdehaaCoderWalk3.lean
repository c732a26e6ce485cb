/- The coder walked: count, find, begun, ready. -/
import Derived.Test.YthegimfokcdehaaCoderWalk2
namespace Go.Proofs.Ythegimfokcdehaa.CW
open Go Go.RowKit Go.Proofs.Ythegimfokcdehaa.Mem Go.Proofs.Ythegimfokcdehaa.CM Go.Proofs.Ythegimfokcdehaa.MW Go.Proofs.Ythegimfokcdehaa.PCod Go.Proofs.YthegimfokcdehaaW.PrintWords Go.Proofs.YthegimfokcdehaaW.PrintLast Go.Proofs.YthegimfokcdehaaW.PrintMore
attribute [local go_sem] max2_int min2_int max_two min_two max_three min_three max_four min_four
set_option linter.unusedVariables false
set_option linter.unusedSimpArgs false
set_option maxRecDepth 100000 in
theorem count41_neg (w : World) (g B : Nat) (mv : Value) (ps : List (Nat × Nat)) (C : List (List Int)) (k s : Int) (hM : IsMs w B mv ps C) (hk : k < 0) :
    Calls Try.prog 41 #[.pointer (some ⟨g, 0, none⟩), .agg #[.int .i64 k, .int .i64 s]] w fun e w' => e = .returned (.tuple #[]) ∧ IsMs w' B mv ps (cntC C k s) ∧ Ft B [103, 3] w w' := by
  have hF : Ft B [] w (w.alloc (.cells #[.int .i64 k, .int .i64 s] 41 (0, 0))) := (Ft.refl B _ w).alloc _
  have hM2 := CW.IsMs.ft hM hF (by decide) (by decide) (by decide)
  have d0 : decide (0 ≤ k) = false := decide_eq_false (by omega)
  have HC := Lib.hid (show cntC C k s = C by unfold cntC; rw [if_neg (by omega)])
  have HM2 := Lib.hid hM2
  clear hM hM2
  go_enter Try.func41, Try.ntmps41
  go_wp2
  go_end0
  rw [HC.out]
  exact ⟨rfl, HM2.out, hF.mono (Nat.le_refl _) (by simp)⟩
theorem count41 (w : World) (g B : Nat) (mv : Value) (ps : List (Nat × Nat)) (C : List (List Int)) (k s : Int) (hm : w.cell? ⟨g, 0, none⟩ = some mv) (hM : IsMs w B mv ps C) (hMs : Mods C) (hl : C.length ≤ 1000) {p : Int × Int} (hsh : share C k s = some p) :
    Calls Try.prog 41 #[.pointer (some ⟨g, 0, none⟩), .agg #[.int .i64 k, .int .i64 s]] w fun e w' => e = .returned (.tuple #[]) ∧ IsMs w' B mv ps (cntC C k s) ∧ Ft B [103, 3] w w' := by
  by_cases hk : k < 0
  · exact count41_neg w g B mv ps C k s hM hk
  · obtain ⟨i, rfl⟩ := Int.eq_ofNat_of_zero_le (show 0 ≤ k by omega)
    obtain ⟨s0, _, _, _, _, _, h7⟩ := share_some hMs hsh
    rcases h7 with h7 | ⟨_, h8, h9⟩
    · exact absurd h7.1 hk
    · rw [Int.toNat_natCast] at h9
      exact count41_at w g B mv ps C i s hm hM hMs hl (by omega) s0 h9
set_option maxHeartbeats 1000000 in
set_option maxRecDepth 100000 in
theorem find33 (w : World) (g B : Nat) (mv : Value) (ps : List (Nat × Nat)) (C : List (List Int)) (k v : Int) (h0 : -9223372036854775808 ≤ k) (h1 : k < 9223372036854775808) (hm : w.cell? ⟨g, 0, none⟩ = some mv) (hM : IsMs w B mv ps C) (hMs : Mods C) (hl : C.length ≤ 1000) (hw : 0 < whole C k) (hv0 : 0 ≤ v) (hv1 : v < 9223372036854775808) :
    Calls Try.prog 33 #[.pointer (some ⟨g, 0, none⟩), .int .i64 k, .int .i64 v] w fun e w' => e = .returned (.int .i64 (findS C k (mn v (whole C k - 1)))) ∧ w = w' := by
  have hwb : whole C k ≤ 65536 := by
    unfold whole at hw ⊢
    by_cases hp : isPlain k
    · rw [if_pos hp]; exact (bits_bound hp.1 hp.2).2
    · rw [if_neg hp] at hw ⊢
      by_cases hk : 0 ≤ k ∧ k < C.length
      · rw [if_pos hk]
        have := (hMs.at_ (k := k.toNat) (by omega)).1.2.1
        omega
      · rw [if_neg hk] at hw; omega
  have hW := fun W hm' hM' => whole32 W g B mv ps C k h0 h1 hm' hM' hl
  have HW := Lib.hid (hW w hm hM)
  clear hW
  generalize hx : whole C k = x at *
  have HX := Lib.hid hx
  clear hx
  have hmn : (¬ x - 1 < v ∧ mn v (x - 1) = v) ∨ (x - 1 < v ∧ mn v (x - 1) = x - 1) := by
    by_cases h : x - 1 < v
    · exact .inr ⟨h, by unfold mn; rw [if_pos h]⟩
    · exact .inl ⟨h, by unfold mn; rw [if_neg h]⟩
  by_cases hk : k < 0
  · have d0 : decide (k < 0) = true := decide_eq_true hk
    have hf : ∀ u, findS C k u = u := fun u => by unfold findS; rw [if_pos hk]
    have HF := Lib.hid hf
    clear hf hM
    rcases hmn with ⟨hvx, hmn⟩ | ⟨hvx, hmn⟩
    all_goals
      rw [hmn]
      clear hmn
      go_enter Try.func33, Try.ntmps33
      go_wp2_with (go_at_call 32; refine HW.out.mono ?_; rintro e w' ⟨rfl, rfl⟩)
      go_ret
      exact ⟨ret_int (HF.out _).symm, rfl⟩
  · obtain ⟨i, rfl⟩ := Int.eq_ofNat_of_zero_le (show 0 ≤ k by omega)
    have hi : i < C.length := by
      have hx := HX.out
      unfold whole at hx
      rw [if_neg (fun h => hk h.1)] at hx
      by_cases h : 0 ≤ (i : Int) ∧ (i : Int) < C.length
      · omega
      · rw [if_neg h] at hx; omega
    obtain ⟨gm, c, rfl, hc⟩ := hM.at_ hi
    have hmod := (hM.mod i hi).1
    have hok := (hMs.at_ hi).1
    have hx : (C.getD i []).sum = x := by rw [← HX.out, whole_at C hi]
    have hf : ∀ u, findS C (i : Int) u = findL (C.getD i []) 0 u := fun u => by unfold findS; rw [if_neg hk, Int.toNat_natCast]
    rw [hx] at hmod
    have HF := Lib.hid hf
    have HOK := Lib.hid hok.inv
    have HMOD := Lib.hid hmod
    have d0 : decide ((i : Int) < 0) = false := decide_eq_false hk
    have d4 : decide (i < C.length) = true := decide_eq_true hi
    generalize (ps.getD i (0, 0)).1 = bp at *
    generalize (ps.getD i (0, 0)).2 = bs at *
    generalize C.getD i [] = ci at *
    have HSUM := Lib.hid hx
    clear hf hM hMs hmod hok hx h0 h1
    rcases hmn with ⟨hvx, hmn⟩ | ⟨hvx, hmn⟩
    · rw [hmn]
      clear hmn
      go_enter Try.func33, Try.ntmps33
      go_wp2_with fail
      refine HW.out.mono ?_; rintro e w' ⟨rfl, rfl⟩
      go_wp2_with fail
      refine (find_ok _ bp bs ci x HMOD.out HOK.out v hv0 (by omega) (by omega)).mono ?_; rintro e w' ⟨rfl, rfl⟩
      go_wp2_with fail
      go_ret
      exact ⟨ret_int (HF.out _).symm, rfl⟩
    · rw [hmn]
      clear hmn
      go_enter Try.func33, Try.ntmps33
      go_wp2_with fail
      refine HW.out.mono ?_; rintro e w' ⟨rfl, rfl⟩
      go_wp2_with fail
      refine (find_ok _ bp bs ci x HMOD.out HOK.out (x - 1) (by omega) (by omega) (by omega)).mono ?_; rintro e w' ⟨rfl, rfl⟩
      go_wp2_with fail
      go_ret
      exact ⟨ret_int (HF.out _).symm, rfl⟩
end Go.Proofs.Ythegimfokcdehaa.CW
