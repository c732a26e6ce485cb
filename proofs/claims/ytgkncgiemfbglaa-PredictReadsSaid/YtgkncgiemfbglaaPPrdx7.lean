-- Written for this claim by a program of this session.
import Derived.Test.YtgkncgiemfbglaaPPrdx0
import Derived.Test.YtgkncgiemfbglaaPPrdx2
import Derived.Test.YtgkncgiemfbglaaPPrdx4
import Derived.Test.YtgkncgiemfbglaaPPrdx6
import Derived.Test.YtgkncgiemfbglaaKnownStub
namespace Go.Proofs.Ytgkncgiemfbglaa.PPrd
open Go.RowKit Go.Proofs.YtgkncgiemfbglaaW.PrintWords Go.Proofs.YtgkncgiemfbglaaW.PrintLast Go.Proofs.YtgkncgiemfbglaaW.PrintMore
attribute [local go_sem] max2_int min2_int max_two min_two max_three min_three max_four min_four   -- for this text's walks alone
set_option linter.unusedVariables false
set_option linter.unusedSimpArgs false

/-! ### lapidarylaw14_PredictReads: function 4 -/
def lapidarylaw14_PredictReads.j0 : Nat → List Int → Int → List Int → Bool → Option (Bool)
  | 0, _, _, _, _ => none
  | k + 1, x0, x2, x7, x57 => if x57 = true then (some false) else (if (x7.length : Int) = 0 then (if (x0.length : Int) = 0 then ((lapidarylaw14_known.f).bind fun t245 => (some t245)) else (some false)) else (if 0 ≤ (Int.tmod (wrap64 (x2)) (x7.length : Int)) then (if (Int.tmod (wrap64 (x2)) (x7.length : Int)) ≤ (x7.length : Int) then ((predict_Read.f k (x7.take ((Int.tmod (wrap64 (x2)) (x7.length : Int)) : Int).toNat)).bind fun bt250 => (if bt250.2 = 10 then (if (bt250.1.length : Int) = 0 then ((lapidarylaw14_known.f).bind fun t254 => (some t254)) else (if bt250.2 = 0 then (if (bt250.1.length : Int) < (x0.length : Int) then ((lapidarylaw14_known.f).bind fun t255 => (some t255)) else (some false)) else (some false))) else (if bt250.2 = 0 then (if (bt250.1.length : Int) < (x0.length : Int) then ((lapidarylaw14_known.f).bind fun t256 => (some t256)) else (some false)) else (some false)))) else (none)) else (none)))
def lapidarylaw14_PredictReads.f (k : Nat) (l0 : List Int) (l1 : List Int) (a2 : Int) : Option (Bool) := if (wrap64 ((l0.length : Int) + (l1.length : Int))) > 200 then ((lapidarylaw14_known.f).bind fun t217 => (some t217)) else ((predict_Bytes.f k l0).bind fun t218 => ((predict_Bytes.f k l1).bind fun t221 => (if ([] : List Int).length + t218.length < 140737488355328 then ((some (([] : List Int) ++ t218 : List Int)).bind fun y224 => (if y224.length + t221.length < 140737488355328 then ((some (y224 ++ t221 : List Int)).bind fun y227 => (if ([] : List Int).length + l0.length < 17592186044416 then ((some (([] : List Int) ++ l0 : List Int)).bind fun y230 => (if y230.length + l1.length < 17592186044416 then ((some (y230 ++ l1 : List Int)).bind fun y233 => ((predict_Read.f k y227).bind fun bt236 => (if bt236.2 = 0 then ((lapidaryref00_SameInts.f k bt236.1 y233).bind fun t240 => (if t240 = true then ((predict_Bytes.f k y233).bind fun t241 => ((lapidaryref00_Same.f y227 t241).bind fun t244 => (lapidarylaw14_PredictReads.j0 k l0 a2 t218 (!t244)))) else (lapidarylaw14_PredictReads.j0 k l0 a2 t218 true))) else (lapidarylaw14_PredictReads.j0 k l0 a2 t218 true)))) else (none))) else (none))) else (none))) else (none))))
theorem lapidarylaw14_PredictReads.mono_l : ∀ k, (∀ y0 y1 y2 y3, LeO (lapidarylaw14_PredictReads.j0 k y0 y1 y2 y3) (lapidarylaw14_PredictReads.j0 (k + 1) y0 y1 y2 y3))
  | 0 => fun _ _ _ _ r h => by simp [lapidarylaw14_PredictReads.j0] at h
  | k + 1 => by
    have ih0 := lapidarylaw14_PredictReads.mono_l k
    · intro y0 y1 y2 y3
      unfold lapidarylaw14_PredictReads.j0
      repeat' first
      | (with_reducible exact ih0 _ _ _ _)
      | (with_reducible exact lapidaryref00_SameInts.mono _ _ _)
      | (with_reducible exact predict_Bytes.mono _ _)
      | (with_reducible exact predict_Read.mono _ _)
      | (with_reducible exact LeO.refl _)
      | (with_reducible exact LeO.none _)
      | (with_reducible refine LeO.ite ?_ ?_)
      | (with_reducible refine LeO.bind ?_ (fun _ => ?_))
      | exact ih0 _ _ _ _
      | exact lapidaryref00_SameInts.mono _ _ _
      | exact predict_Bytes.mono _ _
      | exact predict_Read.mono _ _
      | exact LeO.none _
      | refine LeO.ite ?_ ?_
      | refine LeO.bind ?_ (fun _ => ?_)
theorem lapidarylaw14_PredictReads.mono : ∀ a0 a1 a2 k, LeO (lapidarylaw14_PredictReads.f k a0 a1 a2) (lapidarylaw14_PredictReads.f (k + 1) a0 a1 a2) := by
  intro a0 a1 a2 k
  have ih0 := lapidarylaw14_PredictReads.mono_l k
  unfold lapidarylaw14_PredictReads.f
  repeat' first
      | (with_reducible exact ih0 _ _ _ _)
      | (with_reducible exact lapidaryref00_SameInts.mono _ _ _)
      | (with_reducible exact predict_Bytes.mono _ _)
      | (with_reducible exact predict_Read.mono _ _)
      | (with_reducible exact LeO.refl _)
      | (with_reducible exact LeO.none _)
      | (with_reducible refine LeO.ite ?_ ?_)
      | (with_reducible refine LeO.bind ?_ (fun _ => ?_))
      | exact ih0 _ _ _ _
      | exact lapidaryref00_SameInts.mono _ _ _
      | exact predict_Bytes.mono _ _
      | exact predict_Read.mono _ _
      | exact LeO.none _
      | refine LeO.ite ?_ ?_
      | refine LeO.bind ?_ (fun _ => ?_)
set_option maxHeartbeats 8000000 in
set_option maxRecDepth 100000 in
theorem lapidarylaw14_PredictReads.calls (k : Nat) (A0 : Option Addr) (c0 : Nat) (l0 : List Int) (A1 : Option Addr) (c1 : Nat) (l1 : List Int) (a2 : Int) (r : Bool) (w : World) (hr0 : Kd.C (Kd.int .i64) w A0 l0.length l0) (hc0 : l0.length ≤ c0) (hr1 : Kd.C (Kd.int .i64) w A1 l1.length l1) (hc1 : l1.length ≤ c1) (h : lapidarylaw14_PredictReads.f k l0 l1 a2 = some r) :
    Calls Try.prog 4 #[.slice A0 l0.length c0, .slice A1 l1.length c1, .int .u8 a2] w fun e w' => e = .returned (.bool r) ∧ Below w.heap.size w w' := by
  have HR0 := Aside0.mk hr0
  have HC0 := Aside0.mk hc0
  clear hr0 hc0
  have HR1 := Aside0.mk hr1
  have HC1 := Aside0.mk hc1
  clear hr1 hc1
  have HB := Aside0.mk (Below.refl w.heap.size w)
  have H : (if (wrap64 ((l0.length : Int) + (l1.length : Int))) > 200 then ((lapidarylaw14_known.f).bind fun t217 => (some t217)) else ((predict_Bytes.f k l0).bind fun t218 => ((predict_Bytes.f k l1).bind fun t221 => (if ([] : List Int).length + t218.length < 140737488355328 then ((some (([] : List Int) ++ t218 : List Int)).bind fun y224 => (if y224.length + t221.length < 140737488355328 then ((some (y224 ++ t221 : List Int)).bind fun y227 => (if ([] : List Int).length + l0.length < 17592186044416 then ((some (([] : List Int) ++ l0 : List Int)).bind fun y230 => (if y230.length + l1.length < 17592186044416 then ((some (y230 ++ l1 : List Int)).bind fun y233 => ((predict_Read.f k y227).bind fun bt236 => (if bt236.2 = 0 then ((lapidaryref00_SameInts.f k bt236.1 y233).bind fun t240 => (if t240 = true then ((predict_Bytes.f k y233).bind fun t241 => ((lapidaryref00_Same.f y227 t241).bind fun t244 => (lapidarylaw14_PredictReads.j0 k l0 a2 t218 (!t244)))) else (lapidarylaw14_PredictReads.j0 k l0 a2 t218 true))) else (lapidarylaw14_PredictReads.j0 k l0 a2 t218 true)))) else (none))) else (none))) else (none))) else (none))))) = some r := h
  clear h
  by_cases c4 : (wrap64 ((l0.length : Int) + (l1.length : Int))) > 200
  · rw [if_pos c4] at H
    have c4b0 : decide (200 < (wrap64 ((l0.length : Int) + (l1.length : Int)))) = true := decide_eq_true c4
    clear c4
    replace H := Option.bind_eq_some_iff.mp H
    obtain ⟨t217, A50, H⟩ := H
    replace H : (some t217) = some r := H
    have A5 := Aside0.mk A50
    clear A50
    obtain rfl := Option.some.inj H
    go_enter Try.func4, Try.ntmps4
    go_wp2_with (first | ((with_reducible refine gate_callee (f := 5) rfl ?_); refine goesL_ (some 21) rfl rfl Try.func5 (by kernel_rfl) rfl #[] rfl (by (try simp only [List.map_toArray, List.map_cons, List.map_nil]); first | done | rfl | (simp only [List.length_drop, List.length_take]; rfl)) ?_; (with_reducible refine (lapidarylaw14_known.calls  t217 _ A5.out).mono ?_); rintro e w6 ⟨rfl, hb⟩; refine ⟨_, rfl, ?_⟩; have n0_ := Aside0.mk (below_step (by repeat (first | (with_reducible first | exact HB.out | apply below_alloc | apply pw_below_drewN | apply below_drew1) | exact HB.out)) hb); clear HB; have HB := n0_; clear n0_; (try clear hb); (try clear hb2); (try clear hk); (try clear hi)))
    go_ret
    exact ⟨by first | rfl | (simp [errW_none, errW_some] <;> rfl) | (simp [*, errW_none, errW_some] <;> rfl), by repeat (first | (with_reducible first | exact HB.out | apply below_alloc | apply pw_below_drewN | apply below_drew1) | exact HB.out)⟩
  · rw [if_neg c4] at H
    have c4b0 : decide (200 < (wrap64 ((l0.length : Int) + (l1.length : Int)))) = false := decide_eq_false c4
    clear c4
    replace H := Option.bind_eq_some_iff.mp H
    obtain ⟨t218, A70, H⟩ := H
    replace H : ((predict_Bytes.f k l1).bind fun t221 => (if ([] : List Int).length + t218.length < 140737488355328 then ((some (([] : List Int) ++ t218 : List Int)).bind fun y224 => (if y224.length + t221.length < 140737488355328 then ((some (y224 ++ t221 : List Int)).bind fun y227 => (if ([] : List Int).length + l0.length < 17592186044416 then ((some (([] : List Int) ++ l0 : List Int)).bind fun y230 => (if y230.length + l1.length < 17592186044416 then ((some (y230 ++ l1 : List Int)).bind fun y233 => ((predict_Read.f k y227).bind fun bt236 => (if bt236.2 = 0 then ((lapidaryref00_SameInts.f k bt236.1 y233).bind fun t240 => (if t240 = true then ((predict_Bytes.f k y233).bind fun t241 => ((lapidaryref00_Same.f y227 t241).bind fun t244 => (lapidarylaw14_PredictReads.j0 k l0 a2 t218 (!t244)))) else (lapidarylaw14_PredictReads.j0 k l0 a2 t218 true))) else (lapidarylaw14_PredictReads.j0 k l0 a2 t218 true)))) else (none))) else (none))) else (none))) else (none))) = some r := H
    have A7 := Aside0.mk A70
    clear A70
    replace H := Option.bind_eq_some_iff.mp H
    obtain ⟨t221, A80, H⟩ := H
    replace H : (if ([] : List Int).length + t218.length < 140737488355328 then ((some (([] : List Int) ++ t218 : List Int)).bind fun y224 => (if y224.length + t221.length < 140737488355328 then ((some (y224 ++ t221 : List Int)).bind fun y227 => (if ([] : List Int).length + l0.length < 17592186044416 then ((some (([] : List Int) ++ l0 : List Int)).bind fun y230 => (if y230.length + l1.length < 17592186044416 then ((some (y230 ++ l1 : List Int)).bind fun y233 => ((predict_Read.f k y227).bind fun bt236 => (if bt236.2 = 0 then ((lapidaryref00_SameInts.f k bt236.1 y233).bind fun t240 => (if t240 = true then ((predict_Bytes.f k y233).bind fun t241 => ((lapidaryref00_Same.f y227 t241).bind fun t244 => (lapidarylaw14_PredictReads.j0 k l0 a2 t218 (!t244)))) else (lapidarylaw14_PredictReads.j0 k l0 a2 t218 true))) else (lapidarylaw14_PredictReads.j0 k l0 a2 t218 true)))) else (none))) else (none))) else (none))) else (none)) = some r := H
    have A8 := Aside0.mk A80
    clear A80
    by_cases c9 : ([] : List Int).length + t218.length < 140737488355328
    · rw [if_pos c9] at H
      have LMc9 := Aside0.mk c9
      clear c9
      obtain ⟨y224, hy224⟩ : ∃ y_ : List Int, y_ = (([] : List Int) ++ t218) := ⟨_, rfl⟩
      replace H : (if y224.length + t221.length < 140737488355328 then ((some (y224 ++ t221 : List Int)).bind fun y227 => (if ([] : List Int).length + l0.length < 17592186044416 then ((some (([] : List Int) ++ l0 : List Int)).bind fun y230 => (if y230.length + l1.length < 17592186044416 then ((some (y230 ++ l1 : List Int)).bind fun y233 => ((predict_Read.f k y227).bind fun bt236 => (if bt236.2 = 0 then ((lapidaryref00_SameInts.f k bt236.1 y233).bind fun t240 => (if t240 = true then ((predict_Bytes.f k y233).bind fun t241 => ((lapidaryref00_Same.f y227 t241).bind fun t244 => (lapidarylaw14_PredictReads.j0 k l0 a2 t218 (!t244)))) else (lapidarylaw14_PredictReads.j0 k l0 a2 t218 true))) else (lapidarylaw14_PredictReads.j0 k l0 a2 t218 true)))) else (none))) else (none))) else (none)) = some r := by first | (rw [hy224]; with_reducible exact H) | (have H2_ := (Option.bind_some _ _).symm.trans H; rw [hy224]; with_reducible exact H2_) | (have H2_ := (Option.bind_some _ _).symm.trans H; with_reducible exact H2_) | with_reducible exact H | (rw [hy224]; exact H) | exact H
      have Ny224 := Aside0.mk hy224
      clear hy224
      by_cases c10 : y224.length + t221.length < 140737488355328
      · rw [if_pos c10] at H
        have LMc10 := Aside0.mk c10
        clear c10
        obtain ⟨y227, hy227⟩ : ∃ y_ : List Int, y_ = (y224 ++ t221) := ⟨_, rfl⟩
        replace H : (if ([] : List Int).length + l0.length < 17592186044416 then ((some (([] : List Int) ++ l0 : List Int)).bind fun y230 => (if y230.length + l1.length < 17592186044416 then ((some (y230 ++ l1 : List Int)).bind fun y233 => ((predict_Read.f k y227).bind fun bt236 => (if bt236.2 = 0 then ((lapidaryref00_SameInts.f k bt236.1 y233).bind fun t240 => (if t240 = true then ((predict_Bytes.f k y233).bind fun t241 => ((lapidaryref00_Same.f y227 t241).bind fun t244 => (lapidarylaw14_PredictReads.j0 k l0 a2 t218 (!t244)))) else (lapidarylaw14_PredictReads.j0 k l0 a2 t218 true))) else (lapidarylaw14_PredictReads.j0 k l0 a2 t218 true)))) else (none))) else (none)) = some r := by first | (rw [hy227]; with_reducible exact H) | (have H2_ := (Option.bind_some _ _).symm.trans H; rw [hy227]; with_reducible exact H2_) | (have H2_ := (Option.bind_some _ _).symm.trans H; with_reducible exact H2_) | with_reducible exact H | (rw [hy227]; exact H) | exact H
        have Ny227 := Aside0.mk hy227
        clear hy227
        by_cases c11 : ([] : List Int).length + l0.length < 17592186044416
        · rw [if_pos c11] at H
          have LMc11 := Aside0.mk c11
          clear c11
          obtain ⟨y230, hy230⟩ : ∃ y_ : List Int, y_ = (([] : List Int) ++ l0) := ⟨_, rfl⟩
          replace H : (if y230.length + l1.length < 17592186044416 then ((some (y230 ++ l1 : List Int)).bind fun y233 => ((predict_Read.f k y227).bind fun bt236 => (if bt236.2 = 0 then ((lapidaryref00_SameInts.f k bt236.1 y233).bind fun t240 => (if t240 = true then ((predict_Bytes.f k y233).bind fun t241 => ((lapidaryref00_Same.f y227 t241).bind fun t244 => (lapidarylaw14_PredictReads.j0 k l0 a2 t218 (!t244)))) else (lapidarylaw14_PredictReads.j0 k l0 a2 t218 true))) else (lapidarylaw14_PredictReads.j0 k l0 a2 t218 true)))) else (none)) = some r := by first | (rw [hy230]; with_reducible exact H) | (have H2_ := (Option.bind_some _ _).symm.trans H; rw [hy230]; with_reducible exact H2_) | (have H2_ := (Option.bind_some _ _).symm.trans H; with_reducible exact H2_) | with_reducible exact H | (rw [hy230]; exact H) | exact H
          have Ny230 := Aside0.mk hy230
          clear hy230
          by_cases c12 : y230.length + l1.length < 17592186044416
          · rw [if_pos c12] at H
            have LMc12 := Aside0.mk c12
            clear c12
            obtain ⟨y233, hy233⟩ : ∃ y_ : List Int, y_ = (y230 ++ l1) := ⟨_, rfl⟩
            replace H : ((predict_Read.f k y227).bind fun bt236 => (if bt236.2 = 0 then ((lapidaryref00_SameInts.f k bt236.1 y233).bind fun t240 => (if t240 = true then ((predict_Bytes.f k y233).bind fun t241 => ((lapidaryref00_Same.f y227 t241).bind fun t244 => (lapidarylaw14_PredictReads.j0 k l0 a2 t218 (!t244)))) else (lapidarylaw14_PredictReads.j0 k l0 a2 t218 true))) else (lapidarylaw14_PredictReads.j0 k l0 a2 t218 true))) = some r := by first | (rw [hy233]; with_reducible exact H) | (have H2_ := (Option.bind_some _ _).symm.trans H; rw [hy233]; with_reducible exact H2_) | (have H2_ := (Option.bind_some _ _).symm.trans H; with_reducible exact H2_) | with_reducible exact H | (rw [hy233]; exact H) | exact H
            have Ny233 := Aside0.mk hy233
            clear hy233
            replace H := Option.bind_eq_some_iff.mp H
            obtain ⟨⟨t236, t237⟩, A130, H⟩ := H
            replace H : (if t237 = 0 then ((lapidaryref00_SameInts.f k t236 y233).bind fun t240 => (if t240 = true then ((predict_Bytes.f k y233).bind fun t241 => ((lapidaryref00_Same.f y227 t241).bind fun t244 => (lapidarylaw14_PredictReads.j0 k l0 a2 t218 (!t244)))) else (lapidarylaw14_PredictReads.j0 k l0 a2 t218 true))) else (lapidarylaw14_PredictReads.j0 k l0 a2 t218 true)) = some r := H
            have A13 := Aside0.mk A130
            clear A130
            have HC14 := Aside0.mk H
            clear H
            go_enter Try.func4, Try.ntmps4
            go_upto_region 12 with (first | ((with_reducible refine gate_callee (f := 6) rfl ?_); refine goesL_ (some 23) rfl rfl Try.func6 (by kernel_rfl) rfl #[.slice A0 l0.length c0] rfl (by (try simp only [List.map_toArray, List.map_cons, List.map_nil]); first | done | rfl | (simp only [List.length_drop, List.length_take]; rfl)) ?_; (with_reducible refine (predict_Bytes.calls k _ _ l0 t218 _ ?side1 ?side2 A7.out).mono ?_); (case side1 => repeat (first | exact HR0.out | (with_reducible refine Kd.C_alloc ?_ _) | (with_reducible refine Kd.C_drewN ?_ _) | (with_reducible refine Kd.C_drew ?_))); (case side2 => exact HC0.out); rintro e w15 ⟨v219, rfl, ho0, hb⟩; refine ⟨_, rfl, ?_⟩; have n0_ := Aside0.mk (Kd.R_lower ho0 (below_size (by repeat (first | (with_reducible first | exact HB.out | apply below_alloc | apply pw_below_drewN | apply below_drew1) | exact HB.out)))); have n1_ := Aside0.mk (below_step (by repeat (first | (with_reducible first | exact HB.out | apply below_alloc | apply pw_below_drewN | apply below_drew1) | exact HB.out)) hb); clear HB; have HO220 := n0_; have HB := n1_; clear n0_ n1_; (try clear hb); (try clear hb2); (try clear hk); (try clear hi); (try clear ho0)) | ((with_reducible refine gate_callee (f := 6) rfl ?_); refine goesL_ (some 25) rfl rfl Try.func6 (by kernel_rfl) rfl #[.slice A1 l1.length c1] rfl (by (try simp only [List.map_toArray, List.map_cons, List.map_nil]); first | done | rfl | (simp only [List.length_drop, List.length_take]; rfl)) ?_; (with_reducible refine (predict_Bytes.calls k _ _ l1 t221 _ ?side1 ?side2 A8.out).mono ?_); (case side1 => repeat (first | exact (Kd.C_below HR1.out HB.out) | (with_reducible refine Kd.C_alloc ?_ _) | (with_reducible refine Kd.C_drewN ?_ _) | (with_reducible refine Kd.C_drew ?_))); (case side2 => exact HC1.out); rintro e w16 ⟨v222, rfl, ho0, hb⟩; refine ⟨_, rfl, ?_⟩; have n0_ := Aside0.mk (Kd.R_elder' (by (with_reducible repeat (first | apply Kd.R_alloc | apply Kd.R_drewN | apply Kd.R_drew)); exact HO220.out) (Kd.R_base ho0) hb); have n1_ := Aside0.mk (Kd.R_lower (Kd.R_new' ho0 (Kd.R_lt (by (with_reducible repeat (first | apply Kd.R_alloc | apply Kd.R_drewN | apply Kd.R_drew)); exact HO220.out))) (below_size (by repeat (first | (with_reducible first | exact HB.out | apply below_alloc | apply pw_below_drewN | apply below_drew1) | exact HB.out)))); have n2_ := Aside0.mk (below_step (by repeat (first | (with_reducible first | exact HB.out | apply below_alloc | apply pw_below_drewN | apply below_drew1) | exact HB.out)) hb); clear HO220; clear HB; have HO220 := n0_; have HO223 := n1_; have HB := n2_; clear n0_ n1_ n2_; (try clear hb); (try clear hb2); (try clear hk); (try clear hi); (try clear ho0); obtain ⟨Ao18, co18, eo18⟩ := Kd.R_slice HO220.out; subst eo18) | ((with_reducible refine gate_builtin (b := .append) (xs := #[.tmp 26, .tmp 27]) rfl ?_); (try (refine gate_guard (by rfl) ?_; dsimp only)); at_builtin; refine Kd.R_append_rows (Kd.int .u8) (w0 := w) w.heap.size rfl (.tmp 26) (.tmp 27) 23 5 (.int .u8 0) 1 rfl Try.underlying23 info5 rfl (by decide) (by omega) (.slice none 0 0) ([] : List Int) t218 _ _ _ (fun k_ => some k_ ≠ (.slice Ao18 t218.length co18 : Value).ownBlock ∧ some k_ ≠ (v222 : Value).ownBlock) (fun _ => False) rfl rfl ?aO ?aR (fun _ _ h => h) (fun _ h => h.elim) ?aF ?aB ?aS ?aL ?_; (case aR => repeat (first | exact (Kd.R_reads' HO220.out).2.2 | (with_reducible refine Kd.C_alloc ?_ _) | (with_reducible refine Kd.C_drewN ?_ _) | (with_reducible refine Kd.C_drew ?_))); (case aB => exact (by repeat (first | (with_reducible first | exact HB.out | apply below_alloc | apply pw_below_drewN | apply below_drew1) | exact HB.out))); (case aF => exact (fun k_ hk => ⟨Kd.fresh' (Kd.R_lt (by (with_reducible repeat (first | apply Kd.R_alloc | apply Kd.R_drewN | apply Kd.R_drew)); exact HO220.out)) k_ hk, Kd.fresh' (Kd.R_lt (by (with_reducible repeat (first | apply Kd.R_alloc | apply Kd.R_drewN | apply Kd.R_drew)); exact HO223.out)) k_ hk⟩)); (case aO => exact ((Kd.R_nil _ _ _ _ (fun k_ => some k_ ≠ (.slice Ao18 t218.length co18 : Value).ownBlock ∧ some k_ ≠ (v222 : Value).ownBlock)))); (case aS => exact (below_size (by repeat (first | (with_reducible first | exact HB.out | apply below_alloc | apply pw_below_drewN | apply below_drew1) | exact HB.out)))); (case aL => have := LMc9.out; omega); intro v225 w17 ho hb hg hat; rw [← Ny224.out] at ho; have n0_ := Aside0.mk (Kd.R_after (Kd.R_apart_nil (by (with_reducible repeat (first | apply Kd.R_alloc | apply Kd.R_drewN | apply Kd.R_drew)); exact HO220.out)) hg hat); have n1_ := Aside0.mk (Kd.R_after (Kd.R_apart_nil (by (with_reducible repeat (first | apply Kd.R_alloc | apply Kd.R_drewN | apply Kd.R_drew)); exact HO223.out)) hg hat); have n2_ := Aside0.mk (hb); have n3_ := Aside0.mk (ho); clear HO220; clear HO223; clear HB; have HO220 := n0_; have HO223 := n1_; have HB := n2_; have HO226 := n3_; clear n0_ n1_ n2_ n3_; clear ho hb hg hat; obtain ⟨Ao20, co20, eo20⟩ := Kd.R_slice HO223.out; subst eo20) | ((with_reducible refine gate_builtin (b := .append) (xs := #[.tmp 29, .tmp 30]) rfl ?_); (try (refine gate_guard (by rfl) ?_; dsimp only)); at_builtin; refine Kd.R_append_rows (Kd.int .u8) (w0 := w) w.heap.size rfl (.tmp 29) (.tmp 30) 23 5 (.int .u8 0) 1 rfl Try.underlying23 info5 rfl (by decide) (by omega) v225 y224 t221 _ _ _ (fun k_ => some k_ ≠ (.slice Ao18 t218.length co18 : Value).ownBlock ∧ some k_ ≠ (.slice Ao20 t221.length co20 : Value).ownBlock) (fun _ => False) rfl rfl ?aO ?aR (fun _ _ h => h) (fun _ h => h.elim) ?aF ?aB ?aS ?aL ?_; (case aR => repeat (first | exact (Kd.R_reads' HO223.out).2.2 | (with_reducible refine Kd.C_alloc ?_ _) | (with_reducible refine Kd.C_drewN ?_ _) | (with_reducible refine Kd.C_drew ?_))); (case aB => exact (by repeat (first | (with_reducible first | exact HB.out | apply below_alloc | apply pw_below_drewN | apply below_drew1) | exact HB.out))); (case aF => exact (fun k_ hk => ⟨Kd.fresh' (Kd.R_lt (by (with_reducible repeat (first | apply Kd.R_alloc | apply Kd.R_drewN | apply Kd.R_drew)); exact HO220.out)) k_ hk, Kd.fresh' (Kd.R_lt (by (with_reducible repeat (first | apply Kd.R_alloc | apply Kd.R_drewN | apply Kd.R_drew)); exact HO223.out)) k_ hk⟩)); (case aO => exact (by (with_reducible repeat (first | apply Kd.R_alloc | apply Kd.R_drewN | apply Kd.R_drew)); exact HO226.out)); (case aS => exact (below_size (by repeat (first | (with_reducible first | exact HB.out | apply below_alloc | apply pw_below_drewN | apply below_drew1) | exact HB.out)))); (case aL => have := LMc10.out; omega); intro v228 w19 ho hb hg hat; rw [← Ny227.out] at ho; have n0_ := Aside0.mk (Kd.R_after (ok := (fun k_ => some k_ ≠ (.slice Ao20 t221.length co20 : Value).ownBlock)) (by (with_reducible repeat (first | apply Kd.R_alloc | apply Kd.R_drewN | apply Kd.R_drew)); exact Kd.R_mono HO220.out (fun _ hk => ⟨hk.1.2, hk.2⟩)) hg hat); have n1_ := Aside0.mk (Kd.R_after (ok := (fun k_ => some k_ ≠ (.slice Ao18 t218.length co18 : Value).ownBlock)) (by (with_reducible repeat (first | apply Kd.R_alloc | apply Kd.R_drewN | apply Kd.R_drew)); exact Kd.R_mono HO223.out (fun _ hk => ⟨hk.1.2, hk.2⟩)) hg hat); have n2_ := Aside0.mk (hb); have n3_ := Aside0.mk (ho); clear HO220; clear HO223; clear HB; clear HO226; have HO220 := n0_; have HO223 := n1_; have HB := n2_; have HO229 := n3_; clear n0_ n1_ n2_ n3_; clear ho hb hg hat) | ((with_reducible refine gate_builtin (b := .append) (xs := #[.tmp 32, .tmp 33]) rfl ?_); (try (refine gate_guard (by rfl) ?_; dsimp only)); at_builtin; refine Kd.R_append_rows (Kd.int .i64) (w0 := w) w.heap.size rfl (.tmp 32) (.tmp 33) 22 3 (.int .i64 0) 8 rfl Try.underlying22 info3 rfl (by decide) (by omega) (.slice none 0 0) ([] : List Int) l0 _ _ _ (fun _ => True) (fun _ => False) rfl rfl ?aO ?aR (fun _ _ h => h) (fun _ h => h.elim) ?aF ?aB ?aS ?aL ?_; (case aR => repeat (first | exact (Kd.C_below HR0.out HB.out) | (with_reducible refine Kd.C_alloc ?_ _) | (with_reducible refine Kd.C_drewN ?_ _) | (with_reducible refine Kd.C_drew ?_))); (case aB => exact (by repeat (first | (with_reducible first | exact HB.out | apply below_alloc | apply pw_below_drewN | apply below_drew1) | exact HB.out))); (case aF => exact (fun _ _ => trivial)); (case aO => exact ((Kd.R_nil _ _ _ _ (fun _ => True)))); (case aS => exact (below_size (by repeat (first | (with_reducible first | exact HB.out | apply below_alloc | apply pw_below_drewN | apply below_drew1) | exact HB.out)))); (case aL => have := LMc11.out; omega); intro v231 w21 ho hb hg hat; rw [← Ny230.out] at ho; have n0_ := Aside0.mk (Kd.R_grown (by (with_reducible repeat (first | apply Kd.R_alloc | apply Kd.R_drewN | apply Kd.R_drew)); exact HO220.out) hg (fun _ _ => by simp [Value.ownBlock])); have n1_ := Aside0.mk (Kd.R_grown (by (with_reducible repeat (first | apply Kd.R_alloc | apply Kd.R_drewN | apply Kd.R_drew)); exact HO223.out) hg (fun _ _ => by simp [Value.ownBlock])); have n2_ := Aside0.mk (Kd.R_grown (by (with_reducible repeat (first | apply Kd.R_alloc | apply Kd.R_drewN | apply Kd.R_drew)); exact HO229.out) hg (fun _ _ => by simp [Value.ownBlock])); have n3_ := Aside0.mk (hb); have n4_ := Aside0.mk (ho); clear HO220; clear HO223; clear HO229; clear HB; have HO220 := n0_; have HO223 := n1_; have HO229 := n2_; have HB := n3_; have HO232 := n4_; clear n0_ n1_ n2_ n3_ n4_; clear ho hb hg hat) | ((with_reducible refine gate_builtin (b := .append) (xs := #[.tmp 35, .tmp 36]) rfl ?_); (try (refine gate_guard (by rfl) ?_; dsimp only)); at_builtin; refine Kd.R_append_rows (Kd.int .i64) (w0 := w) w.heap.size rfl (.tmp 35) (.tmp 36) 22 3 (.int .i64 0) 8 rfl Try.underlying22 info3 rfl (by decide) (by omega) v231 y230 l1 _ _ _ (fun _ => True) (fun _ => False) rfl rfl ?aO ?aR (fun _ _ h => h) (fun _ h => h.elim) ?aF ?aB ?aS ?aL ?_; (case aR => repeat (first | exact (Kd.C_below HR1.out HB.out) | (with_reducible refine Kd.C_alloc ?_ _) | (with_reducible refine Kd.C_drewN ?_ _) | (with_reducible refine Kd.C_drew ?_))); (case aB => exact (by repeat (first | (with_reducible first | exact HB.out | apply below_alloc | apply pw_below_drewN | apply below_drew1) | exact HB.out))); (case aF => exact (fun _ _ => trivial)); (case aO => exact (by (with_reducible repeat (first | apply Kd.R_alloc | apply Kd.R_drewN | apply Kd.R_drew)); exact HO232.out)); (case aS => exact (below_size (by repeat (first | (with_reducible first | exact HB.out | apply below_alloc | apply pw_below_drewN | apply below_drew1) | exact HB.out)))); (case aL => have := LMc12.out; omega); intro v234 w22 ho hb hg hat; rw [← Ny233.out] at ho; have n0_ := Aside0.mk (Kd.R_over' (by (with_reducible repeat (first | apply Kd.R_alloc | apply Kd.R_drewN | apply Kd.R_drew)); exact HO220.out) (Kd.R_typed (by (with_reducible repeat (first | apply Kd.R_alloc | apply Kd.R_drewN | apply Kd.R_drew)); exact HO232.out)) (by decide) hg); have n1_ := Aside0.mk (Kd.R_over' (by (with_reducible repeat (first | apply Kd.R_alloc | apply Kd.R_drewN | apply Kd.R_drew)); exact HO223.out) (Kd.R_typed (by (with_reducible repeat (first | apply Kd.R_alloc | apply Kd.R_drewN | apply Kd.R_drew)); exact HO232.out)) (by decide) hg); have n2_ := Aside0.mk (Kd.R_over' (by (with_reducible repeat (first | apply Kd.R_alloc | apply Kd.R_drewN | apply Kd.R_drew)); exact HO229.out) (Kd.R_typed (by (with_reducible repeat (first | apply Kd.R_alloc | apply Kd.R_drewN | apply Kd.R_drew)); exact HO232.out)) (by decide) hg); have n3_ := Aside0.mk (hb); have n4_ := Aside0.mk (ho); clear HO220; clear HO223; clear HO229; clear HB; clear HO232; have HO220 := n0_; have HO223 := n1_; have HO229 := n2_; have HB := n3_; have HO235 := n4_; clear n0_ n1_ n2_ n3_ n4_; clear ho hb hg hat; obtain ⟨Ao23, co23, eo23⟩ := Kd.R_slice HO229.out; subst eo23) | ((with_reducible refine gate_callee (f := 7) rfl ?_); refine goesL_ (some 40) rfl rfl Try.func7 (by kernel_rfl) rfl #[.slice Ao23 y227.length co23] rfl (by (try simp only [List.map_toArray, List.map_cons, List.map_nil]); first | done | rfl | (simp only [List.length_drop, List.length_take]; rfl)) ?_; (with_reducible refine (predict_Read.calls k _ _ y227 t236 t237 _ ?side1 ?side2 A13.out).mono ?_); (case side1 => repeat (first | exact (Kd.R_reads' HO229.out).2.2 | (with_reducible refine Kd.C_alloc ?_ _) | (with_reducible refine Kd.C_drewN ?_ _) | (with_reducible refine Kd.C_drew ?_))); (case side2 => exact (Kd.R_reads' HO229.out).2.1); rintro e w24 ⟨v238, rfl, ho0, hb⟩; refine ⟨_, rfl, ?_⟩; have n0_ := Aside0.mk (Kd.R_below (by (with_reducible repeat (first | apply Kd.R_alloc | apply Kd.R_drewN | apply Kd.R_drew)); exact HO220.out) hb); have n1_ := Aside0.mk (Kd.R_below (by (with_reducible repeat (first | apply Kd.R_alloc | apply Kd.R_drewN | apply Kd.R_drew)); exact HO223.out) hb); have n2_ := Aside0.mk (Kd.R_below (by (with_reducible repeat (first | apply Kd.R_alloc | apply Kd.R_drewN | apply Kd.R_drew)); exact HO229.out) hb); have n3_ := Aside0.mk (Kd.R_elder' (by (with_reducible repeat (first | apply Kd.R_alloc | apply Kd.R_drewN | apply Kd.R_drew)); exact HO235.out) (Kd.R_base ho0) hb); have n4_ := Aside0.mk (Kd.R_lower (Kd.R_new' ho0 (Kd.R_lt (by (with_reducible repeat (first | apply Kd.R_alloc | apply Kd.R_drewN | apply Kd.R_drew)); exact HO235.out))) (below_size (by repeat (first | (with_reducible first | exact HB.out | apply below_alloc | apply pw_below_drewN | apply below_drew1) | exact HB.out)))); have n5_ := Aside0.mk (below_step (by repeat (first | (with_reducible first | exact HB.out | apply below_alloc | apply pw_below_drewN | apply below_drew1) | exact HB.out)) hb); clear HO220; clear HO223; clear HO229; clear HO235; clear HB; have HO220 := n0_; have HO223 := n1_; have HO229 := n2_; have HO235 := n3_; have HO239 := n4_; have HB := n5_; clear n0_ n1_ n2_ n3_ n4_ n5_; (try clear hb); (try clear hb2); (try clear hk); (try clear hi); (try clear ho0)))
            (try simp only [Act.put, List.setIfInBounds_toArray, List.set_cons_zero, List.set_cons_succ])
            go_cut [57] (fun v57 wc => ∃ (kq : Nat) (x57_13 : Bool), v57 = .bool x57_13 ∧ Aside0 (lapidarylaw14_PredictReads.j0 kq l0 a2 t218 x57_13 = some r) ∧ Aside0 (kq ≤ k) ∧ Aside0 (Kd.R (Kd.int .u8) 5 wc w.heap.size (fun _ => True) (.slice Ao18 t218.length co18) t218) ∧ Aside0 (Below w.heap.size w wc))
            case first =>
              have H := HC14.out
              clear HC14
              by_cases c25 : t237 = 0
              · rw [if_pos c25] at H
                have c25b0 : (t237 == 0) = true := beq_iff_eq.mpr c25
                have c25b1 : (t237 != 0) = false := bne_eq_false_iff_eq.mpr c25
                clear c25
                (first | rw [c25b0] | (simp only [i64_w, i32_w]; rw [c25b0]) | skip)
                replace H := Option.bind_eq_some_iff.mp H
                obtain ⟨t240, A260, H⟩ := H
                replace H : (if t240 = true then ((predict_Bytes.f k y233).bind fun t241 => ((lapidaryref00_Same.f y227 t241).bind fun t244 => (lapidarylaw14_PredictReads.j0 k l0 a2 t218 (!t244)))) else (lapidarylaw14_PredictReads.j0 k l0 a2 t218 true)) = some r := H
                have A26 := Aside0.mk A260
                clear A260
                by_cases c27 : t240 = true
                · subst c27
                  have H1 : ((predict_Bytes.f k y233).bind fun t241 => ((lapidaryref00_Same.f y227 t241).bind fun t244 => (lapidarylaw14_PredictReads.j0 k l0 a2 t218 (!t244)))) = some r := by rw [if_pos rfl] at H; exact H
                  clear H
                  have H := H1
                  clear H1
                  replace H := Option.bind_eq_some_iff.mp H
                  obtain ⟨t241, A280, H⟩ := H
                  replace H : ((lapidaryref00_Same.f y227 t241).bind fun t244 => (lapidarylaw14_PredictReads.j0 k l0 a2 t218 (!t244))) = some r := H
                  have A28 := Aside0.mk A280
                  clear A280
                  replace H := Option.bind_eq_some_iff.mp H
                  obtain ⟨t244, A290, H⟩ := H
                  replace H : (lapidarylaw14_PredictReads.j0 k l0 a2 t218 (!t244)) = some r := H
                  have A29 := Aside0.mk A290
                  clear A290
                  have H' := Aside0.mk H
                  clear H
                  obtain ⟨Ao30, co30, eo30⟩ := Kd.R_slice HO239.out
                  subst eo30
                  obtain ⟨Ao31, co31, eo31⟩ := Kd.R_slice HO235.out
                  subst eo31
                  go_wp2_with (first | (go_at_call 11; (with_reducible refine (lapidaryref00_SameInts.calls k _ _ t236 _ _ y233 true _ ?side1 ?side2 ?side3 ?side4 A26.out).mono ?_); (case side1 => repeat (first | exact (Kd.R_reads' HO239.out).2.2 | (with_reducible refine Kd.C_alloc ?_ _) | (with_reducible refine Kd.C_drewN ?_ _) | (with_reducible refine Kd.C_drew ?_))); (case side2 => exact (Kd.R_reads' HO239.out).2.1); (case side3 => repeat (first | exact (Kd.R_reads' HO235.out).2.2 | (with_reducible refine Kd.C_alloc ?_ _) | (with_reducible refine Kd.C_drewN ?_ _) | (with_reducible refine Kd.C_drew ?_))); (case side4 => exact (Kd.R_reads' HO235.out).2.1); rintro e w' ⟨rfl, ⟨nd, rfl⟩⟩) | (go_at_call 6; (with_reducible refine (predict_Bytes.calls k _ _ y233 t241 _ ?side1 ?side2 A28.out).mono ?_); (case side1 => repeat (first | exact (Kd.R_reads' HO235.out).2.2 | (with_reducible refine Kd.C_alloc ?_ _) | (with_reducible refine Kd.C_drewN ?_ _) | (with_reducible refine Kd.C_drew ?_))); (case side2 => exact (Kd.R_reads' HO235.out).2.1); rintro e w32 ⟨v242, rfl, ho0, hb⟩; have n0_ := Aside0.mk (Kd.R_elder' (by (with_reducible repeat (first | apply Kd.R_alloc | apply Kd.R_drewN | apply Kd.R_drew)); exact HO220.out) (Kd.R_base ho0) hb); have n1_ := Aside0.mk (Kd.R_elder' (by (with_reducible repeat (first | apply Kd.R_alloc | apply Kd.R_drewN | apply Kd.R_drew)); exact HO223.out) (Kd.R_base ho0) hb); have n2_ := Aside0.mk (Kd.R_elder' (by (with_reducible repeat (first | apply Kd.R_alloc | apply Kd.R_drewN | apply Kd.R_drew)); exact HO229.out) (Kd.R_base ho0) hb); have n3_ := Aside0.mk (Kd.R_below (by (with_reducible repeat (first | apply Kd.R_alloc | apply Kd.R_drewN | apply Kd.R_drew)); exact HO235.out) hb); have n4_ := Aside0.mk (Kd.R_below (by (with_reducible repeat (first | apply Kd.R_alloc | apply Kd.R_drewN | apply Kd.R_drew)); exact HO239.out) hb); have n5_ := Aside0.mk (Kd.R_lower (Kd.R_new' (Kd.R_new' (Kd.R_new' ho0 (Kd.R_lt (by (with_reducible repeat (first | apply Kd.R_alloc | apply Kd.R_drewN | apply Kd.R_drew)); exact HO220.out))) (Kd.R_lt (by (with_reducible repeat (first | apply Kd.R_alloc | apply Kd.R_drewN | apply Kd.R_drew)); exact HO223.out))) (Kd.R_lt (by (with_reducible repeat (first | apply Kd.R_alloc | apply Kd.R_drewN | apply Kd.R_drew)); exact HO229.out))) (below_size (by repeat (first | (with_reducible first | exact HB.out | apply below_alloc | apply pw_below_drewN | apply below_drew1) | exact HB.out)))); have n6_ := Aside0.mk (below_step (by repeat (first | (with_reducible first | exact HB.out | apply below_alloc | apply pw_below_drewN | apply below_drew1) | exact HB.out)) hb); clear HO220; clear HO223; clear HO229; clear HO235; clear HO239; clear HB; have HO220 := n0_; have HO223 := n1_; have HO229 := n2_; have HO235 := n3_; have HO239 := n4_; have HO243 := n5_; have HB := n6_; clear n0_ n1_ n2_ n3_ n4_ n5_ n6_; (try clear hb); (try clear hb2); (try clear hk); (try clear hi); (try clear ho0); obtain ⟨Ao33, co33, eo33⟩ := Kd.R_slice HO243.out; subst eo33) | (go_at_call 9; (with_reducible refine (lapidaryref00_Same.calls _ _ y227 _ _ t241 t244 _ ?side1 ?side2 ?side3 ?side4 A29.out).mono ?_); (case side1 => repeat (first | exact (Kd.R_reads' HO229.out).2.2 | (with_reducible refine Kd.C_alloc ?_ _) | (with_reducible refine Kd.C_drewN ?_ _) | (with_reducible refine Kd.C_drew ?_))); (case side2 => exact (Kd.R_reads' HO229.out).2.1); (case side3 => repeat (first | exact (Kd.R_reads' HO243.out).2.2 | (with_reducible refine Kd.C_alloc ?_ _) | (with_reducible refine Kd.C_drewN ?_ _) | (with_reducible refine Kd.C_drew ?_))); (case side4 => exact (Kd.R_reads' HO243.out).2.1); rintro e w' ⟨rfl, ⟨nd, rfl⟩⟩))
                  go_meet
                  case rel => exact ⟨_, (!t244), (by first | rfl | (simp; done) | (simp [*]; done)), H', ⟨by first | omega | exact Nat.le_refl _⟩, ⟨by (with_reducible repeat (first | apply Kd.R_alloc | apply Kd.R_drewN | apply Kd.R_drew)); exact Kd.R_mono HO220.out (fun _ hk => trivial)⟩, ⟨by repeat (first | (with_reducible first | exact HB.out | apply below_alloc | apply pw_below_drewN | apply below_drew1) | exact HB.out)⟩⟩
                · replace c27 := Bool.eq_false_iff.mpr c27
                  subst c27
                  have H1 : (lapidarylaw14_PredictReads.j0 k l0 a2 t218 true) = some r := by rw [if_neg (show ¬ (false = true) by decide)] at H; exact H
                  clear H
                  have H := H1
                  clear H1
                  have H' := Aside0.mk H
                  clear H
                  obtain ⟨Ao34, co34, eo34⟩ := Kd.R_slice HO239.out
                  subst eo34
                  obtain ⟨Ao35, co35, eo35⟩ := Kd.R_slice HO235.out
                  subst eo35
                  go_wp2_with (first | (go_at_call 11; (with_reducible refine (lapidaryref00_SameInts.calls k _ _ t236 _ _ y233 false _ ?side1 ?side2 ?side3 ?side4 A26.out).mono ?_); (case side1 => repeat (first | exact (Kd.R_reads' HO239.out).2.2 | (with_reducible refine Kd.C_alloc ?_ _) | (with_reducible refine Kd.C_drewN ?_ _) | (with_reducible refine Kd.C_drew ?_))); (case side2 => exact (Kd.R_reads' HO239.out).2.1); (case side3 => repeat (first | exact (Kd.R_reads' HO235.out).2.2 | (with_reducible refine Kd.C_alloc ?_ _) | (with_reducible refine Kd.C_drewN ?_ _) | (with_reducible refine Kd.C_drew ?_))); (case side4 => exact (Kd.R_reads' HO235.out).2.1); rintro e w' ⟨rfl, ⟨nd, rfl⟩⟩))
                  go_meet
                  case rel => exact ⟨_, (true), (by first | rfl | (simp; done) | (simp [*]; done)), H', ⟨by first | omega | exact Nat.le_refl _⟩, ⟨by (with_reducible repeat (first | apply Kd.R_alloc | apply Kd.R_drewN | apply Kd.R_drew)); exact Kd.R_mono HO220.out (fun _ hk => trivial)⟩, ⟨by repeat (first | (with_reducible first | exact HB.out | apply below_alloc | apply pw_below_drewN | apply below_drew1) | exact HB.out)⟩⟩
              · rw [if_neg c25] at H
                have c25b0 : (t237 == 0) = false := beq_eq_false_iff_ne.mpr c25
                have c25b1 : (t237 != 0) = true := bne_iff_ne.mpr c25
                (first | rw [c25b0] | (simp only [i64_w, i32_w]; rw [c25b0]) | skip)
                have H' := Aside0.mk H
                clear H
                go_wp2
                go_meet
                case rel => exact ⟨_, (true), (by first | rfl | (simp; done) | (simp [*]; done)), H', ⟨by first | omega | exact Nat.le_refl _⟩, ⟨by (with_reducible repeat (first | apply Kd.R_alloc | apply Kd.R_drewN | apply Kd.R_drew)); exact Kd.R_mono HO220.out (fun _ hk => trivial)⟩, ⟨by repeat (first | (with_reducible first | exact HB.out | apply below_alloc | apply pw_below_drewN | apply below_drew1) | exact HB.out)⟩⟩
            case rest =>
              clear HC14
              try clear c1
              try clear c2
              try clear p2
              try clear c4
              try clear c4b0
              try clear c5
              try clear c6
              try clear p6
              try clear c7
              try clear c9
              try clear c10
              try clear c11
              try clear c12
              try clear c25
              try clear c25b0
              try clear c25b1
              try clear c27
              obtain ⟨kq, x57_13, rfl, HA, HJ13, HO_7, HB⟩ := hcut
              cases kq with
              | zero => exact absurd HA.out (by simp [lapidarylaw14_PredictReads.j0])
              | succ kj13 =>
                have H := HA.out
                clear HA
                simp only [lapidarylaw14_PredictReads.j0] at H
                by_cases c36 : x57_13 = true
                · subst c36
                  have H1 : (some false) = some r := by rw [if_pos rfl] at H; exact H
                  clear H
                  have H := H1
                  clear H1
                  obtain rfl := Option.some.inj H
                  go_wp2
                  go_ret
                  exact ⟨by first | rfl | (simp [errW_none, errW_some] <;> rfl) | (simp [*, errW_none, errW_some] <;> rfl), by repeat (first | (with_reducible first | exact HB.out | apply below_alloc | apply pw_below_drewN | apply below_drew1) | exact HB.out)⟩
                · replace c36 := Bool.eq_false_iff.mpr c36
                  subst c36
                  have H1 : (if (t218.length : Int) = 0 then (if (l0.length : Int) = 0 then ((lapidarylaw14_known.f).bind fun t245 => (some t245)) else (some false)) else (if 0 ≤ (Int.tmod (wrap64 (a2)) (t218.length : Int)) then (if (Int.tmod (wrap64 (a2)) (t218.length : Int)) ≤ (t218.length : Int) then ((predict_Read.f kj13 (t218.take ((Int.tmod (wrap64 (a2)) (t218.length : Int)) : Int).toNat)).bind fun bt250 => (if bt250.2 = 10 then (if (bt250.1.length : Int) = 0 then ((lapidarylaw14_known.f).bind fun t254 => (some t254)) else (if bt250.2 = 0 then (if (bt250.1.length : Int) < (l0.length : Int) then ((lapidarylaw14_known.f).bind fun t255 => (some t255)) else (some false)) else (some false))) else (if bt250.2 = 0 then (if (bt250.1.length : Int) < (l0.length : Int) then ((lapidarylaw14_known.f).bind fun t256 => (some t256)) else (some false)) else (some false)))) else (none)) else (none))) = some r := by rw [if_neg (show ¬ (false = true) by decide)] at H; exact H
                  clear H
                  have H := H1
                  clear H1
                  by_cases c37 : (t218.length : Int) = 0
                  · rw [if_pos c37] at H
                    have c37b0 : ((t218.length : Int) == 0) = true := beq_iff_eq.mpr c37
                    have c37b1 : ((t218.length : Int) != 0) = false := bne_eq_false_iff_eq.mpr c37
                    clear c37
                    by_cases c38 : (l0.length : Int) = 0
                    · rw [if_pos c38] at H
                      have c38b0 : ((l0.length : Int) == 0) = true := beq_iff_eq.mpr c38
                      have c38b1 : ((l0.length : Int) != 0) = false := bne_eq_false_iff_eq.mpr c38
                      clear c38
                      replace H := Option.bind_eq_some_iff.mp H
                      obtain ⟨t245, A390, H⟩ := H
                      replace H : (some t245) = some r := H
                      have A39 := Aside0.mk A390
                      clear A390
                      obtain rfl := Option.some.inj H
                      go_wp2_with (first | (go_at_call 5; (with_reducible refine (lapidarylaw14_known.calls  t245 _ A39.out).mono ?_); rintro e w40 ⟨rfl, hb⟩; have n0_ := Aside0.mk (Kd.R_below (by (with_reducible repeat (first | apply Kd.R_alloc | apply Kd.R_drewN | apply Kd.R_drew)); exact HO_7.out) hb); have n1_ := Aside0.mk (below_step (by repeat (first | (with_reducible first | exact HB.out | apply below_alloc | apply pw_below_drewN | apply below_drew1) | exact HB.out)) hb); clear HO_7; clear HB; have HO_7 := n0_; have HB := n1_; clear n0_ n1_; (try clear hb); (try clear hb2); (try clear hk); (try clear hi)))
                      go_ret
                      exact ⟨by first | rfl | (simp [errW_none, errW_some] <;> rfl) | (simp [*, errW_none, errW_some] <;> rfl), by repeat (first | (with_reducible first | exact HB.out | apply below_alloc | apply pw_below_drewN | apply below_drew1) | exact HB.out)⟩
                    · rw [if_neg c38] at H
                      have c38b0 : ((l0.length : Int) == 0) = false := beq_eq_false_iff_ne.mpr c38
                      have c38b1 : ((l0.length : Int) != 0) = true := bne_iff_ne.mpr c38
                      have c38b2 : ¬ (l0 = []) := fun h_ => c38 (by rw [h_]; rfl)
                      obtain rfl := Option.some.inj H
                      go_wp2
                      go_ret
                      exact ⟨by first | rfl | (simp [errW_none, errW_some] <;> rfl) | (simp [*, errW_none, errW_some] <;> rfl), by repeat (first | (with_reducible first | exact HB.out | apply below_alloc | apply pw_below_drewN | apply below_drew1) | exact HB.out)⟩
                  · rw [if_neg c37] at H
                    have c37b0 : ((t218.length : Int) == 0) = false := beq_eq_false_iff_ne.mpr c37
                    have c37b1 : ((t218.length : Int) != 0) = true := bne_iff_ne.mpr c37
                    have c37b2 : ¬ (t218 = []) := fun h_ => c37 (by rw [h_]; rfl)
                    obtain ⟨ji41, hji41⟩ : ∃ j_ : Int, (Int.tmod (wrap64 (a2)) (t218.length : Int)) = j_ := ⟨_, rfl⟩
                    replace H : (if 0 ≤ (ji41) then (if (ji41) ≤ (t218.length : Int) then ((predict_Read.f kj13 (t218.take ((ji41) : Int).toNat)).bind fun bt250 => (if bt250.2 = 10 then (if (bt250.1.length : Int) = 0 then ((lapidarylaw14_known.f).bind fun t254 => (some t254)) else (if bt250.2 = 0 then (if (bt250.1.length : Int) < (l0.length : Int) then ((lapidarylaw14_known.f).bind fun t255 => (some t255)) else (some false)) else (some false))) else (if bt250.2 = 0 then (if (bt250.1.length : Int) < (l0.length : Int) then ((lapidarylaw14_known.f).bind fun t256 => (some t256)) else (some false)) else (some false)))) else (none)) else (none)) = some r := by first | (rw [hji41] at H; exact H) | (simp only [hji41] at H ⊢; exact H)
                    by_cases c42 : 0 ≤ (ji41)
                    · rw [if_pos c42] at H
                      have c42b0 := eq_true c42
                      have c42b1 : decide (0 ≤ (ji41)) = true := decide_eq_true c42
                      clear c42
                      by_cases c43 : (ji41) ≤ (t218.length : Int)
                      · rw [if_pos c43] at H
                        have c43b0 := eq_true c43
                        have c43b1 : decide ((ji41) ≤ (t218.length : Int)) = true := decide_eq_true c43
                        clear c43
                        obtain ⟨y246, hy246⟩ : ∃ y_ : List Int, y_ = (t218.take ((ji41) : Int).toNat) := ⟨_, rfl⟩
                        replace H : ((predict_Read.f kj13 y246).bind fun bt250 => (if bt250.2 = 10 then (if (bt250.1.length : Int) = 0 then ((lapidarylaw14_known.f).bind fun t254 => (some t254)) else (if bt250.2 = 0 then (if (bt250.1.length : Int) < (l0.length : Int) then ((lapidarylaw14_known.f).bind fun t255 => (some t255)) else (some false)) else (some false))) else (if bt250.2 = 0 then (if (bt250.1.length : Int) < (l0.length : Int) then ((lapidarylaw14_known.f).bind fun t256 => (some t256)) else (some false)) else (some false)))) = some r := by first | (rw [hy246]; with_reducible exact H) | (have H2_ := (Option.bind_some _ _).symm.trans H; rw [hy246]; with_reducible exact H2_) | (have H2_ := (Option.bind_some _ _).symm.trans H; with_reducible exact H2_) | with_reducible exact H | (rw [hy246]; exact H) | exact H
                        have Ny246 := Aside0.mk hy246
                        clear hy246
                        replace H := Option.bind_eq_some_iff.mp H
                        obtain ⟨⟨t250, t251⟩, A440, H⟩ := H
                        replace H : (if t251 = 10 then (if (t250.length : Int) = 0 then ((lapidarylaw14_known.f).bind fun t254 => (some t254)) else (if t251 = 0 then (if (t250.length : Int) < (l0.length : Int) then ((lapidarylaw14_known.f).bind fun t255 => (some t255)) else (some false)) else (some false))) else (if t251 = 0 then (if (t250.length : Int) < (l0.length : Int) then ((lapidarylaw14_known.f).bind fun t256 => (some t256)) else (some false)) else (some false))) = some r := H
                        have A44 := Aside0.mk A440
                        clear A440
                        by_cases c45 : t251 = 10
                        · rw [if_pos c45] at H
                          have c45b0 : (t251 == 10) = true := beq_iff_eq.mpr c45
                          have c45b1 : (t251 != 10) = false := bne_eq_false_iff_eq.mpr c45
                          clear c45
                          by_cases c46 : (t250.length : Int) = 0
                          · rw [if_pos c46] at H
                            have c46b0 : ((t250.length : Int) == 0) = true := beq_iff_eq.mpr c46
                            have c46b1 : ((t250.length : Int) != 0) = false := bne_eq_false_iff_eq.mpr c46
                            clear c46
                            replace H := Option.bind_eq_some_iff.mp H
                            obtain ⟨t254, A470, H⟩ := H
                            replace H : (some t254) = some r := H
                            have A47 := Aside0.mk A470
                            clear A470
                            obtain rfl := Option.some.inj H
                            have q48 : ((ji41) : Int) ≤ ((t218.length : Int) : Int) := of_decide_eq_true (by first | (with_reducible assumption) | assumption)
                            obtain ⟨i048, hi048, _, hsz48, _⟩ := info_parts info5
                            have hroom48 : t218.length ≤ co18 := (Kd.R_reads' HO_7.out).2.1
                            have hC48 : Kd.C (Kd.int .u8) _ Ao18 t218.length t218 := (Kd.R_reads' HO_7.out).2.2
                            have hcut48 := cut_to (P := Try.prog) 23 5 .i64 Try.underlying23 hi048 Ao18 t218.length co18 (ji41) (of_decide_eq_true (by first | (with_reducible assumption) | assumption)) q48 hroom48
                            have hr48 := Kd.C_take (m := ((ji41) : Int).toNat) hC48 (by omega)
                            have hy48 : y246.length = ((ji41) : Int).toNat := (by rw [Ny246.out, List.length_take]; omega)
                            rw [← Ny246.out] at hr48
                            rw [← hy48] at hcut48
                            have HR249 := Aside0.mk hr48
                            have HC249 := Aside0.mk (show y246.length ≤ co18 from by omega)
                            clear hr48 hC48 hroom48 hi048 hsz48
                            have KY48 := Aside0.mk hy48
                            clear hy48
                            have KL48 := Aside0.mk (show ((ji41) : Int).toNat ≤ t218.length from by omega)
                            replace q48 := eq_true q48
                            go_wp2_with (first | ((with_reducible refine gate_callee (f := 7) rfl ?_); refine goesL_ (some 75) rfl rfl Try.func7 (by kernel_rfl) rfl #[.slice Ao18 y246.length co18] rfl (by (try simp only [List.map_toArray, List.map_cons, List.map_nil]); first | done | rfl | (simp only [List.length_drop, List.length_take]; rfl)) ?_; (with_reducible refine (predict_Read.calls kj13 _ _ y246 t250 t251 _ ?side1 ?side2 A44.out).mono ?_); (case side1 => repeat (first | exact (by repeat (first | (with_reducible exact HR249.out) | (with_reducible refine Kd.C_alloc ?_ _) | (with_reducible refine Kd.C_drewN ?_ _) | (with_reducible refine Kd.C_drew ?_) | exact HR249.out)) | (with_reducible refine Kd.C_alloc ?_ _) | (with_reducible refine Kd.C_drewN ?_ _) | (with_reducible refine Kd.C_drew ?_))); (case side2 => exact HC249.out); rintro e w49 ⟨v252, rfl, ho0, hb⟩; refine ⟨_, rfl, ?_⟩; have n0_ := Aside0.mk (Kd.R_below (by (with_reducible repeat (first | apply Kd.R_alloc | apply Kd.R_drewN | apply Kd.R_drew)); exact HO_7.out) hb); have n1_ := Aside0.mk (Kd.R_lower ho0 (below_size (by repeat (first | (with_reducible first | exact HB.out | apply below_alloc | apply pw_below_drewN | apply below_drew1) | exact HB.out)))); have n2_ := Aside0.mk (Kd.C_below (by repeat (first | (with_reducible exact HR249.out) | (with_reducible refine Kd.C_alloc ?_ _) | (with_reducible refine Kd.C_drewN ?_ _) | (with_reducible refine Kd.C_drew ?_) | exact HR249.out)) hb); have n3_ := Aside0.mk (below_step (by repeat (first | (with_reducible first | exact HB.out | apply below_alloc | apply pw_below_drewN | apply below_drew1) | exact HB.out)) hb); clear HO_7; clear HR249; clear HB; have HO_7 := n0_; have HO253 := n1_; have HR249 := n2_; have HB := n3_; clear n0_ n1_ n2_ n3_; (try clear hb); (try clear hb2); (try clear hk); (try clear hi); (try clear ho0); obtain ⟨Ao50, co50, eo50⟩ := Kd.R_slice HO253.out; subst eo50) | (go_at_call 5; (with_reducible refine (lapidarylaw14_known.calls  t254 _ A47.out).mono ?_); rintro e w51 ⟨rfl, hb⟩; have n0_ := Aside0.mk (Kd.R_below (by (with_reducible repeat (first | apply Kd.R_alloc | apply Kd.R_drewN | apply Kd.R_drew)); exact HO_7.out) hb); have n1_ := Aside0.mk (Kd.R_below (by (with_reducible repeat (first | apply Kd.R_alloc | apply Kd.R_drewN | apply Kd.R_drew)); exact HO253.out) hb); have n2_ := Aside0.mk (Kd.C_below (by repeat (first | (with_reducible exact HR249.out) | (with_reducible refine Kd.C_alloc ?_ _) | (with_reducible refine Kd.C_drewN ?_ _) | (with_reducible refine Kd.C_drew ?_) | exact HR249.out)) hb); have n3_ := Aside0.mk (below_step (by repeat (first | (with_reducible first | exact HB.out | apply below_alloc | apply pw_below_drewN | apply below_drew1) | exact HB.out)) hb); clear HO_7; clear HO253; clear HR249; clear HB; have HO_7 := n0_; have HO253 := n1_; have HR249 := n2_; have HB := n3_; clear n0_ n1_ n2_ n3_; (try clear hb); (try clear hb2); (try clear hk); (try clear hi)))
                            go_ret
                            exact ⟨by first | rfl | (simp [errW_none, errW_some] <;> rfl) | (simp only [← hji41]; first | rfl | (simp [errW_none, errW_some] <;> rfl)) | (simp [*, errW_none, errW_some] <;> rfl), by repeat (first | (with_reducible first | exact HB.out | apply below_alloc | apply pw_below_drewN | apply below_drew1) | exact HB.out)⟩
                          · rw [if_neg c46] at H
                            have c46b0 : ((t250.length : Int) == 0) = false := beq_eq_false_iff_ne.mpr c46
                            have c46b1 : ((t250.length : Int) != 0) = true := bne_iff_ne.mpr c46
                            have c46b2 : ¬ (t250 = []) := fun h_ => c46 (by rw [h_]; rfl)
                            by_cases c52 : t251 = 0
                            · rw [if_pos c52] at H
                              have c52b0 : (t251 == 0) = true := beq_iff_eq.mpr c52
                              have c52b1 : (t251 != 0) = false := bne_eq_false_iff_eq.mpr c52
                              clear c52
                              by_cases c53 : (t250.length : Int) < (l0.length : Int)
                              · rw [if_pos c53] at H
                                have c53b0 : decide ((t250.length : Int) < (l0.length : Int)) = true := decide_eq_true c53
                                have c53b1 : decide (t250.length < l0.length) = true := decide_eq_true (Int.ofNat_lt.mp c53)
                                clear c53
                                replace H := Option.bind_eq_some_iff.mp H
                                obtain ⟨t255, A540, H⟩ := H
                                replace H : (some t255) = some r := H
                                have A54 := Aside0.mk A540
                                clear A540
                                obtain rfl := Option.some.inj H
                                have q55 : ((ji41) : Int) ≤ ((t218.length : Int) : Int) := of_decide_eq_true (by first | (with_reducible assumption) | assumption)
                                obtain ⟨i055, hi055, _, hsz55, _⟩ := info_parts info5
                                have hroom55 : t218.length ≤ co18 := (Kd.R_reads' HO_7.out).2.1
                                have hC55 : Kd.C (Kd.int .u8) _ Ao18 t218.length t218 := (Kd.R_reads' HO_7.out).2.2
                                have hcut55 := cut_to (P := Try.prog) 23 5 .i64 Try.underlying23 hi055 Ao18 t218.length co18 (ji41) (of_decide_eq_true (by first | (with_reducible assumption) | assumption)) q55 hroom55
                                have hr55 := Kd.C_take (m := ((ji41) : Int).toNat) hC55 (by omega)
                                have hy55 : y246.length = ((ji41) : Int).toNat := (by rw [Ny246.out, List.length_take]; omega)
                                rw [← Ny246.out] at hr55
                                rw [← hy55] at hcut55
                                have HR249 := Aside0.mk hr55
                                have HC249 := Aside0.mk (show y246.length ≤ co18 from by omega)
                                clear hr55 hC55 hroom55 hi055 hsz55
                                have KY55 := Aside0.mk hy55
                                clear hy55
                                have KL55 := Aside0.mk (show ((ji41) : Int).toNat ≤ t218.length from by omega)
                                replace q55 := eq_true q55
                                go_wp2_with (first | ((with_reducible refine gate_callee (f := 7) rfl ?_); refine goesL_ (some 75) rfl rfl Try.func7 (by kernel_rfl) rfl #[.slice Ao18 y246.length co18] rfl (by (try simp only [List.map_toArray, List.map_cons, List.map_nil]); first | done | rfl | (simp only [List.length_drop, List.length_take]; rfl)) ?_; (with_reducible refine (predict_Read.calls kj13 _ _ y246 t250 t251 _ ?side1 ?side2 A44.out).mono ?_); (case side1 => repeat (first | exact (by repeat (first | (with_reducible exact HR249.out) | (with_reducible refine Kd.C_alloc ?_ _) | (with_reducible refine Kd.C_drewN ?_ _) | (with_reducible refine Kd.C_drew ?_) | exact HR249.out)) | (with_reducible refine Kd.C_alloc ?_ _) | (with_reducible refine Kd.C_drewN ?_ _) | (with_reducible refine Kd.C_drew ?_))); (case side2 => exact HC249.out); rintro e w56 ⟨v252, rfl, ho0, hb⟩; refine ⟨_, rfl, ?_⟩; have n0_ := Aside0.mk (Kd.R_below (by (with_reducible repeat (first | apply Kd.R_alloc | apply Kd.R_drewN | apply Kd.R_drew)); exact HO_7.out) hb); have n1_ := Aside0.mk (Kd.R_lower ho0 (below_size (by repeat (first | (with_reducible first | exact HB.out | apply below_alloc | apply pw_below_drewN | apply below_drew1) | exact HB.out)))); have n2_ := Aside0.mk (Kd.C_below (by repeat (first | (with_reducible exact HR249.out) | (with_reducible refine Kd.C_alloc ?_ _) | (with_reducible refine Kd.C_drewN ?_ _) | (with_reducible refine Kd.C_drew ?_) | exact HR249.out)) hb); have n3_ := Aside0.mk (below_step (by repeat (first | (with_reducible first | exact HB.out | apply below_alloc | apply pw_below_drewN | apply below_drew1) | exact HB.out)) hb); clear HO_7; clear HR249; clear HB; have HO_7 := n0_; have HO253 := n1_; have HR249 := n2_; have HB := n3_; clear n0_ n1_ n2_ n3_; (try clear hb); (try clear hb2); (try clear hk); (try clear hi); (try clear ho0); obtain ⟨Ao57, co57, eo57⟩ := Kd.R_slice HO253.out; subst eo57) | (go_at_call 5; (with_reducible refine (lapidarylaw14_known.calls  t255 _ A54.out).mono ?_); rintro e w58 ⟨rfl, hb⟩; have n0_ := Aside0.mk (Kd.R_below (by (with_reducible repeat (first | apply Kd.R_alloc | apply Kd.R_drewN | apply Kd.R_drew)); exact HO_7.out) hb); have n1_ := Aside0.mk (Kd.R_below (by (with_reducible repeat (first | apply Kd.R_alloc | apply Kd.R_drewN | apply Kd.R_drew)); exact HO253.out) hb); have n2_ := Aside0.mk (Kd.C_below (by repeat (first | (with_reducible exact HR249.out) | (with_reducible refine Kd.C_alloc ?_ _) | (with_reducible refine Kd.C_drewN ?_ _) | (with_reducible refine Kd.C_drew ?_) | exact HR249.out)) hb); have n3_ := Aside0.mk (below_step (by repeat (first | (with_reducible first | exact HB.out | apply below_alloc | apply pw_below_drewN | apply below_drew1) | exact HB.out)) hb); clear HO_7; clear HO253; clear HR249; clear HB; have HO_7 := n0_; have HO253 := n1_; have HR249 := n2_; have HB := n3_; clear n0_ n1_ n2_ n3_; (try clear hb); (try clear hb2); (try clear hk); (try clear hi)))
                                go_ret
                                exact ⟨by first | rfl | (simp [errW_none, errW_some] <;> rfl) | (simp only [← hji41]; first | rfl | (simp [errW_none, errW_some] <;> rfl)) | (simp [*, errW_none, errW_some] <;> rfl), by repeat (first | (with_reducible first | exact HB.out | apply below_alloc | apply pw_below_drewN | apply below_drew1) | exact HB.out)⟩
                              · rw [if_neg c53] at H
                                have c53b0 : decide ((t250.length : Int) < (l0.length : Int)) = false := decide_eq_false c53
                                have c53b1 : decide (t250.length < l0.length) = false := decide_eq_false (fun h => c53 (Int.ofNat_lt.mpr h))
                                clear c53
                                obtain rfl := Option.some.inj H
                                have q59 : ((ji41) : Int) ≤ ((t218.length : Int) : Int) := of_decide_eq_true (by first | (with_reducible assumption) | assumption)
                                obtain ⟨i059, hi059, _, hsz59, _⟩ := info_parts info5
                                have hroom59 : t218.length ≤ co18 := (Kd.R_reads' HO_7.out).2.1
                                have hC59 : Kd.C (Kd.int .u8) _ Ao18 t218.length t218 := (Kd.R_reads' HO_7.out).2.2
                                have hcut59 := cut_to (P := Try.prog) 23 5 .i64 Try.underlying23 hi059 Ao18 t218.length co18 (ji41) (of_decide_eq_true (by first | (with_reducible assumption) | assumption)) q59 hroom59
                                have hr59 := Kd.C_take (m := ((ji41) : Int).toNat) hC59 (by omega)
                                have hy59 : y246.length = ((ji41) : Int).toNat := (by rw [Ny246.out, List.length_take]; omega)
                                rw [← Ny246.out] at hr59
                                rw [← hy59] at hcut59
                                have HR249 := Aside0.mk hr59
                                have HC249 := Aside0.mk (show y246.length ≤ co18 from by omega)
                                clear hr59 hC59 hroom59 hi059 hsz59
                                have KY59 := Aside0.mk hy59
                                clear hy59
                                have KL59 := Aside0.mk (show ((ji41) : Int).toNat ≤ t218.length from by omega)
                                replace q59 := eq_true q59
                                go_wp2_with (first | ((with_reducible refine gate_callee (f := 7) rfl ?_); refine goesL_ (some 75) rfl rfl Try.func7 (by kernel_rfl) rfl #[.slice Ao18 y246.length co18] rfl (by (try simp only [List.map_toArray, List.map_cons, List.map_nil]); first | done | rfl | (simp only [List.length_drop, List.length_take]; rfl)) ?_; (with_reducible refine (predict_Read.calls kj13 _ _ y246 t250 t251 _ ?side1 ?side2 A44.out).mono ?_); (case side1 => repeat (first | exact (by repeat (first | (with_reducible exact HR249.out) | (with_reducible refine Kd.C_alloc ?_ _) | (with_reducible refine Kd.C_drewN ?_ _) | (with_reducible refine Kd.C_drew ?_) | exact HR249.out)) | (with_reducible refine Kd.C_alloc ?_ _) | (with_reducible refine Kd.C_drewN ?_ _) | (with_reducible refine Kd.C_drew ?_))); (case side2 => exact HC249.out); rintro e w60 ⟨v252, rfl, ho0, hb⟩; refine ⟨_, rfl, ?_⟩; have n0_ := Aside0.mk (Kd.R_below (by (with_reducible repeat (first | apply Kd.R_alloc | apply Kd.R_drewN | apply Kd.R_drew)); exact HO_7.out) hb); have n1_ := Aside0.mk (Kd.R_lower ho0 (below_size (by repeat (first | (with_reducible first | exact HB.out | apply below_alloc | apply pw_below_drewN | apply below_drew1) | exact HB.out)))); have n2_ := Aside0.mk (Kd.C_below (by repeat (first | (with_reducible exact HR249.out) | (with_reducible refine Kd.C_alloc ?_ _) | (with_reducible refine Kd.C_drewN ?_ _) | (with_reducible refine Kd.C_drew ?_) | exact HR249.out)) hb); have n3_ := Aside0.mk (below_step (by repeat (first | (with_reducible first | exact HB.out | apply below_alloc | apply pw_below_drewN | apply below_drew1) | exact HB.out)) hb); clear HO_7; clear HR249; clear HB; have HO_7 := n0_; have HO253 := n1_; have HR249 := n2_; have HB := n3_; clear n0_ n1_ n2_ n3_; (try clear hb); (try clear hb2); (try clear hk); (try clear hi); (try clear ho0); obtain ⟨Ao61, co61, eo61⟩ := Kd.R_slice HO253.out; subst eo61))
                                go_ret
                                exact ⟨by first | rfl | (simp [errW_none, errW_some] <;> rfl) | (simp only [← hji41]; first | rfl | (simp [errW_none, errW_some] <;> rfl)) | (simp [*, errW_none, errW_some] <;> rfl), by repeat (first | (with_reducible first | exact HB.out | apply below_alloc | apply pw_below_drewN | apply below_drew1) | exact HB.out)⟩
                            · rw [if_neg c52] at H
                              have c52b0 : (t251 == 0) = false := beq_eq_false_iff_ne.mpr c52
                              have c52b1 : (t251 != 0) = true := bne_iff_ne.mpr c52
                              obtain rfl := Option.some.inj H
                              have q62 : ((ji41) : Int) ≤ ((t218.length : Int) : Int) := of_decide_eq_true (by first | (with_reducible assumption) | assumption)
                              obtain ⟨i062, hi062, _, hsz62, _⟩ := info_parts info5
                              have hroom62 : t218.length ≤ co18 := (Kd.R_reads' HO_7.out).2.1
                              have hC62 : Kd.C (Kd.int .u8) _ Ao18 t218.length t218 := (Kd.R_reads' HO_7.out).2.2
                              have hcut62 := cut_to (P := Try.prog) 23 5 .i64 Try.underlying23 hi062 Ao18 t218.length co18 (ji41) (of_decide_eq_true (by first | (with_reducible assumption) | assumption)) q62 hroom62
                              have hr62 := Kd.C_take (m := ((ji41) : Int).toNat) hC62 (by omega)
                              have hy62 : y246.length = ((ji41) : Int).toNat := (by rw [Ny246.out, List.length_take]; omega)
                              rw [← Ny246.out] at hr62
                              rw [← hy62] at hcut62
                              have HR249 := Aside0.mk hr62
                              have HC249 := Aside0.mk (show y246.length ≤ co18 from by omega)
                              clear hr62 hC62 hroom62 hi062 hsz62
                              have KY62 := Aside0.mk hy62
                              clear hy62
                              have KL62 := Aside0.mk (show ((ji41) : Int).toNat ≤ t218.length from by omega)
                              replace q62 := eq_true q62
                              go_wp2_with (first | ((with_reducible refine gate_callee (f := 7) rfl ?_); refine goesL_ (some 75) rfl rfl Try.func7 (by kernel_rfl) rfl #[.slice Ao18 y246.length co18] rfl (by (try simp only [List.map_toArray, List.map_cons, List.map_nil]); first | done | rfl | (simp only [List.length_drop, List.length_take]; rfl)) ?_; (with_reducible refine (predict_Read.calls kj13 _ _ y246 t250 t251 _ ?side1 ?side2 A44.out).mono ?_); (case side1 => repeat (first | exact (by repeat (first | (with_reducible exact HR249.out) | (with_reducible refine Kd.C_alloc ?_ _) | (with_reducible refine Kd.C_drewN ?_ _) | (with_reducible refine Kd.C_drew ?_) | exact HR249.out)) | (with_reducible refine Kd.C_alloc ?_ _) | (with_reducible refine Kd.C_drewN ?_ _) | (with_reducible refine Kd.C_drew ?_))); (case side2 => exact HC249.out); rintro e w63 ⟨v252, rfl, ho0, hb⟩; refine ⟨_, rfl, ?_⟩; have n0_ := Aside0.mk (Kd.R_below (by (with_reducible repeat (first | apply Kd.R_alloc | apply Kd.R_drewN | apply Kd.R_drew)); exact HO_7.out) hb); have n1_ := Aside0.mk (Kd.R_lower ho0 (below_size (by repeat (first | (with_reducible first | exact HB.out | apply below_alloc | apply pw_below_drewN | apply below_drew1) | exact HB.out)))); have n2_ := Aside0.mk (Kd.C_below (by repeat (first | (with_reducible exact HR249.out) | (with_reducible refine Kd.C_alloc ?_ _) | (with_reducible refine Kd.C_drewN ?_ _) | (with_reducible refine Kd.C_drew ?_) | exact HR249.out)) hb); have n3_ := Aside0.mk (below_step (by repeat (first | (with_reducible first | exact HB.out | apply below_alloc | apply pw_below_drewN | apply below_drew1) | exact HB.out)) hb); clear HO_7; clear HR249; clear HB; have HO_7 := n0_; have HO253 := n1_; have HR249 := n2_; have HB := n3_; clear n0_ n1_ n2_ n3_; (try clear hb); (try clear hb2); (try clear hk); (try clear hi); (try clear ho0); obtain ⟨Ao64, co64, eo64⟩ := Kd.R_slice HO253.out; subst eo64))
                              go_ret
                              exact ⟨by first | rfl | (simp [errW_none, errW_some] <;> rfl) | (simp only [← hji41]; first | rfl | (simp [errW_none, errW_some] <;> rfl)) | (simp [*, errW_none, errW_some] <;> rfl), by repeat (first | (with_reducible first | exact HB.out | apply below_alloc | apply pw_below_drewN | apply below_drew1) | exact HB.out)⟩
                        · rw [if_neg c45] at H
                          have c45b0 : (t251 == 10) = false := beq_eq_false_iff_ne.mpr c45
                          have c45b1 : (t251 != 10) = true := bne_iff_ne.mpr c45
                          by_cases c65 : t251 = 0
                          · rw [if_pos c65] at H
                            have c65b0 : (t251 == 0) = true := beq_iff_eq.mpr c65
                            have c65b1 : (t251 != 0) = false := bne_eq_false_iff_eq.mpr c65
                            clear c65
                            by_cases c66 : (t250.length : Int) < (l0.length : Int)
                            · rw [if_pos c66] at H
                              have c66b0 : decide ((t250.length : Int) < (l0.length : Int)) = true := decide_eq_true c66
                              have c66b1 : decide (t250.length < l0.length) = true := decide_eq_true (Int.ofNat_lt.mp c66)
                              clear c66
                              replace H := Option.bind_eq_some_iff.mp H
                              obtain ⟨t256, A670, H⟩ := H
                              replace H : (some t256) = some r := H
                              have A67 := Aside0.mk A670
                              clear A670
                              obtain rfl := Option.some.inj H
                              have q68 : ((ji41) : Int) ≤ ((t218.length : Int) : Int) := of_decide_eq_true (by first | (with_reducible assumption) | assumption)
                              obtain ⟨i068, hi068, _, hsz68, _⟩ := info_parts info5
                              have hroom68 : t218.length ≤ co18 := (Kd.R_reads' HO_7.out).2.1
                              have hC68 : Kd.C (Kd.int .u8) _ Ao18 t218.length t218 := (Kd.R_reads' HO_7.out).2.2
                              have hcut68 := cut_to (P := Try.prog) 23 5 .i64 Try.underlying23 hi068 Ao18 t218.length co18 (ji41) (of_decide_eq_true (by first | (with_reducible assumption) | assumption)) q68 hroom68
                              have hr68 := Kd.C_take (m := ((ji41) : Int).toNat) hC68 (by omega)
                              have hy68 : y246.length = ((ji41) : Int).toNat := (by rw [Ny246.out, List.length_take]; omega)
                              rw [← Ny246.out] at hr68
                              rw [← hy68] at hcut68
                              have HR249 := Aside0.mk hr68
                              have HC249 := Aside0.mk (show y246.length ≤ co18 from by omega)
                              clear hr68 hC68 hroom68 hi068 hsz68
                              have KY68 := Aside0.mk hy68
                              clear hy68
                              have KL68 := Aside0.mk (show ((ji41) : Int).toNat ≤ t218.length from by omega)
                              replace q68 := eq_true q68
                              go_wp2_with (first | ((with_reducible refine gate_callee (f := 7) rfl ?_); refine goesL_ (some 75) rfl rfl Try.func7 (by kernel_rfl) rfl #[.slice Ao18 y246.length co18] rfl (by (try simp only [List.map_toArray, List.map_cons, List.map_nil]); first | done | rfl | (simp only [List.length_drop, List.length_take]; rfl)) ?_; (with_reducible refine (predict_Read.calls kj13 _ _ y246 t250 t251 _ ?side1 ?side2 A44.out).mono ?_); (case side1 => repeat (first | exact (by repeat (first | (with_reducible exact HR249.out) | (with_reducible refine Kd.C_alloc ?_ _) | (with_reducible refine Kd.C_drewN ?_ _) | (with_reducible refine Kd.C_drew ?_) | exact HR249.out)) | (with_reducible refine Kd.C_alloc ?_ _) | (with_reducible refine Kd.C_drewN ?_ _) | (with_reducible refine Kd.C_drew ?_))); (case side2 => exact HC249.out); rintro e w69 ⟨v252, rfl, ho0, hb⟩; refine ⟨_, rfl, ?_⟩; have n0_ := Aside0.mk (Kd.R_below (by (with_reducible repeat (first | apply Kd.R_alloc | apply Kd.R_drewN | apply Kd.R_drew)); exact HO_7.out) hb); have n1_ := Aside0.mk (Kd.R_lower ho0 (below_size (by repeat (first | (with_reducible first | exact HB.out | apply below_alloc | apply pw_below_drewN | apply below_drew1) | exact HB.out)))); have n2_ := Aside0.mk (Kd.C_below (by repeat (first | (with_reducible exact HR249.out) | (with_reducible refine Kd.C_alloc ?_ _) | (with_reducible refine Kd.C_drewN ?_ _) | (with_reducible refine Kd.C_drew ?_) | exact HR249.out)) hb); have n3_ := Aside0.mk (below_step (by repeat (first | (with_reducible first | exact HB.out | apply below_alloc | apply pw_below_drewN | apply below_drew1) | exact HB.out)) hb); clear HO_7; clear HR249; clear HB; have HO_7 := n0_; have HO253 := n1_; have HR249 := n2_; have HB := n3_; clear n0_ n1_ n2_ n3_; (try clear hb); (try clear hb2); (try clear hk); (try clear hi); (try clear ho0); obtain ⟨Ao70, co70, eo70⟩ := Kd.R_slice HO253.out; subst eo70) | (go_at_call 5; (with_reducible refine (lapidarylaw14_known.calls  t256 _ A67.out).mono ?_); rintro e w71 ⟨rfl, hb⟩; have n0_ := Aside0.mk (Kd.R_below (by (with_reducible repeat (first | apply Kd.R_alloc | apply Kd.R_drewN | apply Kd.R_drew)); exact HO_7.out) hb); have n1_ := Aside0.mk (Kd.R_below (by (with_reducible repeat (first | apply Kd.R_alloc | apply Kd.R_drewN | apply Kd.R_drew)); exact HO253.out) hb); have n2_ := Aside0.mk (Kd.C_below (by repeat (first | (with_reducible exact HR249.out) | (with_reducible refine Kd.C_alloc ?_ _) | (with_reducible refine Kd.C_drewN ?_ _) | (with_reducible refine Kd.C_drew ?_) | exact HR249.out)) hb); have n3_ := Aside0.mk (below_step (by repeat (first | (with_reducible first | exact HB.out | apply below_alloc | apply pw_below_drewN | apply below_drew1) | exact HB.out)) hb); clear HO_7; clear HO253; clear HR249; clear HB; have HO_7 := n0_; have HO253 := n1_; have HR249 := n2_; have HB := n3_; clear n0_ n1_ n2_ n3_; (try clear hb); (try clear hb2); (try clear hk); (try clear hi)))
                              go_ret
                              exact ⟨by first | rfl | (simp [errW_none, errW_some] <;> rfl) | (simp only [← hji41]; first | rfl | (simp [errW_none, errW_some] <;> rfl)) | (simp [*, errW_none, errW_some] <;> rfl), by repeat (first | (with_reducible first | exact HB.out | apply below_alloc | apply pw_below_drewN | apply below_drew1) | exact HB.out)⟩
                            · rw [if_neg c66] at H
                              have c66b0 : decide ((t250.length : Int) < (l0.length : Int)) = false := decide_eq_false c66
                              have c66b1 : decide (t250.length < l0.length) = false := decide_eq_false (fun h => c66 (Int.ofNat_lt.mpr h))
                              clear c66
                              obtain rfl := Option.some.inj H
                              have q72 : ((ji41) : Int) ≤ ((t218.length : Int) : Int) := of_decide_eq_true (by first | (with_reducible assumption) | assumption)
                              obtain ⟨i072, hi072, _, hsz72, _⟩ := info_parts info5
                              have hroom72 : t218.length ≤ co18 := (Kd.R_reads' HO_7.out).2.1
                              have hC72 : Kd.C (Kd.int .u8) _ Ao18 t218.length t218 := (Kd.R_reads' HO_7.out).2.2
                              have hcut72 := cut_to (P := Try.prog) 23 5 .i64 Try.underlying23 hi072 Ao18 t218.length co18 (ji41) (of_decide_eq_true (by first | (with_reducible assumption) | assumption)) q72 hroom72
                              have hr72 := Kd.C_take (m := ((ji41) : Int).toNat) hC72 (by omega)
                              have hy72 : y246.length = ((ji41) : Int).toNat := (by rw [Ny246.out, List.length_take]; omega)
                              rw [← Ny246.out] at hr72
                              rw [← hy72] at hcut72
                              have HR249 := Aside0.mk hr72
                              have HC249 := Aside0.mk (show y246.length ≤ co18 from by omega)
                              clear hr72 hC72 hroom72 hi072 hsz72
                              have KY72 := Aside0.mk hy72
                              clear hy72
                              have KL72 := Aside0.mk (show ((ji41) : Int).toNat ≤ t218.length from by omega)
                              replace q72 := eq_true q72
                              go_wp2_with (first | ((with_reducible refine gate_callee (f := 7) rfl ?_); refine goesL_ (some 75) rfl rfl Try.func7 (by kernel_rfl) rfl #[.slice Ao18 y246.length co18] rfl (by (try simp only [List.map_toArray, List.map_cons, List.map_nil]); first | done | rfl | (simp only [List.length_drop, List.length_take]; rfl)) ?_; (with_reducible refine (predict_Read.calls kj13 _ _ y246 t250 t251 _ ?side1 ?side2 A44.out).mono ?_); (case side1 => repeat (first | exact (by repeat (first | (with_reducible exact HR249.out) | (with_reducible refine Kd.C_alloc ?_ _) | (with_reducible refine Kd.C_drewN ?_ _) | (with_reducible refine Kd.C_drew ?_) | exact HR249.out)) | (with_reducible refine Kd.C_alloc ?_ _) | (with_reducible refine Kd.C_drewN ?_ _) | (with_reducible refine Kd.C_drew ?_))); (case side2 => exact HC249.out); rintro e w73 ⟨v252, rfl, ho0, hb⟩; refine ⟨_, rfl, ?_⟩; have n0_ := Aside0.mk (Kd.R_below (by (with_reducible repeat (first | apply Kd.R_alloc | apply Kd.R_drewN | apply Kd.R_drew)); exact HO_7.out) hb); have n1_ := Aside0.mk (Kd.R_lower ho0 (below_size (by repeat (first | (with_reducible first | exact HB.out | apply below_alloc | apply pw_below_drewN | apply below_drew1) | exact HB.out)))); have n2_ := Aside0.mk (Kd.C_below (by repeat (first | (with_reducible exact HR249.out) | (with_reducible refine Kd.C_alloc ?_ _) | (with_reducible refine Kd.C_drewN ?_ _) | (with_reducible refine Kd.C_drew ?_) | exact HR249.out)) hb); have n3_ := Aside0.mk (below_step (by repeat (first | (with_reducible first | exact HB.out | apply below_alloc | apply pw_below_drewN | apply below_drew1) | exact HB.out)) hb); clear HO_7; clear HR249; clear HB; have HO_7 := n0_; have HO253 := n1_; have HR249 := n2_; have HB := n3_; clear n0_ n1_ n2_ n3_; (try clear hb); (try clear hb2); (try clear hk); (try clear hi); (try clear ho0); obtain ⟨Ao74, co74, eo74⟩ := Kd.R_slice HO253.out; subst eo74))
                              go_ret
                              exact ⟨by first | rfl | (simp [errW_none, errW_some] <;> rfl) | (simp only [← hji41]; first | rfl | (simp [errW_none, errW_some] <;> rfl)) | (simp [*, errW_none, errW_some] <;> rfl), by repeat (first | (with_reducible first | exact HB.out | apply below_alloc | apply pw_below_drewN | apply below_drew1) | exact HB.out)⟩
                          · rw [if_neg c65] at H
                            have c65b0 : (t251 == 0) = false := beq_eq_false_iff_ne.mpr c65
                            have c65b1 : (t251 != 0) = true := bne_iff_ne.mpr c65
                            obtain rfl := Option.some.inj H
                            have q75 : ((ji41) : Int) ≤ ((t218.length : Int) : Int) := of_decide_eq_true (by first | (with_reducible assumption) | assumption)
                            obtain ⟨i075, hi075, _, hsz75, _⟩ := info_parts info5
                            have hroom75 : t218.length ≤ co18 := (Kd.R_reads' HO_7.out).2.1
                            have hC75 : Kd.C (Kd.int .u8) _ Ao18 t218.length t218 := (Kd.R_reads' HO_7.out).2.2
                            have hcut75 := cut_to (P := Try.prog) 23 5 .i64 Try.underlying23 hi075 Ao18 t218.length co18 (ji41) (of_decide_eq_true (by first | (with_reducible assumption) | assumption)) q75 hroom75
                            have hr75 := Kd.C_take (m := ((ji41) : Int).toNat) hC75 (by omega)
                            have hy75 : y246.length = ((ji41) : Int).toNat := (by rw [Ny246.out, List.length_take]; omega)
                            rw [← Ny246.out] at hr75
                            rw [← hy75] at hcut75
                            have HR249 := Aside0.mk hr75
                            have HC249 := Aside0.mk (show y246.length ≤ co18 from by omega)
                            clear hr75 hC75 hroom75 hi075 hsz75
                            have KY75 := Aside0.mk hy75
                            clear hy75
                            have KL75 := Aside0.mk (show ((ji41) : Int).toNat ≤ t218.length from by omega)
                            replace q75 := eq_true q75
                            go_wp2_with (first | ((with_reducible refine gate_callee (f := 7) rfl ?_); refine goesL_ (some 75) rfl rfl Try.func7 (by kernel_rfl) rfl #[.slice Ao18 y246.length co18] rfl (by (try simp only [List.map_toArray, List.map_cons, List.map_nil]); first | done | rfl | (simp only [List.length_drop, List.length_take]; rfl)) ?_; (with_reducible refine (predict_Read.calls kj13 _ _ y246 t250 t251 _ ?side1 ?side2 A44.out).mono ?_); (case side1 => repeat (first | exact (by repeat (first | (with_reducible exact HR249.out) | (with_reducible refine Kd.C_alloc ?_ _) | (with_reducible refine Kd.C_drewN ?_ _) | (with_reducible refine Kd.C_drew ?_) | exact HR249.out)) | (with_reducible refine Kd.C_alloc ?_ _) | (with_reducible refine Kd.C_drewN ?_ _) | (with_reducible refine Kd.C_drew ?_))); (case side2 => exact HC249.out); rintro e w76 ⟨v252, rfl, ho0, hb⟩; refine ⟨_, rfl, ?_⟩; have n0_ := Aside0.mk (Kd.R_below (by (with_reducible repeat (first | apply Kd.R_alloc | apply Kd.R_drewN | apply Kd.R_drew)); exact HO_7.out) hb); have n1_ := Aside0.mk (Kd.R_lower ho0 (below_size (by repeat (first | (with_reducible first | exact HB.out | apply below_alloc | apply pw_below_drewN | apply below_drew1) | exact HB.out)))); have n2_ := Aside0.mk (Kd.C_below (by repeat (first | (with_reducible exact HR249.out) | (with_reducible refine Kd.C_alloc ?_ _) | (with_reducible refine Kd.C_drewN ?_ _) | (with_reducible refine Kd.C_drew ?_) | exact HR249.out)) hb); have n3_ := Aside0.mk (below_step (by repeat (first | (with_reducible first | exact HB.out | apply below_alloc | apply pw_below_drewN | apply below_drew1) | exact HB.out)) hb); clear HO_7; clear HR249; clear HB; have HO_7 := n0_; have HO253 := n1_; have HR249 := n2_; have HB := n3_; clear n0_ n1_ n2_ n3_; (try clear hb); (try clear hb2); (try clear hk); (try clear hi); (try clear ho0)))
                            go_ret
                            exact ⟨by first | rfl | (simp [errW_none, errW_some] <;> rfl) | (simp only [← hji41]; first | rfl | (simp [errW_none, errW_some] <;> rfl)) | (simp [*, errW_none, errW_some] <;> rfl), by repeat (first | (with_reducible first | exact HB.out | apply below_alloc | apply pw_below_drewN | apply below_drew1) | exact HB.out)⟩
                      · rw [if_neg c43] at H
                        exact absurd H (by simp)
                    · rw [if_neg c42] at H
                      exact absurd H (by simp)
          · rw [if_neg c12] at H
            exact absurd H (by simp)
        · rw [if_neg c11] at H
          exact absurd H (by simp)
      · rw [if_neg c10] at H
        exact absurd H (by simp)
    · rw [if_neg c9] at H
      exact absurd H (by simp)

/-- THE ONE PURE STATEMENT of lapidarylaw14_PredictReads: yours. -/
def lapidarylaw14_PredictReads.Pure : Prop := ∀ (l0 : List Int) (l1 : List Int) (a2 : Int), l0.length ≤ maxLen → l0.length * 8 ≤ 140737488351232 → (∀ x ∈ l0, (Lit.int .i64 x).wf = true) → l1.length ≤ maxLen → l1.length * 8 ≤ 140737488351232 → (∀ x ∈ l1, (Lit.int .i64 x).wf = true) → (Lit.int .u8 a2).wf = true → ∃ k, lapidarylaw14_PredictReads.f k l0 l1 a2 = some true
theorem lapidarylaw14_PredictReads.walk (P : lapidarylaw14_PredictReads.Pure) (a0 : Option Addr) (len0 cap0 : Nat) (z0 : List Int) (a1 : Option Addr) (len1 cap1 : Nat) (z1 : List Int) (a2 : Int) (w : World) (w0 : (a0 = none ∧ len0 = 0 ∧ cap0 = 0 ∧ z0 = []) ∨ ∃ x, a0 = some x ∧ len0 ≤ cap0 ∧ cap0 ≤ maxLen ∧ z0.length = cap0 ∧ (∀ i, i < z0.length → w.cell? (x.add i) = some (.int .i64 (z0.getD i 0))) ∧ ∀ n ∈ z0, (Lit.int .i64 n).wf = true) (y0 : len0 * 8 ≤ 140737488351232) (w1 : (a1 = none ∧ len1 = 0 ∧ cap1 = 0 ∧ z1 = []) ∨ ∃ x, a1 = some x ∧ len1 ≤ cap1 ∧ cap1 ≤ maxLen ∧ z1.length = cap1 ∧ (∀ i, i < z1.length → w.cell? (x.add i) = some (.int .i64 (z1.getD i 0))) ∧ ∀ n ∈ z1, (Lit.int .i64 n).wf = true) (y1 : len1 * 8 ≤ 140737488351232) (w2 : (Lit.int .u8 a2).wf = true) :
    Calls Try.prog 4 #[.slice a0 len0 cap0, .slice a1 len1 cap1, .int .u8 a2] w fun e w' => e = .returned (.bool true) ∧ Below w.heap.size w w' := by
  obtain ⟨l0, rfl, hr0, hm0, hw0, hc0⟩ := ReadsInt.ofRowC w0
  obtain ⟨l1, rfl, hr1, hm1, hw1, hc1⟩ := ReadsInt.ofRowC w1
  obtain ⟨k, h⟩ := P l0 l1 a2 hm0 y0 hw0 hm1 y1 hw1 w2
  refine (lapidarylaw14_PredictReads.calls k _ _ l0 _ _ l1 a2 true w (Kd.C_of_reads (d := (0 : Int)) (h1 := fun _ => rfl) hr0) hc0 (Kd.C_of_reads (d := (0 : Int)) (h1 := fun _ => rfl) hr1) hc1 h).mono ?_
  rintro e w' ⟨rfl, hd⟩
  exact ⟨rfl, hd⟩

end Go.Proofs.Ytgkncgiemfbglaa.PPrd
