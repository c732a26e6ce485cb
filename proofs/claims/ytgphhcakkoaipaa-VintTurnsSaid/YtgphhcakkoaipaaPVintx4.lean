-- Written for this claim by a program of this session.
import Derived.Test.YtgphhcakkoaipaaPVintx0
import Derived.Test.YtgphhcakkoaipaaPVintx1
import Derived.Test.YtgphhcakkoaipaaPVintx2
import Derived.Test.YtgphhcakkoaipaaPVintx3
namespace Go.Proofs.Ytgphhcakkoaipaa.PVint
open Go.RowKit Go.Proofs.YtgphhcakkoaipaaW.PrintWords Go.Proofs.YtgphhcakkoaipaaW.PrintLast Go.Proofs.YtgphhcakkoaipaaW.PrintMore
attribute [local go_sem] max2_int min2_int max_two min_two max_three min_three max_four min_four   -- for this text's walks alone
set_option linter.unusedVariables false
set_option linter.unusedSimpArgs false

/-! ### lapidarylaw01_VintTurns: function 5 -/
def lapidarylaw01_VintTurns.f (k : Nat) (a0 : Int) (a1 : Int) : Option (Bool) := (vint_Zig.f a0).bind fun t173 => ((vint_Zag.f t173).bind fun t174 => (if t174 = a0 then ((vint_Zag.f a1).bind fun t175 => ((vint_Zig.f t175).bind fun t176 => (if t176 = a1 then ((vint_Zag.f a1).bind fun t177 => ((lapidaryref01_Zag.f a1).bind fun t178 => (if t177 = t178 then ((lapidarylaw01_known.f k).bind fun t179 => (some t179)) else (some false)))) else (some false)))) else (some false)))
theorem lapidarylaw01_VintTurns.mono : ∀ a0 a1 k, LeO (lapidarylaw01_VintTurns.f k a0 a1) (lapidarylaw01_VintTurns.f (k + 1) a0 a1) := by
  intro a0 a1 k
  unfold lapidarylaw01_VintTurns.f
  repeat' first
      | (with_reducible exact lapidarylaw01_known.mono _)
      | (with_reducible exact LeO.refl _)
      | (with_reducible exact LeO.none _)
      | (with_reducible refine LeO.ite ?_ ?_)
      | (with_reducible refine LeO.bind ?_ (fun _ => ?_))
      | exact lapidarylaw01_known.mono _
      | exact LeO.none _
      | refine LeO.ite ?_ ?_
      | refine LeO.bind ?_ (fun _ => ?_)
set_option maxHeartbeats 8000000 in
set_option maxRecDepth 100000 in
theorem lapidarylaw01_VintTurns.calls (k : Nat) (a0 : Int) (a1 : Int) (r : Bool) (w : World) (h : lapidarylaw01_VintTurns.f k a0 a1 = some r) :
    Calls Try.prog 5 #[.int .i64 a0, .int .u64 a1] w fun e w' => e = .returned (.bool r) ∧ Below w.heap.size w w' := by
  have HB := Aside0.mk (Below.refl w.heap.size w)
  have H : ((vint_Zig.f a0).bind fun t173 => ((vint_Zag.f t173).bind fun t174 => (if t174 = a0 then ((vint_Zag.f a1).bind fun t175 => ((vint_Zig.f t175).bind fun t176 => (if t176 = a1 then ((vint_Zag.f a1).bind fun t177 => ((lapidaryref01_Zag.f a1).bind fun t178 => (if t177 = t178 then ((lapidarylaw01_known.f k).bind fun t179 => (some t179)) else (some false)))) else (some false)))) else (some false)))) = some r := h
  clear h
  replace H := Option.bind_eq_some_iff.mp H
  obtain ⟨t173, A30, H⟩ := H
  replace H : ((vint_Zag.f t173).bind fun t174 => (if t174 = a0 then ((vint_Zag.f a1).bind fun t175 => ((vint_Zig.f t175).bind fun t176 => (if t176 = a1 then ((vint_Zag.f a1).bind fun t177 => ((lapidaryref01_Zag.f a1).bind fun t178 => (if t177 = t178 then ((lapidarylaw01_known.f k).bind fun t179 => (some t179)) else (some false)))) else (some false)))) else (some false))) = some r := H
  have A3 := Aside0.mk A30
  clear A30
  replace H := Option.bind_eq_some_iff.mp H
  obtain ⟨t174, A40, H⟩ := H
  replace H : (if t174 = a0 then ((vint_Zag.f a1).bind fun t175 => ((vint_Zig.f t175).bind fun t176 => (if t176 = a1 then ((vint_Zag.f a1).bind fun t177 => ((lapidaryref01_Zag.f a1).bind fun t178 => (if t177 = t178 then ((lapidarylaw01_known.f k).bind fun t179 => (some t179)) else (some false)))) else (some false)))) else (some false)) = some r := H
  have A4 := Aside0.mk A40
  clear A40
  by_cases c5 : t174 = a0
  · rw [if_pos c5] at H
    have c5b0 : (t174 == a0) = true := beq_iff_eq.mpr c5
    have c5b1 : (t174 != a0) = false := bne_eq_false_iff_eq.mpr c5
    clear c5
    replace H := Option.bind_eq_some_iff.mp H
    obtain ⟨t175, A60, H⟩ := H
    replace H : ((vint_Zig.f t175).bind fun t176 => (if t176 = a1 then ((vint_Zag.f a1).bind fun t177 => ((lapidaryref01_Zag.f a1).bind fun t178 => (if t177 = t178 then ((lapidarylaw01_known.f k).bind fun t179 => (some t179)) else (some false)))) else (some false))) = some r := H
    have A6 := Aside0.mk A60
    clear A60
    replace H := Option.bind_eq_some_iff.mp H
    obtain ⟨t176, A70, H⟩ := H
    replace H : (if t176 = a1 then ((vint_Zag.f a1).bind fun t177 => ((lapidaryref01_Zag.f a1).bind fun t178 => (if t177 = t178 then ((lapidarylaw01_known.f k).bind fun t179 => (some t179)) else (some false)))) else (some false)) = some r := H
    have A7 := Aside0.mk A70
    clear A70
    by_cases c8 : t176 = a1
    · rw [if_pos c8] at H
      have c8b0 : (t176 == a1) = true := beq_iff_eq.mpr c8
      have c8b1 : (t176 != a1) = false := bne_eq_false_iff_eq.mpr c8
      clear c8
      replace H := Option.bind_eq_some_iff.mp H
      obtain ⟨t177, A90, H⟩ := H
      replace H : ((lapidaryref01_Zag.f a1).bind fun t178 => (if t177 = t178 then ((lapidarylaw01_known.f k).bind fun t179 => (some t179)) else (some false))) = some r := H
      have A9 := Aside0.mk A90
      obtain rfl := Option.some.inj (A6.out.symm.trans A9.out)
      clear A90
      replace H := Option.bind_eq_some_iff.mp H
      obtain ⟨t178, A100, H⟩ := H
      replace H : (if t175 = t178 then ((lapidarylaw01_known.f k).bind fun t179 => (some t179)) else (some false)) = some r := H
      have A10 := Aside0.mk A100
      clear A100
      by_cases c11 : t175 = t178
      · rw [if_pos c11] at H
        have c11b0 : (t175 == t178) = true := beq_iff_eq.mpr c11
        have c11b1 : (t175 != t178) = false := bne_eq_false_iff_eq.mpr c11
        clear c11
        replace H := Option.bind_eq_some_iff.mp H
        obtain ⟨t179, A120, H⟩ := H
        replace H : (some t179) = some r := H
        have A12 := Aside0.mk A120
        clear A120
        obtain rfl := Option.some.inj H
        go_enter Try.func5, Try.ntmps5
        go_wp2_with (first | ((with_reducible refine gate_callee (f := 19) rfl ?_); refine goesL_ (some 6) rfl rfl Try.func19 (by kernel_rfl) rfl #[.int .i64 a0] rfl (by (try simp only [List.map_toArray, List.map_cons, List.map_nil]); first | done | rfl | (simp only [List.length_drop, List.length_take]; rfl)) ?_; (with_reducible refine (vint_Zig.calls a0 t173 _ A3.out).mono ?_); rintro e w' ⟨rfl, ⟨nd, rfl⟩⟩; refine ⟨_, rfl, ?_⟩) | ((with_reducible refine gate_callee (f := 18) rfl ?_); refine goesL_ (some 7) rfl rfl Try.func18 (by kernel_rfl) rfl #[.int .u64 t173] rfl (by (try simp only [List.map_toArray, List.map_cons, List.map_nil]); first | done | rfl | (simp only [List.length_drop, List.length_take]; rfl)) ?_; (with_reducible refine (vint_Zag.calls t173 t174 _ A4.out).mono ?_); rintro e w' ⟨rfl, ⟨nd, rfl⟩⟩; refine ⟨_, rfl, ?_⟩) | (go_at_call 18; (with_reducible refine (vint_Zag.calls a1 t175 _ A6.out).mono ?_); rintro e w' ⟨rfl, ⟨nd, rfl⟩⟩) | (go_at_call 19; (with_reducible refine (vint_Zig.calls t175 t176 _ A7.out).mono ?_); rintro e w' ⟨rfl, ⟨nd, rfl⟩⟩) | (go_at_call 18; (with_reducible refine (vint_Zag.calls a1 t175 _ A9.out).mono ?_); rintro e w' ⟨rfl, ⟨nd, rfl⟩⟩) | (go_at_call 20; (with_reducible refine (lapidaryref01_Zag.calls a1 t178 _ A10.out).mono ?_); rintro e w' ⟨rfl, ⟨nd, rfl⟩⟩) | (go_at_call 12; (with_reducible refine (lapidarylaw01_known.calls k  t179 _ A12.out).mono ?_); rintro e w13 ⟨rfl, hb⟩; have n0_ := Aside0.mk (below_step (by repeat (first | (with_reducible first | exact HB.out | apply below_alloc | apply pw_below_drewN | apply below_drew1) | exact HB.out)) hb); clear HB; have HB := n0_; clear n0_; (try clear hb); (try clear hb2); (try clear hk); (try clear hi)))
        go_ret
        exact ⟨by first | rfl | (simp [errW_none, errW_some] <;> rfl) | (simp [*, errW_none, errW_some] <;> rfl), by repeat (first | (with_reducible first | exact HB.out | apply below_alloc | apply pw_below_drewN | apply below_drew1) | exact HB.out)⟩
      · rw [if_neg c11] at H
        have c11b0 : (t175 == t178) = false := beq_eq_false_iff_ne.mpr c11
        have c11b1 : (t175 != t178) = true := bne_iff_ne.mpr c11
        obtain rfl := Option.some.inj H
        go_enter Try.func5, Try.ntmps5
        go_wp2_with (first | ((with_reducible refine gate_callee (f := 19) rfl ?_); refine goesL_ (some 6) rfl rfl Try.func19 (by kernel_rfl) rfl #[.int .i64 a0] rfl (by (try simp only [List.map_toArray, List.map_cons, List.map_nil]); first | done | rfl | (simp only [List.length_drop, List.length_take]; rfl)) ?_; (with_reducible refine (vint_Zig.calls a0 t173 _ A3.out).mono ?_); rintro e w' ⟨rfl, ⟨nd, rfl⟩⟩; refine ⟨_, rfl, ?_⟩) | ((with_reducible refine gate_callee (f := 18) rfl ?_); refine goesL_ (some 7) rfl rfl Try.func18 (by kernel_rfl) rfl #[.int .u64 t173] rfl (by (try simp only [List.map_toArray, List.map_cons, List.map_nil]); first | done | rfl | (simp only [List.length_drop, List.length_take]; rfl)) ?_; (with_reducible refine (vint_Zag.calls t173 t174 _ A4.out).mono ?_); rintro e w' ⟨rfl, ⟨nd, rfl⟩⟩; refine ⟨_, rfl, ?_⟩) | (go_at_call 18; (with_reducible refine (vint_Zag.calls a1 t175 _ A6.out).mono ?_); rintro e w' ⟨rfl, ⟨nd, rfl⟩⟩) | (go_at_call 19; (with_reducible refine (vint_Zig.calls t175 t176 _ A7.out).mono ?_); rintro e w' ⟨rfl, ⟨nd, rfl⟩⟩) | (go_at_call 18; (with_reducible refine (vint_Zag.calls a1 t175 _ A9.out).mono ?_); rintro e w' ⟨rfl, ⟨nd, rfl⟩⟩) | (go_at_call 20; (with_reducible refine (lapidaryref01_Zag.calls a1 t178 _ A10.out).mono ?_); rintro e w' ⟨rfl, ⟨nd, rfl⟩⟩))
        go_ret
        exact ⟨by first | rfl | (simp [errW_none, errW_some] <;> rfl) | (simp [*, errW_none, errW_some] <;> rfl), by repeat (first | (with_reducible first | exact HB.out | apply below_alloc | apply pw_below_drewN | apply below_drew1) | exact HB.out)⟩
    · rw [if_neg c8] at H
      have c8b0 : (t176 == a1) = false := beq_eq_false_iff_ne.mpr c8
      have c8b1 : (t176 != a1) = true := bne_iff_ne.mpr c8
      obtain rfl := Option.some.inj H
      go_enter Try.func5, Try.ntmps5
      go_wp2_with (first | ((with_reducible refine gate_callee (f := 19) rfl ?_); refine goesL_ (some 6) rfl rfl Try.func19 (by kernel_rfl) rfl #[.int .i64 a0] rfl (by (try simp only [List.map_toArray, List.map_cons, List.map_nil]); first | done | rfl | (simp only [List.length_drop, List.length_take]; rfl)) ?_; (with_reducible refine (vint_Zig.calls a0 t173 _ A3.out).mono ?_); rintro e w' ⟨rfl, ⟨nd, rfl⟩⟩; refine ⟨_, rfl, ?_⟩) | ((with_reducible refine gate_callee (f := 18) rfl ?_); refine goesL_ (some 7) rfl rfl Try.func18 (by kernel_rfl) rfl #[.int .u64 t173] rfl (by (try simp only [List.map_toArray, List.map_cons, List.map_nil]); first | done | rfl | (simp only [List.length_drop, List.length_take]; rfl)) ?_; (with_reducible refine (vint_Zag.calls t173 t174 _ A4.out).mono ?_); rintro e w' ⟨rfl, ⟨nd, rfl⟩⟩; refine ⟨_, rfl, ?_⟩) | (go_at_call 18; (with_reducible refine (vint_Zag.calls a1 t175 _ A6.out).mono ?_); rintro e w' ⟨rfl, ⟨nd, rfl⟩⟩) | (go_at_call 19; (with_reducible refine (vint_Zig.calls t175 t176 _ A7.out).mono ?_); rintro e w' ⟨rfl, ⟨nd, rfl⟩⟩))
      go_ret
      exact ⟨by first | rfl | (simp [errW_none, errW_some] <;> rfl) | (simp [*, errW_none, errW_some] <;> rfl), by repeat (first | (with_reducible first | exact HB.out | apply below_alloc | apply pw_below_drewN | apply below_drew1) | exact HB.out)⟩
  · rw [if_neg c5] at H
    have c5b0 : (t174 == a0) = false := beq_eq_false_iff_ne.mpr c5
    have c5b1 : (t174 != a0) = true := bne_iff_ne.mpr c5
    obtain rfl := Option.some.inj H
    go_enter Try.func5, Try.ntmps5
    go_wp2_with (first | ((with_reducible refine gate_callee (f := 19) rfl ?_); refine goesL_ (some 6) rfl rfl Try.func19 (by kernel_rfl) rfl #[.int .i64 a0] rfl (by (try simp only [List.map_toArray, List.map_cons, List.map_nil]); first | done | rfl | (simp only [List.length_drop, List.length_take]; rfl)) ?_; (with_reducible refine (vint_Zig.calls a0 t173 _ A3.out).mono ?_); rintro e w' ⟨rfl, ⟨nd, rfl⟩⟩; refine ⟨_, rfl, ?_⟩) | ((with_reducible refine gate_callee (f := 18) rfl ?_); refine goesL_ (some 7) rfl rfl Try.func18 (by kernel_rfl) rfl #[.int .u64 t173] rfl (by (try simp only [List.map_toArray, List.map_cons, List.map_nil]); first | done | rfl | (simp only [List.length_drop, List.length_take]; rfl)) ?_; (with_reducible refine (vint_Zag.calls t173 t174 _ A4.out).mono ?_); rintro e w' ⟨rfl, ⟨nd, rfl⟩⟩; refine ⟨_, rfl, ?_⟩))
    go_ret
    exact ⟨by first | rfl | (simp [errW_none, errW_some] <;> rfl) | (simp [*, errW_none, errW_some] <;> rfl), by repeat (first | (with_reducible first | exact HB.out | apply below_alloc | apply pw_below_drewN | apply below_drew1) | exact HB.out)⟩

/-- THE ONE PURE STATEMENT of lapidarylaw01_VintTurns: yours. -/
def lapidarylaw01_VintTurns.Pure : Prop := ∀ (a0 : Int) (a1 : Int), (Lit.int .i64 a0).wf = true → (Lit.int .u64 a1).wf = true → ∃ k, lapidarylaw01_VintTurns.f k a0 a1 = some true
theorem lapidarylaw01_VintTurns.walk (P : lapidarylaw01_VintTurns.Pure) (a0 : Int) (a1 : Int) (w : World) (w0 : (Lit.int .i64 a0).wf = true) (w1 : (Lit.int .u64 a1).wf = true) :
    Calls Try.prog 5 #[.int .i64 a0, .int .u64 a1] w fun e w' => e = .returned (.bool true) ∧ Below w.heap.size w w' := by
  obtain ⟨k, h⟩ := P a0 a1 w0 w1
  refine (lapidarylaw01_VintTurns.calls k a0 a1 true w h).mono ?_
  rintro e w' ⟨rfl, hd⟩
  exact ⟨rfl, hd⟩

end Go.Proofs.Ytgphhcakkoaipaa.PVint
