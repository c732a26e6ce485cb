import Derived.Test.YtomknjmgcbbjlaaDoorWalkB
namespace Go.Proofs.YtomknjmgcbbjlaaDoor.WW
open Go Go.RowKit Go.Maps Go.WideMaps Go.Proofs.YtomknjmgcbbjlaaDoor.Mem Go.Proofs.YtomknjmgcbbjlaaDoor.PWlk Go.Proofs.YtomknjmgcbbjlaaDoorW.PrintWords Go.Proofs.YtomknjmgcbbjlaaDoorW.PrintLast Go.Proofs.YtomknjmgcbbjlaaDoorW.PrintMore
open Go.Proofs.YtomknjmgcbbjlaaDoor.MM (datE edgesU lawE zeroE kE kE_key wfE trs trT)
open Go.Proofs.YtomknjmgcbbjlaaDoor.WP (Wk fnd add third gate)
set_option linter.unusedVariables false
set_option linter.unnecessarySimpa false
set_option linter.unusedSimpArgs false
set_option maxRecDepth 100000
theorem idx47_0_l (w : World) (a0 a1 a2 : Value) : (Instr.index 47 (.agg #[a0, a1, a2]) (.int .i64 0)).run Tryd.prog w = .ok a0 w := by first | rfl | kernel_rfl
theorem idx47_1_l (w : World) (a0 a1 a2 : Value) : (Instr.index 47 (.agg #[a0, a1, a2]) (.int .i64 1)).run Tryd.prog w = .ok a1 w := by first | rfl | kernel_rfl
theorem idx47_2_l (w : World) (a0 a1 a2 : Value) : (Instr.index 47 (.agg #[a0, a1, a2]) (.int .i64 2)).run Tryd.prog w = .ok a2 w := by first | rfl | kernel_rfl
attribute [local go_sem] idx47_0_l idx47_1_l idx47_2_l
theorem R_cut {α : Type} {d : Kd α} {e base g n cap m : Nat} {ok : Nat → Prop} {w : World} {xs : List α} (h : d.R e w base ok (.slice (some ⟨g, 0, none⟩) n cap) xs) (hm : m ≤ n) : d.R e w base ok (.slice (some ⟨g, 0, none⟩) m cap) (xs.take m) := by
  obtain ⟨h0, inner, ⟨h1, h2⟩, h3, h4⟩ := h
  rcases h2 with ⟨h2, _⟩ | ⟨g', cap', cur, he, hb, hh, a1, a2, a3, a4⟩
  · cases h2
  · injection he with e1 e2 e3
    injection e1 with e1
    injection e1 with e1
    subst e1; subst e3
    have hmul : m * d.sz ≤ n * d.sz := Nat.mul_le_mul_right _ hm
    have hxl : xs.length = n := e2.symm
    have hl : (xs.take m).length = m := by rw [List.length_take]; omega
    refine ⟨h0, inner.take (m * d.sz), ⟨?_, .inr ⟨g, cap, cur, by rw [hl], hb, hh, by rw [hl]; omega, a2, a3, ?_⟩⟩, ?_, ?_⟩
    · rw [List.length_take, hl, h1, hxl, Nat.min_eq_left hmul]
    · rw [hl, ← a4, List.take_take, hxl, Nat.min_eq_left hmul]
    · rw [List.length_take, hl, h3, hxl, Nat.min_eq_left hmul]
    · intro j p hj
      have hjm : j < m := by
        rcases Nat.lt_or_ge j m with h | h
        · exact h
        · rw [List.getElem?_eq_none (by rw [hl]; exact h)] at hj; cases hj
      rw [List.getElem?_take, if_pos hjm] at hj
      have h5 := h4 j p hj
      have h6 : (j + 1) * d.sz ≤ m * d.sz := Nat.mul_le_mul_right _ hjm
      rw [Nat.succ_mul] at h6
      rw [List.drop_take, List.take_take, Nat.min_eq_left (by omega)]
      exact h5
theorem row_three {w : World} {g : Nat} {p v q : Int} (hB : Blk w g 107 #[.int .i64 p, .int .i64 v, .int .i64 v, .int .i64 q, .int .i64 q, .int .i64 p]) : ReadsRow (k107.K w) k107.sz w (some ⟨g, 0, none⟩) 3 [(⟨p, v⟩ : S107), ⟨v, q⟩, ⟨q, p⟩] := by
  refine ⟨rfl, by decide, fun _ => ⟨_, rfl, fun j x hj => ?_⟩⟩
  match j, hj with
  | 0, hj =>
    obtain rfl : (⟨p, v⟩ : S107) = x := Option.some.inj hj
    refine ⟨[.int .i64 p, .int .i64 v], rfl, k107_mk _ _, fun i u hu => ?_⟩
    rw [Addr.add_lit]
    match i, hu with
    | 0, hu => cases hu; exact hB.cell 0
    | 1, hu => cases hu; exact hB.cell 1
    | i + 2, hu => simp at hu
  | 1, hj =>
    obtain rfl : (⟨v, q⟩ : S107) = x := Option.some.inj hj
    refine ⟨[.int .i64 v, .int .i64 q], rfl, k107_mk _ _, fun i u hu => ?_⟩
    rw [Addr.add_lit]
    match i, hu with
    | 0, hu => cases hu; exact hB.cell 2
    | 1, hu => cases hu; exact hB.cell 3
    | i + 2, hu => simp at hu
  | 2, hj =>
    obtain rfl : (⟨q, p⟩ : S107) = x := Option.some.inj hj
    refine ⟨[.int .i64 q, .int .i64 p], rfl, k107_mk _ _, fun i u hu => ?_⟩
    rw [Addr.add_lit]
    match i, hu with
    | 0, hu => cases hu; exact hB.cell 4
    | 1, hu => cases hu; exact hB.cell 5
    | i + 2, hu => simp at hu
  | j + 3, hj => simp at hj
section
variable {tg : Nat → Nat} {w w0 w' : World} {b : Nat} {A0 : Option Addr} {c0 : Nat} {A1 : Option Addr} {c1 : Nat} {P : List S46} {T : List S47} {e : Nat} {vm vn vv vo vt vg vs : Value} {s : Wk}
def At (w0 : World) (b : Nat) (A0 : Option Addr) (c0 : Nat) (A1 : Option Addr) (c1 : Nat) (P : List S46) (T : List S47) (e : Nat) (w : World) (s : Wk) : Prop := Below w0.heap.size w0 w ∧ ∃ tg vm vn vv vo vt vg vs, St [] tg w w0.heap.size b A0 c0 A1 c1 P T e vm vn vv vo vt vg vs s
set_option maxHeartbeats 4000000 in
theorem walk78 (ht : MR.Told P T 0) (hC0 : Kd.C k47 w0 A1 T.length T) (h : At w0 b A0 c0 A1 c1 P T e w WP.init) :
    Calls Tryd.prog 78 #[.pointer (some ⟨b, 0, none⟩)] w fun en w' => en = .returned (.tuple #[]) ∧ At w0 b A0 c0 A1 c1 P T e w' (WP.fin (MC.look T) (trs T) T.length) := by
  obtain ⟨hS, hsg⟩ := surf_of ht
  have hTab := tab_of hS.hp hsg
  obtain ⟨hbw, tg, vm, vn, vv, vo, vt, vg, vs, h0⟩ := h
  have x1 : w.cell? ⟨b, 1, none⟩ = some (.slice A1 T.length c1) := h0.blk.cell 1
  have hA0 : At w0 b A0 c0 A1 c1 P T e w WP.init := ⟨hbw, tg, vm, vn, vv, vo, vt, vg, vs, h0⟩
  replace hS := Lib.hid hS
  replace hTab := Lib.hid hTab
  replace hA0 := Lib.hid hA0
  clear h0 hbw
  go_enter Tryd.func78, Tryd.ntmps78
  go_wp2_with fail
  apply scope_body
  go_wp2_with fail
  go_step3
  go_wp2_with fail
  clear x1
  go_loopw [13] (fun v13 wr => ∃ (i : Nat) (s : Wk), v13 = .int .i64 (i : Int) ∧ i ≤ T.length ∧ Hid (WP.Reach (MC.look T) (trs T) T.length s ∧ s.G = [] ∧ (∀ j, j < i → j ∈ s.O) ∧ At w0 b A0 c0 A1 c1 P T e wr s)) (fun v _ => T.length - (intOf v).toNat)
  case atStart => exact ⟨0, WP.init, rfl, Nat.zero_le _, Lib.hid ⟨.init, rfl, fun j hj => absurd hj (Nat.not_lt_zero _), hA0.out⟩⟩
  case round =>
    obtain ⟨i, s, rfl, hi, hR⟩ := hrel
    by_cases hlt : i < T.length
    · have dl : decide ((i : Int) < (T.length : Int)) = true := decide_eq_true (by omega)
      obtain ⟨hr1, hr2, hr3, hbw, tg0, vm, vn, vv, vo, vt, vg, vs, h00⟩ := hR.out
      have hinv := WP.reach_inv hTab.out hr1
      have hsm := small_of hS.out hinv
      obtain ⟨tg, htg⟩ : ∃ t, t = (fun k => if wr.heap.size ≤ k then 9 else tg0 k) := ⟨_, rfl⟩
      have h0 := h00.retag 9
      rw [← htg] at h0
      have htgb : tg wr.heap.size = 9 := by rw [htg]; exact if_pos (Nat.le_refl _)
      clear htg h00
      obtain ⟨ad1, e1, y0, y1, y2⟩ := at_T47 (Kd.C_below hC0 hbw) (i : Int) (by omega) (by omega)
      cases e1
      have hq3 : rd_T47 T (i : Int) = T.getD i z47 := by unfold rd_T47; rw [Int.toNat_natCast]
      rw [hq3, Int.toNat_natCast] at y0 y1 y2
      have hb3 := hS.out.rng hlt (v := (T.getD i z47).f0) (by simp [Fan.has3, trs, trT])
      have hb4 := hS.out.rng hlt (v := (T.getD i z47).f1) (by simp [Fan.has3, trs, trT])
      have hb5 := hS.out.rng hlt (v := (T.getD i z47).f2) (by simp [Fan.has3, trs, trT])
      have htr : trs T i = ((T.getD i z47).f0, (T.getD i z47).f1, (T.getD i z47).f2) := rfl
      generalize (T.getD i z47).f0 = f0 at *
      generalize (T.getD i z47).f1 = f1 at *
      generalize (T.getD i z47).f2 = f2 at *
      have pi1 : ((0 : Int) ≤ (i : Int)) = True := eq_true (by omega)
      have pi2 : ((i : Int) < (T.length : Int)) = True := eq_true (by omega)
      have h1 := h0.alloc (.cells #[.int .i64 f0, .int .i64 f1, .int .i64 f2] 47 (0, 0))
      have hB := Blk.here wr 47 #[.int .i64 f0, .int .i64 f1, .int .i64 f2]
      have hb1 := hbw.alloc hbw.size (.cells #[.int .i64 f0, .int .i64 f1, .int .i64 f2] 47 (0, 0))
      obtain ⟨gm, cm, rfl, _⟩ := Kd.R_form (h1.met nin) (by rw [metL_len]; omega)
      rw [metL_len] at h1
      have x3 : (wr.alloc (.cells #[.int .i64 f0, .int .i64 f1, .int .i64 f2] 47 (0, 0))).cell? ⟨b, 3, none⟩ = some (.slice (some ⟨gm, 0, none⟩) T.length cm) := h1.blk.cell 3
      obtain ⟨mc, mf⟩ := Kd.R_celln false (h1.met nin) (i : Int) (by omega) (by omega)
      rw [metL_at hlt, Int.toNat_natCast] at mc
      have hbb : b ≠ wr.heap.size := fun e => by have := h0.blk.lt; omega
      clear h0 hq3
      by_cases hO : i ∈ s.O
      · rw [decide_eq_true hO] at mc
        have hN := Lib.hid (show WP.Reach (MC.look T) (trs T) T.length s ∧ s.G = [] ∧ (∀ j, j < i + 1 → j ∈ s.O) ∧ At w0 b A0 c0 (some ad1) c1 P T e (wr.alloc (.cells #[.int .i64 f0, .int .i64 f1, .int .i64 f2] 47 (0, 0))) s from ⟨hr1, hr2, fun j hj => by
          by_cases e2 : j = i
          · rw [e2]; exact hO
          · exact hr3 j (by omega), hb1, tg, _, vn, vv, vo, vt, vg, vs, h1⟩)
        clear h1 hB hb1 hr1 hr2 hr3 hbw hinv hsm hb3 hb4 hb5 htr hO mf hR
        go_wp2_with fail
        have hw : wrap64 ((i : Int) + 1) = ((i + 1 : Nat) : Int) := by unfold wrap64; have := hS.out.hT; omega
        exact ⟨⟨i + 1, s, by rw [hw], by omega, hN⟩, by rw [hw]; simp [intOf]; omega⟩
      · rw [decide_eq_false hO] at mc
        have hst := Lib.hid (step93 h1 0 0 (by have := hsm.S; omega))
        have hseed := Lib.hid (WP.first_is hlt hO hr3)
        replace hr1 := Lib.hid hr1
        replace hsm := Lib.hid hsm
        have hi' := Lib.hid hlt
        replace hb3 := Lib.hid hb3
        replace hb4 := Lib.hid hb4
        replace hb5 := Lib.hid hb5
        replace htr := Lib.hid htr
        have hr2' := Lib.hid hr2
        have hr3' := Lib.hid hr3
        have hO' := Lib.hid hO
        clear h1 hbw hinv hO mf hR hr2 hr3
        go_upto_region 4 with fail
        generalize hgw1 : wr.alloc (.cells #[.int .i64 f0, .int .i64 f1, .int .i64 f2] 47 (0, 0)) = w1 at *
        clear hgw1
        generalize wr.heap.size = gb at *
        go_upto_region 5 with (go_at_call 93; refine hst.out.mono ?_; rintro en w2 ⟨rfl, hb2, tg2, hf2, vs2, h2⟩)
        have hB2 : Blk w2 gb 47 #[.int .i64 f0, .int .i64 f1, .int .i64 f2] := (hf2.block gb hB.lt (Ne.symm hbb) (by rw [htgb]; decide)).trans hB
        have htg2 : 8 < tg2 gb := by rw [hf2.tag gb hB.lt, htgb]; decide
        have hbw2 := hb1.trans hb2
        have q0 := hB2.cell 0
        have q1 := hB2.cell 1
        have q2 := hB2.cell 2
        have hHB := Lib.hid (And.intro hB2 htg2)
        have hH2 := Lib.hid h2
        have hHw := Lib.hid hbw2
        clear h2 hB hb1 hb2 hbw2 hst hf2 x3 mc y0 y1 y2 htgb hB2 htg2
        go_wp2_with fail
        clear q0 q1 q2
        obtain ⟨Vn, hVn⟩ : ∃ F : Int → List Int, F = fun j : Int => if j = 0 then s.V else if j = 1 then add s.V f0 else if j = 2 then add (add s.V f0) f1 else add (add (add s.V f0) f1) f2 := ⟨_, rfl⟩
        have hV0 : Hid (Vn 0 = s.V) := Lib.hid (by rw [hVn]; rfl)
        have hV1 : Hid (Vn 1 = add (Vn 0) f0) := Lib.hid (by rw [hVn]; rfl)
        have hV2 : Hid (Vn 2 = add (Vn 1) f1) := Lib.hid (by rw [hVn]; rfl)
        have hV3 : Hid (Vn 3 = add (Vn 2) f2) := Lib.hid (by rw [hVn]; rfl)
        have hVl : Hid ((Vn 0).length ≤ 50000 ∧ (Vn 1).length ≤ 50001 ∧ (Vn 2).length ≤ 50002 ∧ (Vn 3).length ≤ 50003) := Lib.hid (by
          have ha : ∀ (V : List Int) (v : Int), (add V v).length ≤ V.length + 1 := fun V v => by unfold add; split <;> simp
          have h0 := hsm.out.V
          have h1 := ha (Vn 0) f0
          have h2 := ha (Vn 1) f1
          have h3 := ha (Vn 2) f2
          rw [← hV1.out] at h1
          rw [← hV2.out] at h2
          rw [← hV3.out] at h3
          rw [← hV0.out] at h0
          omega)
        clear hVn
        go_loopw [28] (fun v28 wx => ∃ (j : Int), v28 = .int .i64 j ∧ (j = 0 ∨ j = 1 ∨ j = 2 ∨ j = 3) ∧ Hid (Below w0.heap.size w0 wx ∧ ∃ tgx, (Blk wx gb 47 #[.int .i64 f0, .int .i64 f1, .int .i64 f2] ∧ 8 < tgx gb) ∧ ∃ vvx, St [] tgx wx w0.heap.size b A0 c0 (some ad1) c1 P T e (.slice (some ⟨gm, 0, none⟩) T.length cm) vn vvx vo vt vg vs2 { s with S := s.S ++ [(0, 0)], V := Vn j })) (fun v _ => 3 - (intOf v).toNat)
        case atStart => exact ⟨0, rfl, .inl rfl, Lib.hid ⟨hHw.out, tg2, hHB.out, _, by rw [hV0.out]; exact hH2.out⟩⟩
        case round =>
          clear hHw hHB hH2
          obtain ⟨j, rfl, hj, hR⟩ := hrel
          obtain ⟨hbw3, tg3, ⟨hB3, htg3⟩, vv3, h3⟩ := hR.out
          clear hR
          rcases hj with rfl | rfl | rfl | rfl
          · have hm := Lib.hid (meet94 h3 f0 hb3.out.1 hb3.out.2 (by have := hVl.out; show (Vn 0).length ≤ _; omega))
            have hK := Lib.hid (And.intro hbw3 (And.intro hB3 htg3))
            clear h3 hbw3 hB3 htg3
            go_wp2_with (go_at_call 94; refine hm.out.mono ?_; rintro en w4 ⟨rfl, hb4, tg4, hf4, vv4, h4⟩)
            exact ⟨⟨1, rfl, .inr (.inl rfl), Lib.hid ⟨hK.out.1.trans hb4, tg4, ⟨(hf4.block gb hK.out.2.1.lt (Ne.symm hbb) hK.out.2.2).trans hK.out.2.1, by rw [hf4.tag gb hK.out.2.1.lt]; exact hK.out.2.2⟩, vv4, by rw [hV1.out]; exact h4⟩⟩, by decide⟩
          · have hm := Lib.hid (meet94 h3 f1 hb4.out.1 hb4.out.2 (by have := hVl.out; show (Vn 1).length ≤ _; omega))
            have hK := Lib.hid (And.intro hbw3 (And.intro hB3 htg3))
            clear h3 hbw3 hB3 htg3
            go_wp2_with (go_at_call 94; refine hm.out.mono ?_; rintro en w4 ⟨rfl, hb4, tg4, hf4, vv4, h4⟩)
            exact ⟨⟨2, rfl, .inr (.inr (.inl rfl)), Lib.hid ⟨hK.out.1.trans hb4, tg4, ⟨(hf4.block gb hK.out.2.1.lt (Ne.symm hbb) hK.out.2.2).trans hK.out.2.1, by rw [hf4.tag gb hK.out.2.1.lt]; exact hK.out.2.2⟩, vv4, by rw [hV2.out]; exact h4⟩⟩, by decide⟩
          · have hm := Lib.hid (meet94 h3 f2 hb5.out.1 hb5.out.2 (by have := hVl.out; show (Vn 2).length ≤ _; omega))
            have hK := Lib.hid (And.intro hbw3 (And.intro hB3 htg3))
            clear h3 hbw3 hB3 htg3
            go_wp2_with (go_at_call 94; refine hm.out.mono ?_; rintro en w4 ⟨rfl, hb4, tg4, hf4, vv4, h4⟩)
            exact ⟨⟨3, rfl, .inr (.inr (.inr rfl)), Lib.hid ⟨hK.out.1.trans hb4, tg4, ⟨(hf4.block gb hK.out.2.1.lt (Ne.symm hbb) hK.out.2.2).trans hK.out.2.1, by rw [hf4.tag gb hK.out.2.1.lt]; exact hK.out.2.2⟩, vv4, by rw [hV3.out]; exact h4⟩⟩, by decide⟩
          · have q0 := hB3.cell 0
            have q1 := hB3.cell 1
            have q2 := hB3.cell 2
            have hT3 := Lib.hid (take95 h3 i hi'.out f0 f1 f2 hb3.out hb4.out hb5.out (by have := hsm.out.O; show s.O.length ≤ _; omega) (by have := hsm.out.T; show s.T.length ≤ _; omega) (by have := hS.out.hT; omega) (by have := hVl.out; show (Vn 3).length ≤ _; omega))
            have hK := Lib.hid (And.intro hbw3 (And.intro hB3 htg3))
            clear h3 hbw3 hB3 htg3
            go_upto_region 11 with (go_at_call 95; refine hT3.out.mono ?_; rintro en w4 ⟨rfl, hb4, tg4, hf4, vo4, vt4, h4⟩)
            clear q0 q1 q2
            have hB4 : Blk w4 gb 47 #[.int .i64 f0, .int .i64 f1, .int .i64 f2] := (hf4.block gb hK.out.2.1.lt (Ne.symm hbb) hK.out.2.2).trans hK.out.2.1
            have hbw4 := hK.out.1.trans hb4
            obtain ⟨tg5, htg⟩ : ∃ t, t = (fun k => if w4.heap.size ≤ k then 7 else tg4 k) := ⟨_, rfl⟩
            have h5 := h4.retag 7
            rw [← htg] at h5
            have hfr : ∀ k, w4.heap.size ≤ k → tg5 k = 7 := fun k hk => by rw [htg]; exact if_pos hk
            have hbw5 : w0.heap.size ≤ w4.heap.size := Nat.le_of_lt h5.lt
            have hbb0 := h5.bb
            obtain ⟨A7, c7, rfl⟩ := Kd.R_slice (h5.gates nin)
            have hne : some b ≠ (Value.slice A7 (s.G.reverse.map to107).length c7).ownBlock := Kd.R_ne (h5.gates nin) h5.blk (by decide)
            have hnb : some gb ≠ (Value.slice A7 (s.G.reverse.map to107).length c7).ownBlock := Kd.R_ne (h5.gates nin) hB4 (by decide)
            have hrow := (h5.gates nin).1
            have hty := Kd.R_typed (h5.gates nin)
            have hnm : some e ≠ (Value.slice A7 (s.G.reverse.map to107).length c7).ownBlock := fun ee => by
              obtain ⟨cs, hcs⟩ := hty e ee.symm
              exact h5.ne_map hcs rfl
            have x8 : w4.cell? ⟨b, 8, none⟩ = some (.slice A7 (s.G.reverse.map to107).length c7) := h5.blk.cell 8
            have hLG : (s.G.reverse.map to107).length ≤ 50000 := by rw [List.length_map, List.length_reverse]; exact hsm.out.G
            have H6 := Lib.hid (h5.skip (sk' := [7]) (by simp)).drew
            have hgr := Lib.hid (h5.gates nin)
            have hpush : Hid (s.G.reverse.map to107 ++ [(⟨f0, f1⟩ : S107), ⟨f1, f2⟩, ⟨f2, f0⟩] = (WP.seed (trs T) s i).G.reverse.map to107) := Lib.hid (by rw [hr2'.out]; simp [to107, WP.seed, htr.out])
            obtain ⟨L7, hL7⟩ : ∃ L, L = s.G.reverse.map to107 := ⟨_, rfl⟩
            have hgr2 : Hid (k107.R 107 w4.drew w0.heap.size (fun k => tg5 k = 7) (.slice A7 L7.length c7) L7) := Lib.hid (by rw [hL7]; exact Kd.R_drew hgr.out)
            rw [← hL7] at x8 hne hnb hrow hty hnm hLG hpush H6
            replace hL7 := Lib.hid hL7
            have HF : Hid (∀ k, w4.drew.heap.size ≤ k → tg5 k = 7) := Lib.hid hfr
            have HR := Lib.hid hrow
            have hbw5' : w0.heap.size ≤ w4.drew.heap.size := hbw5
            have hn2 : ∀ k, k = b ∨ k = gb → some k ≠ (Value.slice A7 L7.length c7).ownBlock := by
              rintro k (rfl | rfl)
              · exact hne
              · exact hnb
            have hlts : ∀ k, k = b ∨ k = gb → k < w4.drew.heap.size := by
              rintro k (rfl | rfl)
              · exact h5.blk.lt
              · exact hB4.lt
            have q0 := hB4.cell 0
            have q1 := hB4.cell 1
            have q2 := hB4.cell 2
            have KS : ∀ w' : World, (∀ k, k = b ∨ k = gb → w'.heap[k]? = w4.heap[k]?) → w'.cell? ⟨b, 8, none⟩ = some (.slice A7 L7.length c7) ∧ w'.cell? ⟨gb, 0, none⟩ = some (.int .i64 f0) ∧ w'.cell? ⟨gb, 1, none⟩ = some (.int .i64 f1) ∧ w'.cell? ⟨gb, 2, none⟩ = some (.int .i64 f2) := fun w' hk => by
              have hc : ∀ (k o : Nat), (k = b ∨ k = gb) → w'.cell? ⟨k, o, none⟩ = w4.cell? ⟨k, o, none⟩ := fun k o h => by simp [World.cell?, hk k h]
              exact ⟨(hc _ _ (.inl rfl)).trans x8, (hc _ _ (.inr rfl)).trans q0, (hc _ _ (.inr rfl)).trans q1, (hc _ _ (.inr rfl)).trans q2⟩
            have K0 := KS w4.drew (fun k hk => rfl)
            have KA := KS (w4.drew.alloc (.cells #[.int .i64 f0, .int .i64 f1, .int .i64 f1, .int .i64 f2, .int .i64 f2, .int .i64 f0] 107 (0, 0))) (fun k hk => Below.heap_alloc w4.drew _ k (hlts k hk))
            have hBq := Blk.here w4.drew 107 #[.int .i64 f0, .int .i64 f1, .int .i64 f1, .int .i64 f2, .int .i64 f2, .int .i64 f0]
            have hRR := Lib.hid (row_three hBq)
            replace KS := Lib.hid KS
            replace KA := Lib.hid KA
            replace K0 := Lib.hid K0
            replace hn2 := Lib.hid hn2
            replace hlts := Lib.hid hlts
            replace hbw4 := Lib.hid hbw4
            have hAL : Hid (Below w0.heap.size w4.drew (w4.drew.alloc (.cells #[.int .i64 f0, .int .i64 f1, .int .i64 f1, .int .i64 f2, .int .i64 f2, .int .i64 f0] 107 (0, 0)))) := Lib.hid ((Below.refl w0.heap.size w4.drew).alloc hbw5' _)
            clear htg h4 h5 hfr hrow hty hgr q0 q1 q2 x8 hBq hB4 hf4 hK hb4 hT3
            refine start_ (n := 25) (S := fun w' => w'.cell? ⟨b, 8, none⟩ = some (.slice A7 L7.length c7) ∧ w'.cell? ⟨gb, 0, none⟩ = some (.int .i64 f0) ∧ w'.cell? ⟨gb, 1, none⟩ = some (.int .i64 f1) ∧ w'.cell? ⟨gb, 2, none⟩ = some (.int .i64 f2)) (ds := [24]) #[false, false, false, false, false, false, false, false, false, false, false, false, false, false, false, false, false, false, false, false, false, false, false, false, false] (by kernel_rfl) rfl rfl K0.out (fun hHeld => ?_)
            refine pure_ (i := 0) (N := some 39) (v := ?_) (a' := ?_) #[true, false, false, false, false, false, false, false, false, false, false, false, false, false, false, false, false, false, false, false, false, false, false, false, false] rfl rfl (by kernel_rfl) (fun _ _ _ h => h) (Or.inl ⟨by rfl, ?_⟩) ?_ ?_
            rotate_left
            · intro w'
              go_simp
              with_reducible rfl
            rotate_left
            · simp only [Act.put, List.setIfInBounds_toArray, List.set_cons_zero, List.set_cons_succ, i64_w, i32_w]
              rfl
            refine pure_ (i := 1) (N := some 40) (v := ?_) (a' := ?_) #[true, true, false, false, false, false, false, false, false, false, false, false, false, false, false, false, false, false, false, false, false, false, false, false, false] rfl rfl (by kernel_rfl) (fun _ _ _ h => h) (Or.inl ⟨by rfl, ?_⟩) ?_ ?_
            rotate_left
            · intro w'
              go_simp
              with_reducible rfl
            rotate_left
            · simp only [Act.put, List.setIfInBounds_toArray, List.set_cons_zero, List.set_cons_succ, i64_w, i32_w]
              rfl
            refine pure_ (i := 2) (N := some 41) (v := ?_) (a' := ?_) #[true, true, true, false, false, false, false, false, false, false, false, false, false, false, false, false, false, false, false, false, false, false, false, false, false] rfl rfl (by kernel_rfl) (fun _ _ _ h => h) (Or.inl ⟨by rfl, ?_⟩) ?_ ?_
            rotate_left
            · intro w'
              go_simp
              with_reducible rfl
            rotate_left
            · simp only [Act.put, List.setIfInBounds_toArray, List.set_cons_zero, List.set_cons_succ, i64_w, i32_w]
              rfl
            refine pure_ (i := 3) (N := some 42) (v := ?_) (a' := ?_) #[true, true, true, true, false, false, false, false, false, false, false, false, false, false, false, false, false, false, false, false, false, false, false, false, false] rfl rfl (by kernel_rfl) (fun _ _ _ h => h) (Or.inl ⟨by rfl, ?_⟩) ?_ ?_
            rotate_left
            · intro w'
              go_simp
              with_reducible rfl
            rotate_left
            · simp only [Act.put, List.setIfInBounds_toArray, List.set_cons_zero, List.set_cons_succ, i64_w, i32_w]
              rfl
            refine take_ (i := 4) (N := some 43) (v := ?_) (a' := ?_) #[true, true, true, true, true, false, false, false, false, false, false, false, false, false, false, false, false, false, false, false, false, false, false, false, false] rfl rfl (by kernel_rfl) (fun _ _ _ h => h) (Or.inl ⟨by rfl, ?_⟩) hHeld ?_ ?_
            rotate_left
            · rintro w' ⟨s0, s1, s2, s3⟩
              go_simp
              with_reducible rfl
            rotate_left
            · simp only [Act.put, List.setIfInBounds_toArray, List.set_cons_zero, List.set_cons_succ, i64_w, i32_w]
              rfl
            refine pure_ (i := 5) (N := some 44) (v := ?_) (a' := ?_) #[true, true, true, true, true, true, false, false, false, false, false, false, false, false, false, false, false, false, false, false, false, false, false, false, false] rfl rfl (by kernel_rfl) (fun _ _ _ h => h) (Or.inl ⟨by rfl, ?_⟩) ?_ ?_
            rotate_left
            · intro w'
              go_simp
              with_reducible rfl
            rotate_left
            · simp only [Act.put, List.setIfInBounds_toArray, List.set_cons_zero, List.set_cons_succ, i64_w, i32_w]
              rfl
            refine take_ (i := 6) (N := some 45) (v := ?_) (a' := ?_) #[true, true, true, true, true, true, true, false, false, false, false, false, false, false, false, false, false, false, false, false, false, false, false, false, false] rfl rfl (by kernel_rfl) (fun _ _ _ h => h) (Or.inl ⟨by rfl, ?_⟩) hHeld ?_ ?_
            rotate_left
            · rintro w' ⟨s0, s1, s2, s3⟩
              go_simp
              with_reducible rfl
            rotate_left
            · simp only [Act.put, List.setIfInBounds_toArray, List.set_cons_zero, List.set_cons_succ, i64_w, i32_w]
              rfl
            refine pure_ (i := 7) (N := some 46) (v := ?_) (a' := ?_) #[true, true, true, true, true, true, true, true, false, false, false, false, false, false, false, false, false, false, false, false, false, false, false, false, false] rfl rfl (by kernel_rfl) (fun _ _ _ h => h) (Or.inl ⟨by rfl, ?_⟩) ?_ ?_
            rotate_left
            · intro w'
              go_simp
              with_reducible rfl
            rotate_left
            · simp only [Act.put, List.setIfInBounds_toArray, List.set_cons_zero, List.set_cons_succ, i64_w, i32_w]
              rfl
            refine take_ (i := 8) (N := some 47) (v := ?_) (a' := ?_) #[true, true, true, true, true, true, true, true, true, false, false, false, false, false, false, false, false, false, false, false, false, false, false, false, false] rfl rfl (by kernel_rfl) (fun _ _ _ h => h) (Or.inl ⟨by rfl, ?_⟩) hHeld ?_ ?_
            rotate_left
            · rintro w' ⟨s0, s1, s2, s3⟩
              go_simp
              with_reducible rfl
            rotate_left
            · simp only [Act.put, List.setIfInBounds_toArray, List.set_cons_zero, List.set_cons_succ, i64_w, i32_w]
              rfl
            refine pure_ (i := 9) (N := some 48) (v := ?_) (a' := ?_) #[true, true, true, true, true, true, true, true, true, true, false, false, false, false, false, false, false, false, false, false, false, false, false, false, false] rfl rfl (by kernel_rfl) (fun _ _ _ h => h) (Or.inl ⟨by rfl, ?_⟩) ?_ ?_
            rotate_left
            · intro w'
              go_simp
              with_reducible rfl
            rotate_left
            · simp only [Act.put, List.setIfInBounds_toArray, List.set_cons_zero, List.set_cons_succ, i64_w, i32_w]
              rfl
            refine pure_ (i := 10) (N := some 49) (v := ?_) (a' := ?_) #[true, true, true, true, true, true, true, true, true, true, true, false, false, false, false, false, false, false, false, false, false, false, false, false, false] rfl rfl (by kernel_rfl) (fun _ _ _ h => h) (Or.inl ⟨by rfl, ?_⟩) ?_ ?_
            rotate_left
            · intro w'
              go_simp
              with_reducible rfl
            rotate_left
            · simp only [Act.put, List.setIfInBounds_toArray, List.set_cons_zero, List.set_cons_succ, i64_w, i32_w]
              rfl
            refine take_ (i := 11) (N := some 50) (v := ?_) (a' := ?_) #[true, true, true, true, true, true, true, true, true, true, true, true, false, false, false, false, false, false, false, false, false, false, false, false, false] rfl rfl (by kernel_rfl) (fun _ _ _ h => h) (Or.inl ⟨by rfl, ?_⟩) hHeld ?_ ?_
            rotate_left
            · rintro w' ⟨s0, s1, s2, s3⟩
              go_simp
              with_reducible rfl
            rotate_left
            · simp only [Act.put, List.setIfInBounds_toArray, List.set_cons_zero, List.set_cons_succ, i64_w, i32_w]
              rfl
            refine pure_ (i := 12) (N := some 51) (v := ?_) (a' := ?_) #[true, true, true, true, true, true, true, true, true, true, true, true, true, false, false, false, false, false, false, false, false, false, false, false, false] rfl rfl (by kernel_rfl) (fun _ _ _ h => h) (Or.inl ⟨by rfl, ?_⟩) ?_ ?_
            rotate_left
            · intro w'
              go_simp
              with_reducible rfl
            rotate_left
            · simp only [Act.put, List.setIfInBounds_toArray, List.set_cons_zero, List.set_cons_succ, i64_w, i32_w]
              rfl
            refine take_ (i := 13) (N := some 52) (v := ?_) (a' := ?_) #[true, true, true, true, true, true, true, true, true, true, true, true, true, true, false, false, false, false, false, false, false, false, false, false, false] rfl rfl (by kernel_rfl) (fun _ _ _ h => h) (Or.inl ⟨by rfl, ?_⟩) hHeld ?_ ?_
            rotate_left
            · rintro w' ⟨s0, s1, s2, s3⟩
              go_simp
              with_reducible rfl
            rotate_left
            · simp only [Act.put, List.setIfInBounds_toArray, List.set_cons_zero, List.set_cons_succ, i64_w, i32_w]
              rfl
            refine pure_ (i := 14) (N := some 53) (v := ?_) (a' := ?_) #[true, true, true, true, true, true, true, true, true, true, true, true, true, true, true, false, false, false, false, false, false, false, false, false, false] rfl rfl (by kernel_rfl) (fun _ _ _ h => h) (Or.inl ⟨by rfl, ?_⟩) ?_ ?_
            rotate_left
            · intro w'
              go_simp
              with_reducible rfl
            rotate_left
            · simp only [Act.put, List.setIfInBounds_toArray, List.set_cons_zero, List.set_cons_succ, i64_w, i32_w]
              rfl
            refine pure_ (i := 15) (N := some 54) (v := ?_) (a' := ?_) #[true, true, true, true, true, true, true, true, true, true, true, true, true, true, true, true, false, false, false, false, false, false, false, false, false] rfl rfl (by kernel_rfl) (fun _ _ _ h => h) (Or.inl ⟨by rfl, ?_⟩) ?_ ?_
            rotate_left
            · intro w'
              go_simp
              with_reducible rfl
            rotate_left
            · simp only [Act.put, List.setIfInBounds_toArray, List.set_cons_zero, List.set_cons_succ, i64_w, i32_w]
              rfl
            refine take_ (i := 16) (N := some 55) (v := ?_) (a' := ?_) #[true, true, true, true, true, true, true, true, true, true, true, true, true, true, true, true, true, false, false, false, false, false, false, false, false] rfl rfl (by kernel_rfl) (fun _ _ _ h => h) (Or.inl ⟨by rfl, ?_⟩) hHeld ?_ ?_
            rotate_left
            · rintro w' ⟨s0, s1, s2, s3⟩
              go_simp
              with_reducible rfl
            rotate_left
            · simp only [Act.put, List.setIfInBounds_toArray, List.set_cons_zero, List.set_cons_succ, i64_w, i32_w]
              rfl
            refine pure_ (i := 17) (N := some 56) (v := ?_) (a' := ?_) #[true, true, true, true, true, true, true, true, true, true, true, true, true, true, true, true, true, true, false, false, false, false, false, false, false] rfl rfl (by kernel_rfl) (fun _ _ _ h => h) (Or.inl ⟨by rfl, ?_⟩) ?_ ?_
            rotate_left
            · intro w'
              go_simp
              with_reducible rfl
            rotate_left
            · simp only [Act.put, List.setIfInBounds_toArray, List.set_cons_zero, List.set_cons_succ, i64_w, i32_w]
              rfl
            refine take_ (i := 18) (N := some 57) (v := ?_) (a' := ?_) #[true, true, true, true, true, true, true, true, true, true, true, true, true, true, true, true, true, true, true, false, false, false, false, false, false] rfl rfl (by kernel_rfl) (fun _ _ _ h => h) (Or.inl ⟨by rfl, ?_⟩) hHeld ?_ ?_
            rotate_left
            · rintro w' ⟨s0, s1, s2, s3⟩
              go_simp
              with_reducible rfl
            rotate_left
            · simp only [Act.put, List.setIfInBounds_toArray, List.set_cons_zero, List.set_cons_succ, i64_w, i32_w]
              rfl
            refine pure_ (i := 19) (N := some 58) (v := ?_) (a' := ?_) #[true, true, true, true, true, true, true, true, true, true, true, true, true, true, true, true, true, true, true, true, false, false, false, false, false] rfl rfl (by kernel_rfl) (fun _ _ _ h => h) (Or.inl ⟨by rfl, ?_⟩) ?_ ?_
            rotate_left
            · intro w'
              go_simp
              with_reducible rfl
            rotate_left
            · simp only [Act.put, List.setIfInBounds_toArray, List.set_cons_zero, List.set_cons_succ, i64_w, i32_w]
              rfl
            refine one_ (i := 20) (N := (some 59)) #[true, true, true, true, true, true, true, true, true, true, true, true, true, true, true, true, true, true, true, true, true, false, false, false, false] rfl rfl (by kernel_rfl) (by decide) (fun K hK => ?_)
            refine value_ (w1 := ?_) (v := ?_) (by rfl) rfl ?_ ?_
            rotate_left 2
            · go_simp
              constructor
              · rfl
              · rfl
            refine hK.out _ _ KA.out (fun hHeld => ?_)
            clear hK K
            refine norm_ (a' := ?_) ?_ ?_
            rotate_left
            · show Act.put _ (some 59) _ = _
              simp only [Act.put, List.setIfInBounds_toArray, List.set_cons_zero, List.set_cons_succ, i64_w, i32_w]
              rfl
            refine one_ (i := 21) (N := (some 60)) #[true, true, true, true, true, true, true, true, true, true, true, true, true, true, true, true, true, true, true, true, true, true, false, false, false] rfl rfl (by kernel_rfl) (by decide) (fun K hK => ?_)
            refine Kd.R_append_rows_step k107 (Rr := k107.K (w4.drew.alloc (.cells #[.int .i64 f0, .int .i64 f1, .int .i64 f1, .int .i64 f2, .int .i64 f2, .int .i64 f0] 107 (0, 0)))) (w0 := w4.drew) (W := w4.drew.alloc (.cells #[.int .i64 f0, .int .i64 f1, .int .i64 f1, .int .i64 f2, .int .i64 f2, .int .i64 f0] 107 (0, 0))) w0.heap.size (by rfl) (.tmp 43) (.tmp 59) 35 107 (.agg #[.int .i64 0, .int .i64 0]) 16 rfl Tryd.underlying35 info107 rfl (by decide) (by decide) (.slice A7 L7.length c7) L7 [(⟨f0, f1⟩ : S107), ⟨f1, f2⟩, ⟨f2, f0⟩] (some ⟨w4.drew.heap.size, 0, none⟩) 3 3 (fun k => tg5 k = 7) (fun _ => False) (by rfl) (by rfl) (Kd.R_alloc hgr2.out _) hRR.out (fun x cs hx => by rw [k107_open hx]; exact k107_mkM _ _ _ _) (fun _ hk => hk.elim) (fun k hk => HF.out k (Nat.le_trans hAL.out.size hk)) hAL.out (by simp; omega) (by omega) ?_
            intro v18 w18 hR18 hb18 hg18 hat18
            obtain ⟨A8, c8, rfl⟩ := Kd.R_slice hR18
            rw [show (L7 ++ [(⟨f0, f1⟩ : S107), ⟨f1, f2⟩, ⟨f2, f0⟩]).length = L7.length + 3 by simp] at hR18 hat18 ⊢
            have hm18 := (H6.out.alloc _).blk.grown hg18 hne
            have y8 : w18.cell? ⟨b, 8, none⟩ = some (.slice A7 L7.length c7) := hm18.cell 8
            have f8 := hm18.frozen 8
            refine hK.out _ _ (KS.out w18 fun k hk => (hg18.block k (Nat.lt_of_lt_of_le (hlts.out k hk) hAL.out.size) (hn2.out k hk)).trans (Below.heap_alloc w4.drew _ k (hlts.out k hk))) (fun hHeld => ?_)
            clear hK K
            refine norm_ (a' := ?_) ?_ ?_
            rotate_left
            · show Act.put _ (some 60) _ = _
              simp only [Act.put, List.setIfInBounds_toArray, List.set_cons_zero, List.set_cons_succ, i64_w, i32_w]
              rfl
            refine pure_ (i := 22) (N := some 61) (v := ?_) (a' := ?_) #[true, true, true, true, true, true, true, true, true, true, true, true, true, true, true, true, true, true, true, true, true, true, true, false, false] rfl rfl (by kernel_rfl) (fun _ _ _ h => h) (Or.inl ⟨by rfl, ?_⟩) ?_ ?_
            rotate_left
            · intro w'
              go_simp
              with_reducible rfl
            rotate_left
            · simp only [Act.put, List.setIfInBounds_toArray, List.set_cons_zero, List.set_cons_succ, i64_w, i32_w]
              rfl
            refine pure_ (i := 23) (N := some 62) (v := ?_) (a' := ?_) #[true, true, true, true, true, true, true, true, true, true, true, true, true, true, true, true, true, true, true, true, true, true, true, true, false] rfl rfl (by kernel_rfl) (fun _ _ _ h => h) (Or.inl ⟨by rfl, ?_⟩) ?_ ?_
            rotate_left
            · intro w'
              go_simp
              with_reducible rfl
            rotate_left
            · simp only [Act.put, List.setIfInBounds_toArray, List.set_cons_zero, List.set_cons_succ, i64_w, i32_w]
              rfl
            refine last_ (i := 24) (N := none) #[true, true, true, true, true, true, true, true, true, true, true, true, true, true, true, true, true, true, true, true, true, true, true, true, true] rfl rfl (by kernel_rfl) (by decide) (fun K hK => ?_)
            refine skip_ (w1 := ?_) (by rfl) rfl ?_ ?_
            rotate_left
            · go_simp
              rfl
            refine hK.out _ _ ?_
            clear hK K
            refine done_ (by kernel_rfl) ?_
            have S18 := (H6.out.alloc (.cells #[.int .i64 f0, .int .i64 f1, .int .i64 f1, .int .i64 f2, .int .i64 f2, .int .i64 f0] 107 (0, 0))).grown hg18 HR.out (by simp) hne hnm
            have S19 := S18.put7 (by simp) (.slice A8 (L7.length + 3) c8)
            have V19 := Kd.R_set hR18 S18.blk (by decide) 8 (.slice A8 (L7.length + 3) c8)
            rw [hpush.out] at V19
            have hAt : Hid (At w0 b A0 c0 (some ad1) c1 P T e (w18.setCell ⟨b, 8, none⟩ (.slice A8 (L7.length + 3) c8)) (WP.seed (trs T) s i)) := Lib.hid (by
              have eV : (WP.seed (trs T) s i).V = Vn 3 := by rw [hV3.out, hV2.out, hV1.out, hV0.out]; show WP.add3 s.V (trs T i) = _; rw [htr.out]; rfl
              have eT : (WP.seed (trs T) s i).T = s.T ++ [LK.map3 (fnd (Vn 3)) (f0, f1, f2)] := by rw [← eV, ← htr.out]; rfl
              refine ⟨(hbw4.out.drew.trans hb18).setCell (p := ⟨b, 8, none⟩) hbb0 _, tg5, _, _, _, _, _, _, _, S19.blk, S19.bb, S19.be, S19.map, fun _ => S19.met (by simp), fun _ => ?_, fun _ => ?_, fun _ => S19.order (by simp), fun _ => ?_, fun _ => V19, fun _ => S19.steps (by simp)⟩
              · rw [eV]; exact S19.num (by simp)
              · rw [eV]; exact S19.verts (by simp)
              · rw [eT]; exact S19.tris (by simp))
            have hRe : Hid (WP.Reach (MC.look T) (trs T) T.length (WP.seed (trs T) s i)) := Lib.hid (.next hr1.out (by unfold WP.next; rw [hr2'.out, hseed.out]))
            generalize w18.setCell ⟨b, 8, none⟩ (.slice A8 (L7.length + 3) c8) = w22 at *
            clear S18 S19 V19 hR18 hb18 hg18 hat18 hm18 y8 f8 H6 HF HR KS KA K0 hn2 hlts hbw4 hAL hRR hgr2 hpush hL7 hne hnb hnm hLG hbw5 hbw5'
            go_wp2_with fail
            go_loopg [] (WP.meas T.length (WP.seed (trs T) s i)) (fun kq wy => ∃ s', Hid (WP.meas T.length s' = kq ∧ WP.Reach (MC.look T) (trs T) T.length s' ∧ (∀ j, j < i + 1 → j ∈ s'.O) ∧ At w0 b A0 c0 (some ad1) c1 P T e wy s'))
            case atStart => exact ⟨_, Lib.hid ⟨rfl, hRe.out, fun j hj => List.mem_append.2 (by
              by_cases e2 : j = i
              · exact .inr (by rw [e2]; exact List.mem_singleton_self _)
              · exact .inl (hr3'.out j (by omega))), hAt.out⟩⟩
            case round =>
              clear hRe hAt
              obtain ⟨s', hR'⟩ := hrel
              obtain ⟨hme, hre, hall, hbw6, tg6, vm6, vn6, vv6, vo6, vt6, vg6, vs6, h6⟩ := hR'.out
              cases hG : s'.G with
              | nil =>
                have hv6 := h6.gates nin
                rw [hG] at hv6
                obtain ⟨A9, c9, rfl⟩ := Kd.R_slice hv6
                have x8 : wr.cell? ⟨b, 8, none⟩ = some (.slice A9 0 c9) := h6.blk.cell 8
                have hN := Lib.hid (show WP.Reach (MC.look T) (trs T) T.length s' ∧ s'.G = [] ∧ (∀ j, j < i + 1 → j ∈ s'.O) ∧ At w0 b A0 c0 (some ad1) c1 P T e wr s' from ⟨hre, hG, hall, hbw6, tg6, vm6, vn6, vv6, vo6, vt6, _, vs6, h6⟩)
                clear hR' hme hre hall hbw6 h6 hG hv6
                go_wp2_with fail
                have hw : wrap64 ((i : Int) + 1) = ((i + 1 : Nat) : Int) := by unfold wrap64; have := hS.out.hT; omega
                exact ⟨⟨i + 1, s', by rw [hw], hi'.out, hN⟩, by rw [hw]; simp [intOf]; have := hi'.out; omega⟩
              | cons g r =>
                have hinv := WP.reach_inv hTab.out hre
                have hsm6 := small_of hS.out hinv
                have hgp : (0 ≤ g.1 ∧ g.1 < P.length) ∧ (0 ≤ g.2 ∧ g.2 < P.length) := by
                  obtain ⟨t, ht1, ht2⟩ := hinv.gts g (by rw [hG]; simp)
                  have ht3 := hinv.olt t ht1
                  constructor
                  · exact hS.out.rng ht3 (LK.edge_has ht2).1
                  · exact hS.out.rng ht3 (LK.edge_has ht2).2
                have hv6 := h6.gates nin
                obtain ⟨n, hn⟩ : ∃ n, n = (s'.G.reverse.map to107).length := ⟨_, rfl⟩
                have hn1 : n = r.length + 1 := by rw [hn, hG]; simp
                obtain ⟨gg, cg, rfl, hggb, hggl, cellsg, hgc⟩ := Kd.R_form hv6 (by omega)
                rw [← hn] at hv6 h6
                have x8 : wr.cell? ⟨b, 8, none⟩ = some (.slice (some ⟨gg, 0, none⟩) n cg) := h6.blk.cell 8
                obtain ⟨mi, hmi⟩ : ∃ m : Int, m = (r.length : Int) := ⟨_, rfl⟩
                have hnl : n ≤ 50000 := by rw [hn, List.length_map, List.length_reverse]; exact hsm6.G
                obtain ⟨hn7, hnc, hC6⟩ := Kd.R_reads' hv6
                obtain ⟨adg, eg, g0, g1⟩ := at_T107 hC6 mi (by omega) (by omega)
                cases eg
                have hrd : rd_T107 (s'.G.reverse.map to107) mi = to107 g := by
                  unfold rd_T107
                  rw [hG, hmi]
                  simp
                rw [hrd, show ((⟨gg, 0, none⟩ : Addr).add (mi.toNat * 2)) = ⟨gg, mi.toNat * 2, none⟩ by simp [Addr.add]; exact fun h => h.symm] at g0 g1
                have dn : decide ((n : Int) > 0) = true := decide_eq_true (by omega)
                have dn2 : (0 < n) = True := eq_true (by omega)
                have wn : wrap64 ((n : Int) - 1) = mi := by unfold wrap64; omega
                have wn2 : IntKind.i64.wrap ((n : Int) - 1) = mi := by rw [i64_w]; exact wn
                have pm0 : ((0 : Int) ≤ mi) = True := eq_true (by omega)
                have pm1 : (mi < (n : Int)) = True := eq_true (by omega)
                have pm2 : (mi ≤ (cg : Int)) = True := eq_true (by omega)
                have hmt : mi.toNat = r.length := by omega
                clear hR' hggb hggl hgc
                have HX := Lib.hid (show WP.meas T.length s' = gk ∧ WP.Reach (MC.look T) (trs T) T.length s' ∧ (∀ j, j < i + 1 → j ∈ s'.O) ∧ s'.G = g :: r ∧ WP.Inv (MC.look T) (trs T) T.length s' ∧ Small s' ∧ n = r.length + 1 ∧ mi = (r.length : Int) ∧ n = (s'.G.reverse.map to107).length ∧ mi.toNat = r.length from ⟨hme, hre, hall, hG, hinv, hsm6, hn1, hmi, hn, hmt⟩)
                replace h6 := Lib.hid h6
                replace hv6 := Lib.hid hv6
                replace hbw6 := Lib.hid hbw6
                replace hgp := Lib.hid hgp
                clear hme hre hall hG hinv hsm6 hn1 hmi hn hmt hrd hC6 hnc hnl hn7
                go_upto_region 13 with fail
                have KT13 : ∀ w' : World, (∀ k, k = b ∨ k = gg → w'.heap[k]? = wr.heap[k]?) → w'.cell? ⟨b, 8, none⟩ = some (.slice (some ⟨gg, 0, none⟩) n cg) ∧ w'.cell? ⟨gg, mi.toNat * 2, none⟩ = some (.int .i64 (to107 g).f0) ∧ w'.cell? ⟨gg, mi.toNat * 2 + 1, none⟩ = some (.int .i64 (to107 g).f1) := fun w' hk => by
                  have hc : ∀ (k o : Nat), (k = b ∨ k = gg) → w'.cell? ⟨k, o, none⟩ = wr.cell? ⟨k, o, none⟩ := fun k o h => by simp [World.cell?, hk k h]
                  exact ⟨(hc _ _ (.inl rfl)).trans x8, (hc _ _ (.inr rfl)).trans g0, (hc _ _ (.inr rfl)).trans g1⟩
                have KT := Lib.hid (KT13 wr.drew (fun k hk => rfl))
                have KB := Lib.hid (KT13 (wr.drew.alloc (.cells #[.int .i64 0, .int .i64 0] 107 (0, 0))) (fun k hk => Below.heap_alloc wr.drew _ k (by rcases hk with rfl | rfl; exact h6.out.blk.lt; exact Kd.R_lt hv6.out _ rfl)))
                clear x8 g0 g1 KT13
                refine start_ (n := 14) (S := fun w' => w'.cell? ⟨b, 8, none⟩ = some (.slice (some ⟨gg, 0, none⟩) n cg) ∧ w'.cell? ⟨gg, mi.toNat * 2, none⟩ = some (.int .i64 (to107 g).f0) ∧ w'.cell? ⟨gg, mi.toNat * 2 + 1, none⟩ = some (.int .i64 (to107 g).f1)) (ds := [13]) #[false, false, false, false, false, false, false, false, false, false, false, false, false, false] (by kernel_rfl) rfl rfl KT.out (fun hHeld => ?_)
                refine pure_ (i := 0) (N := some 69) (v := ?_) (a' := ?_) #[true, false, false, false, false, false, false, false, false, false, false, false, false, false] rfl rfl (by kernel_rfl) (fun _ _ _ h => h) (Or.inl ⟨by rfl, ?_⟩) ?_ ?_
                rotate_left
                · intro w'
                  go_simp
                  with_reducible rfl
                rotate_left
                · simp only [Act.put, List.setIfInBounds_toArray, List.set_cons_zero, List.set_cons_succ, i64_w, i32_w]
                  rfl
                refine pure_ (i := 1) (N := some 70) (v := ?_) (a' := ?_) #[true, true, false, false, false, false, false, false, false, false, false, false, false, false] rfl rfl (by kernel_rfl) (fun _ _ _ h => h) (Or.inl ⟨by rfl, ?_⟩) ?_ ?_
                rotate_left
                · intro w'
                  go_simp
                  with_reducible rfl
                rotate_left
                · simp only [Act.put, List.setIfInBounds_toArray, List.set_cons_zero, List.set_cons_succ, i64_w, i32_w]
                  rfl
                refine pure_ (i := 2) (N := some 71) (v := ?_) (a' := ?_) #[true, true, true, false, false, false, false, false, false, false, false, false, false, false] rfl rfl (by kernel_rfl) (fun _ _ _ h => h) (Or.inl ⟨by rfl, ?_⟩) ?_ ?_
                rotate_left
                · intro w'
                  go_simp
                  with_reducible rfl
                rotate_left
                · simp only [Act.put, List.setIfInBounds_toArray, List.set_cons_zero, List.set_cons_succ, i64_w, i32_w]
                  rfl
                refine take_ (i := 3) (N := some 72) (v := ?_) (a' := ?_) #[true, true, true, true, false, false, false, false, false, false, false, false, false, false] rfl rfl (by kernel_rfl) (fun _ _ _ h => h) (Or.inl ⟨by rfl, ?_⟩) hHeld ?_ ?_
                rotate_left
                · rintro w' ⟨s0, s1, s2⟩
                  go_simp
                  with_reducible rfl
                rotate_left
                · simp only [Act.put, List.setIfInBounds_toArray, List.set_cons_zero, List.set_cons_succ, i64_w, i32_w]
                  rfl
                refine pure_ (i := 4) (N := some 73) (v := ?_) (a' := ?_) #[true, true, true, true, true, false, false, false, false, false, false, false, false, false] rfl rfl (by kernel_rfl) (fun _ _ _ h => h) (Or.inl ⟨by rfl, ?_⟩) ?_ ?_
                rotate_left
                · intro w'
                  go_simp
                  with_reducible rfl
                rotate_left
                · simp only [Act.put, List.setIfInBounds_toArray, List.set_cons_zero, List.set_cons_succ, i64_w, i32_w]
                  rfl
                refine pure_ (i := 5) (N := some 74) (v := ?_) (a' := ?_) #[true, true, true, true, true, true, false, false, false, false, false, false, false, false] rfl rfl (by kernel_rfl) (fun _ _ _ h => h) (Or.inl ⟨by rfl, ?_⟩) ?_ ?_
                rotate_left
                · intro w'
                  go_simp
                  with_reducible rfl
                rotate_left
                · simp only [Act.put, List.setIfInBounds_toArray, List.set_cons_zero, List.set_cons_succ, i64_w, i32_w]
                  rfl
                refine pure_ (i := 6) (N := some 75) (v := ?_) (a' := ?_) #[true, true, true, true, true, true, true, false, false, false, false, false, false, false] rfl rfl (by kernel_rfl) (fun _ _ _ h => h) (Or.inl ⟨by rfl, ?_⟩) ?_ ?_
                rotate_left
                · intro w'
                  go_simp
                  with_reducible rfl
                rotate_left
                · simp only [Act.put, List.setIfInBounds_toArray, List.set_cons_zero, List.set_cons_succ, i64_w, i32_w]
                  rfl
                refine take_ (i := 7) (N := some 76) (v := ?_) (a' := ?_) #[true, true, true, true, true, true, true, true, false, false, false, false, false, false] rfl rfl (by kernel_rfl) (fun _ _ _ h => h) (Or.inl ⟨by rfl, ?_⟩) hHeld ?_ ?_
                rotate_left
                · rintro w' ⟨s0, s1, s2⟩
                  go_simp
                  with_reducible rfl
                rotate_left
                · simp only [Act.put, List.setIfInBounds_toArray, List.set_cons_zero, List.set_cons_succ, i64_w, i32_w]
                  rfl
                refine pure_ (i := 8) (N := some 77) (v := ?_) (a' := ?_) #[true, true, true, true, true, true, true, true, true, false, false, false, false, false] rfl rfl (by kernel_rfl) (fun _ _ _ h => h) (Or.inl ⟨by rfl, ?_⟩) ?_ ?_
                rotate_left
                · intro w'
                  go_simp
                  with_reducible rfl
                rotate_left
                · simp only [Act.put, List.setIfInBounds_toArray, List.set_cons_zero, List.set_cons_succ, i64_w, i32_w]
                  rfl
                refine pure_ (i := 9) (N := some 78) (v := ?_) (a' := ?_) #[true, true, true, true, true, true, true, true, true, true, false, false, false, false] rfl rfl (by kernel_rfl) (fun _ _ _ h => h) (Or.inl ⟨by rfl, ?_⟩) ?_ ?_
                rotate_left
                · intro w'
                  go_simp
                  with_reducible rfl
                rotate_left
                · simp only [Act.put, List.setIfInBounds_toArray, List.set_cons_zero, List.set_cons_succ, i64_w, i32_w]
                  rfl
                refine pure_ (i := 10) (N := some 79) (v := ?_) (a' := ?_) #[true, true, true, true, true, true, true, true, true, true, true, false, false, false] rfl rfl (by kernel_rfl) (fun _ _ _ h => h) (Or.inl ⟨by rfl, ?_⟩) ?_ ?_
                rotate_left
                · intro w'
                  go_simp
                  with_reducible rfl
                rotate_left
                · simp only [Act.put, List.setIfInBounds_toArray, List.set_cons_zero, List.set_cons_succ, i64_w, i32_w]
                  rfl
                refine take_ (i := 11) (N := some 80) (v := ?_) (a' := ?_) #[true, true, true, true, true, true, true, true, true, true, true, true, false, false] rfl rfl (by kernel_rfl) (fun _ _ _ h => h) (Or.inl ⟨by rfl, ?_⟩) hHeld ?_ ?_
                rotate_left
                · rintro w' ⟨s0, s1, s2⟩
                  go_simp
                  with_reducible rfl
                rotate_left
                · simp only [Act.put, List.setIfInBounds_toArray, List.set_cons_zero, List.set_cons_succ, i64_w, i32_w]
                  rfl
                refine one_ (i := 12) (N := (some 6)) #[true, true, true, true, true, true, true, true, true, true, true, true, true, false] rfl rfl (by kernel_rfl) (by decide) (fun K hK => ?_)
                refine value_ (w1 := ?_) (v := ?_) (by rfl) rfl ?_ ?_
                rotate_left 2
                · go_simp
                  constructor
                  · rfl
                  · rfl
                refine hK.out _ _ KB.out (fun hHeld => ?_)
                clear hK K
                refine norm_ (a' := ?_) ?_ ?_
                rotate_left
                · show Act.put _ (some 6) _ = _
                  simp only [Act.put, List.setIfInBounds_toArray, List.set_cons_zero, List.set_cons_succ, i64_w, i32_w]
                  rfl
                refine last_ (i := 13) (N := none) #[true, true, true, true, true, true, true, true, true, true, true, true, true, true] rfl rfl (by kernel_rfl) (by decide) (fun K hK => ?_)
                refine skip_ (w1 := ?_) (by rfl) rfl ?_ ?_
                rotate_left
                · go_simp
                  rfl
                refine hK.out _ _ ?_
                clear hK K
                refine done_ (by kernel_rfl) ?_
                have h7 := Lib.hid (h6.out.alloc (.cells #[.int .i64 (to107 g).f0, .int .i64 (to107 g).f1] 107 (0, 0))).drew
                have hv7 := Lib.hid (Kd.R_drew (Kd.R_alloc hv6.out (.cells #[.int .i64 (to107 g).f0, .int .i64 (to107 g).f1] 107 (0, 0))))
                have hbw7 := Lib.hid (hbw6.out.alloc (hbw6.out.size) (.cells #[.int .i64 (to107 g).f0, .int .i64 (to107 g).f1] 107 (0, 0))).drew
                have hB7 : Blk ((wr.alloc (.cells #[.int .i64 (to107 g).f0, .int .i64 (to107 g).f1] 107 (0, 0))).drew) wr.heap.size 107 #[.int .i64 (to107 g).f0, .int .i64 (to107 g).f1] := Blk.here wr 107 #[.int .i64 (to107 g).f0, .int .i64 (to107 g).f1]
                have hne7 : wr.heap.size ≠ b := fun e => by have := h6.out.blk.lt; omega
                replace hB7 := Lib.hid hB7
                replace hne7 := Lib.hid hne7
                clear h6 hv6 hbw6 KT KB
                generalize (wr.alloc (.cells #[.int .i64 (to107 g).f0, .int .i64 (to107 g).f1] 107 (0, 0))).drew = w7 at *
                generalize wr.heap.size = gb7 at *
                have x8 : w7.cell? ⟨b, 8, none⟩ = some (.slice (some ⟨gg, 0, none⟩) n cg) := h7.out.blk.cell 8
                have hf8 := h7.out.blk.frozen 8
                have pm3 : (mi.toNat ≤ cg) = True := eq_true (by have := of_eq_true pm2; omega)
                have pm4 : (mi.toNat ≤ n) = True := eq_true (by have := HX.out; omega)
                go_upto_region 14 with fail
                go_region
                have hS8 := ((h7.out.skip (sk' := [7]) (by simp)).put7 (by simp) (.slice (some ⟨gg, 0, none⟩) mi.toNat cg)).drew
                have hV8 := Kd.R_drew (Kd.R_set (R_cut (m := mi.toNat) hv7.out (of_eq_true pm4)) h7.out.blk (by decide) 8 (.slice (some ⟨gg, 0, none⟩) mi.toNat cg))
                have hcut : (s'.G.reverse.map to107).take mi.toNat = r.reverse.map to107 := by
                  have h9 := HX.out
                  rw [h9.2.2.2.1, h9.2.2.2.2.2.2.2.2.2, List.reverse_cons, List.map_append, List.take_append_of_le_length (by simp), List.take_of_length_le (by simp)]
                rw [hcut] at hV8
                have hS9 : St [] tg6 (w7.setCell ⟨b, 8, none⟩ (.slice (some ⟨gg, 0, none⟩) mi.toNat cg)).drew w0.heap.size b A0 c0 (some ad1) c1 P T e vm6 vn6 vv6 vo6 vt6 (.slice (some ⟨gg, 0, none⟩) mi.toNat cg) vs6 { s' with G := r } := ⟨hS8.blk, hS8.bb, hS8.be, hS8.map, fun _ => hS8.met (by simp), fun _ => hS8.num (by simp), fun _ => hS8.verts (by simp), fun _ => hS8.order (by simp), fun _ => hS8.tris (by simp), fun _ => hV8, fun _ => hS8.steps (by simp)⟩
                have hbw8 := (hbw7.out.setCell (p := ⟨b, 8, none⟩) h7.out.bb (.slice (some ⟨gg, 0, none⟩) mi.toNat cg)).drew
                have hB8 := hB7.out.far (p := ⟨b, 8, none⟩) hne7.out (.slice (some ⟨gg, 0, none⟩) mi.toNat cg)
                have q0 : ((w7.setCell ⟨b, 8, none⟩ (.slice (some ⟨gg, 0, none⟩) mi.toNat cg)).drew).cell? ⟨gb7, 0, none⟩ = some (.int .i64 (to107 g).f0) := hB8.cell 0
                have q1 : ((w7.setCell ⟨b, 8, none⟩ (.slice (some ⟨gg, 0, none⟩) mi.toNat cg)).drew).cell? ⟨gb7, 1, none⟩ = some (.int .i64 (to107 g).f1) := hB8.cell 1
                have hga := Lib.hid (gate96 hS9 hS.out (Kd.C_below hC0 hbw8) g.1 g.2 hgp.out.1 hgp.out.2 (by
                  have h9 := HX.out.2.2.2.2.2.1
                  have h8 := HX.out.2.2.2.1
                  refine ⟨h9.V, h9.O, h9.T, ?_, h9.S⟩
                  have := h9.G
                  rw [h8] at this
                  show r.length ≤ _
                  simp at this
                  omega))
                replace hbw8 := Lib.hid hbw8
                clear hS8 hV8 hcut hS9 hB8 x8 hf8 h7 hv7 hbw7 hB7 hne7
                generalize (w7.setCell ⟨b, 8, none⟩ (.slice (some ⟨gg, 0, none⟩) mi.toNat cg)).drew = w8 at *
                rw [show (to107 g).f0 = g.1 from rfl] at q0
                rw [show (to107 g).f1 = g.2 from rfl] at q1
                go_wp2_with fail
                refine hga.out.mono ?_
                rintro en w9 ⟨rfl, hb9, tg9, vm9, vn9, vv9, vo9, vt9, vg9, vs9, h9⟩
                clear hga q0 q1
                have hN := Lib.hid (show WP.meas T.length (gate (MC.look T) (trs T) { s' with G := r } g.1 g.2) < gk ∧ (WP.Reach (MC.look T) (trs T) T.length (gate (MC.look T) (trs T) { s' with G := r } g.1 g.2) ∧ (∀ j, j < i + 1 → j ∈ (gate (MC.look T) (trs T) { s' with G := r } g.1 g.2).O) ∧ At w0 b A0 c0 (some ad1) c1 P T e w9 (gate (MC.look T) (trs T) { s' with G := r } g.1 g.2)) from by
                  obtain ⟨k1, k2, k3, k4, k5, _⟩ := HX.out
                  have k6 : WP.next (MC.look T) (trs T) T.length s' = some (gate (MC.look T) (trs T) { s' with G := r } g.1 g.2) := by unfold WP.next; rw [k4]
                  refine ⟨by rw [← k1]; exact WP.next_meas hTab.out k5 k6, .next k2 k6, fun j hj => ?_, hbw8.out.trans hb9, tg9, _, _, _, _, _, _, _, h9⟩
                  have k7 := k3 j hj
                  unfold gate
                  split
                  · exact k7
                  · split
                    · exact k7
                    · exact List.mem_append_left _ k7)
                clear h9 hb9
                go_wp2_with fail
                go_roundg (WP.meas T.length (gate (MC.look T) (trs T) { s' with G := r } g.1 g.2))
                case measure => exact hN.out.1
                case rel => exact ⟨_, Lib.hid ⟨rfl, hN.out.2⟩⟩
    · have dl : decide ((i : Int) < (T.length : Int)) = false := decide_eq_false (by omega)
      have hi2 : i = T.length := by omega
      go_wp2_with fail
      go_end0
      obtain ⟨h1, h2, h3, h4⟩ := hR.out
      have hend : WP.next (MC.look T) (trs T) T.length s = none := WP.end_iff.2 ⟨h2, fun j hj => h3 j (by omega)⟩
      rw [← WP.reach_fin hTab.out h1 hend]
      exact ⟨rfl, h4⟩
end
end Go.Proofs.YtomknjmgcbbjlaaDoor.WW
