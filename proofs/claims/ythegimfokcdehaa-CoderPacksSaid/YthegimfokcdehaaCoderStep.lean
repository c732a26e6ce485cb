/- lapidaryref06.Step walked. -/
import Derived.Test.YthegimfokcdehaaCoderRows
import Derived.Test.YthegimfokcdehaaCoderWalkAll
namespace Go.Proofs.Ythegimfokcdehaa.CR
open Go Go.RowKit Go.Proofs.Ythegimfokcdehaa.Mem Go.Proofs.Ythegimfokcdehaa.CM Go.Proofs.Ythegimfokcdehaa.PCod Go.Proofs.YthegimfokcdehaaW.PrintWords Go.Proofs.YthegimfokcdehaaW.PrintLast Go.Proofs.YthegimfokcdehaaW.PrintMore
open Go.Proofs.Ythegimfokcdehaa.MW (Ok cnt cntI Inv findL sum_nonneg)
set_option linter.unusedVariables false
set_option linter.unusedSimpArgs false
theorem alloc_size (w : World) (o : Obj) : (w.alloc o).heap.size = w.heap.size + 1 := by unfold World.alloc; exact Array.size_push _
theorem share_zero {C : List (List Int)} (h : Mods C) {k s a : Int} (e : shareR C k s = (a, 0)) : CM.share C k s = none := by
  cases hc : CM.share C k s with
  | none => rfl
  | some p =>
    obtain ⟨b, n⟩ := p
    have := share_some h hc
    unfold shareR at e
    rw [hc] at e
    injection e with e1 e2
    omega
theorem share_pos {C : List (List Int)} (h : Mods C) {k s a n : Int} (e : shareR C k s = (a, n)) (hn : n ≠ 0) : CM.share C k s = some (a, n) := by
  unfold shareR at e
  cases hc : CM.share C k s with
  | none =>
    rw [hc] at e
    injection e with e1 e2
    exact absurd e2.symm hn
  | some p =>
    rw [hc] at e
    exact congrArg some e
structure TS (w0 w : World) (g : Nat) (v0 v1 : Value) (N : List Int) (R k s : Int) : Prop where
  b1 : Blk w g 65 #[v0, v1, .int .i64 R]
  b2 : Blk w (g + 1) 41 #[.int .i64 k, .int .i64 s]
  b3 : Blk w (g + 1 + 1) 65 #[.slice none 0 0, .slice none 0 0, .int .i64 0]
  row : Kd.R (Kd.int .i64) 3 w (g + 3) (fun _ => True) v1 N
  bel : Below g w0 w
theorem TS.setR {w0 w : World} {g : Nat} {v0 v1 : Value} {N : List Int} {R k s : Int} (h : TS w0 w g v0 v1 N R k s) (r : Int) : TS w0 (w.setCell ⟨g, 2, none⟩ (.int .i64 r)) g v0 v1 N r k s :=
  ⟨h.b1.set_ 2 (.int .i64 r), h.b2.far (by show g + 1 ≠ g; omega) _, h.b3.far (by show g + 1 + 1 ≠ g; omega) _, Kd.R_set h.row h.b1 (by decide) 2 _, h.bel.setCell (p := ⟨g, 2, none⟩) (Nat.le_refl g) _⟩
theorem TS.out {w0 w w1 : World} {g : Nat} {v0 v1 : Value} {N : List Int} {R k s : Int} (h : TS w0 w g v0 v1 N R k s) {v2 : Value} {N2 : List Int} (hR1 : Kd.R (Kd.int .i64) 3 w1 (g + 3) (fun _ => True) v2 N2) (hg1 : w.grownBy w1 v1.ownBlock) (hb : Below (g + 3) w w1) :
    Blk w1 g 65 #[v0, v1, .int .i64 R] ∧ TS w0 (w1.setCell ⟨g, 1, none⟩ v2) g v0 v2 N2 R k s := by
  have hne : ∀ j, j < g + 3 → some j ≠ v1.ownBlock := fun j hj e => by
    have := Kd.R_base h.row j e.symm
    omega
  have h1 := h.b1.grown hg1 (hne _ (by omega))
  have h2 := h.b2.grown hg1 (hne _ (by omega))
  have h3 := h.b3.grown hg1 (hne _ (by omega))
  exact ⟨h1, h1.set_ 1 v2, h2.far (by show g + 1 ≠ g; omega) _, h3.far (by show g + 1 + 1 ≠ g; omega) _, Kd.R_set hR1 h1 (by decide) 1 v2, (h.bel.trans (hb.mono (by omega))).setCell (p := ⟨g, 1, none⟩) (Nat.le_refl g) _⟩
theorem TS.below {w0 w w1 : World} {g : Nat} {v0 v1 : Value} {N : List Int} {R k s : Int} (h : TS w0 w g v0 v1 N R k s) (hb : Below w.heap.size w w1) : TS w0 w1 g v0 v1 N R k s :=
  ⟨h.b1.below hb, h.b2.below hb, h.b3.below hb, Kd.R_below h.row hb, h.bel.trans (hb.mono (by have := h.b1.lt; omega))⟩
theorem TS.far {w0 w : World} {g : Nat} {v0 v1 : Value} {N : List Int} {R k s : Int} (h : TS w0 w g v0 v1 N R k s) {rb t : Nat} {cells : Array Value} (hb : w.heap[rb]? = some (.cells cells t (0, 0))) (ht : t ≠ 3) (hg : g + 3 ≤ rb) (j : Nat) (x : Value) : TS w0 (w.setCell ⟨rb, j, none⟩ x) g v0 v1 N R k s :=
  ⟨h.b1.far (by show g ≠ rb; omega) _, h.b2.far (by show g + 1 ≠ rb; omega) _, h.b3.far (by show g + 1 + 1 ≠ rb; omega) _, Kd.R_set h.row hb (by intro q hq; simp [Kd.int, Kd.scalar] at hq; omega) j _, h.bel.setCell (p := ⟨rb, j, none⟩) (by show g ≤ rb; omega) _⟩
theorem TS.set0 {w0 w : World} {g : Nat} {v0 v1 : Value} {N : List Int} {R k s : Int} (h : TS w0 w g v0 v1 N R k s) (v : Value) : TS w0 (w.setCell ⟨g, 0, none⟩ v) g v v1 N R k s :=
  ⟨h.b1.set_ 0 v, h.b2.far (by show g + 1 ≠ g; omega) _, h.b3.far (by show g + 1 + 1 ≠ g; omega) _, Kd.R_set h.row h.b1 (by decide) 0 _, h.bel.setCell (p := ⟨g, 0, none⟩) (Nat.le_refl g) _⟩
theorem info22 : (Try.prog.info? 22).map (fun i => (i.zero, i.size, i.bytes)) = some (some (.slice none 0 0), 1, 24) := by kernel_rfl
theorem digs_shift (L : Nat) (V : Int) : ∀ m : Nat, digs (L + m) (V * pw m) = digs L V ++ List.replicate m 0
  | 0 => by rw [pw_zero, Int.mul_one, List.replicate_zero, List.append_nil]; rfl
  | m + 1 => by
    show digs (L + m) (V * pw (m + 1) / 256) ++ [V * pw (m + 1) % 256] = _
    have e : V * pw (m + 1) = V * pw m * 256 := by rw [pw_succ, Int.mul_assoc]
    rw [e, show V * pw m * 256 / 256 = V * pw m by omega, show V * pw m * 256 % 256 = 0 by omega, digs_shift L V m, List.append_assoc, List.replicate_succ']
theorem rep_snoc (n : Nat) (x : Int) : List.replicate n x ++ [x] = List.replicate (n + 1) x := by rw [List.replicate_succ']
theorem info3 : (Try.prog.info? 3).map (fun i => (i.zero, i.size, i.bytes)) = some (some (.int .i64 0), 1, 8) := by kernel_rfl
set_option maxHeartbeats 4000000 in
set_option maxRecDepth 100000 in
theorem step28 (w : World) (A0 A1 : Option Addr) (c0 c1 : Nat) (C : List (List Int)) (N : List Int) (R V k s : Int) (L : Nat) (hs : List Hd) (hkS : kS.C w A0 hs.length hs) (hRows : RowsOf w hs C) (hc0 : C.length ≤ c0) (hr1 : Kd.C (Kd.int .i64) w A1 N.length N) (hc1 : N.length ≤ c1) (hN : N = digs L V) (hI : SInv ⟨C, R, V, L⟩) (hC : C.length ≤ 1000) (hL : L ≤ 50000)
    (hk : -9223372036854775808 ≤ k ∧ k < 9223372036854775808) (hsw : -9223372036854775808 ≤ s ∧ s < 9223372036854775808) :
    Calls Try.prog 28 #[.agg #[.slice A0 C.length c0, .slice A1 N.length c1, .int .i64 R], .agg #[.int .i64 k, .int .i64 s]] w fun e w' => Below w.heap.size w w' ∧
      ((CM.step ⟨C, R, V, L⟩ (k, s) = none ∧ ∃ a a1 a2 b b1 b2 r, e = .returned (.tuple #[.agg #[.slice a a1 a2, .slice b b1 b2, .int .i64 r], .bool false])) ∨
       ∃ u A0' c0' A1' c1' hs', CM.step ⟨C, R, V, L⟩ (k, s) = some u ∧ e = .returned (.tuple #[.agg #[.slice A0' u.C.length c0', .slice A1' u.L c1', .int .i64 u.R], .bool true]) ∧ kS.C w' A0' hs'.length hs' ∧ RowsOf w' hs' u.C ∧ u.C.length ≤ c0' ∧ Kd.C (Kd.int .i64) w' A1' u.L (digs u.L u.V) ∧ u.L ≤ c1' ∧ (∀ G : Nat → Prop, (∀ k, G k → k < w.heap.size) → Keeps w G (fun w => kS.C w A0 hs.length hs ∧ RowsOf w hs C) → Keeps w' G (fun w => kS.C w A0' hs'.length hs' ∧ RowsOf w hs' u.C)) ∧ (∀ G : Nat → Prop, (∀ k, G k → k < w.heap.size) → Keeps w' G (fun w => Kd.C (Kd.int .i64) w A1' u.L (digs u.L u.V)))) := by
  have hr0 := of_rows hkS hRows
  obtain ⟨k1, hk1⟩ := (share_ev hI.mods hC N R k s hsw).rounds
  have HKS := Lib.hid hkS
  have HRows := Lib.hid hRows
  have HHS0 := Lib.hid hRows.1
  clear hkS hRows
  generalize hsr : shareR C k s = sr at hk1
  obtain ⟨sa, sn⟩ := sr
  have HN := Lib.hid hN
  have HI := Lib.hid hI
  have HSR := Lib.hid hsr
  clear hN hI hsr
  go_enter Try.func28, Try.ntmps28
  go_wp2_with fail
  have hB0 := (((Below.refl w.heap.size w).alloc (Nat.le_refl _) (.cells #[.slice A0 C.length c0, .slice A1 N.length c1, .int .i64 R] 65 (0, 0))).alloc (by rw [alloc_size]; omega) (.cells #[.int .i64 k, .int .i64 s] 41 (0, 0))).alloc (by rw [alloc_size, alloc_size]; omega) (.cells #[.slice none 0 0, .slice none 0 0, .int .i64 0] 65 (0, 0))
  have b1 := ((Blk.here w 65 #[.slice A0 C.length c0, .slice A1 N.length c1, .int .i64 R]).alloc (.cells #[.int .i64 k, .int .i64 s] 41 (0, 0))).alloc (.cells #[.slice none 0 0, .slice none 0 0, .int .i64 0] 65 (0, 0))
  have b2 := (Blk.here (w.alloc (.cells #[.slice A0 C.length c0, .slice A1 N.length c1, .int .i64 R] 65 (0, 0))) 41 #[.int .i64 k, .int .i64 s]).alloc (.cells #[.slice none 0 0, .slice none 0 0, .int .i64 0] 65 (0, 0))
  have b3 := Blk.here ((w.alloc (.cells #[.slice A0 C.length c0, .slice A1 N.length c1, .int .i64 R] 65 (0, 0))).alloc (.cells #[.int .i64 k, .int .i64 s] 41 (0, 0))) 65 #[.slice none 0 0, .slice none 0 0, .int .i64 0]
  simp only [alloc_size] at b2 b3
  generalize (((w.alloc (.cells #[.slice A0 C.length c0, .slice A1 N.length c1, .int .i64 R] 65 (0, 0))).alloc (.cells #[.int .i64 k, .int .i64 s] 41 (0, 0))).alloc (.cells #[.slice none 0 0, .slice none 0 0, .int .i64 0] 65 (0, 0))) = w3 at *
  refine (lapidaryref06_share.calls k1 A0 c0 C A1 c1 N R k s sa sn w3 (Kd.C_below hr0 hB0) hc0 (Kd.C_below hr1 hB0) hc1 hk1).mono ?_
  rintro e w4 ⟨rfl, hb4⟩
  have hB4 := hB0.trans (hb4.mono hB0.size)
  replace b1 := b1.below hb4
  replace b2 := b2.below hb4
  replace b3 := b3.below hb4
  clear hk1 hB0 hb4
  have x10 := b1.cell 0
  have x11 := b1.cell 1
  have x12 := b1.cell 2
  have x20 := b2.cell 0
  have x21 := b2.cell 1
  have x30 := b3.cell 0
  have x31 := b3.cell 1
  have x32 := b3.cell 2
  have HR0 := Lib.hid hr0
  have HR1 := Lib.hid hr1
  clear hr0 hr1
  by_cases h0 : sn = 0
  · have d0 : (sn == 0) = true := beq_iff_eq.2 h0
    subst h0
    have hnone : CM.step ⟨C, R, V, L⟩ (k, s) = none := step_none (share_zero HI.out.mods HSR.out)
    have HNONE := Lib.hid hnone
    clear hnone
    have z0 := b3.frozen 0
    have z1 := (b3.set_ 0 (.slice A0 C.length c0)).frozen 1
    have z2 := ((b3.set_ 0 (.slice A0 C.length c0)).set_ 1 (.slice A1 N.length c1)).frozen 2
    have e3 := ((b3.set_ 0 (.slice A0 C.length c0)).set_ 1 (.slice A1 N.length c1)).set_ 2 (.int .i64 R)
    have hB5 := ((hB4.setCell (p := ⟨w.heap.size + 1 + 1, 0, none⟩) (by show w.heap.size ≤ w.heap.size + 1 + 1; omega) (.slice A0 C.length c0)).setCell (p := ⟨w.heap.size + 1 + 1, 1, none⟩) (by show w.heap.size ≤ w.heap.size + 1 + 1; omega) (.slice A1 N.length c1)).setCell (p := ⟨w.heap.size + 1 + 1, 2, none⟩) (by show w.heap.size ≤ w.heap.size + 1 + 1; omega) (.int .i64 R)
    go_wp2_with fail
    refine bodyPost_ret (results_ct rfl _ _ (w.heap.size + 1 + 1) 65 _ (0, 0) _ rfl e3 Try.underlying65 rfl (by kernel_rfl)) rfl ?_
    exact ⟨hB5, .inl ⟨HNONE.out, _, _, _, _, _, _, _, rfl⟩⟩
  · have d0 : (sn == 0) = false := beq_eq_false_iff_ne.2 h0
    obtain ⟨k2, hk2⟩ := (whole_ev HI.out.mods hC N R k).rounds
    have hsh := share_pos HI.out.mods HSR.out h0
    obtain ⟨u, hu⟩ := step_of_share (x := (k, s)) hsh
    obtain ⟨a2, n2, hst⟩ := step_some HI.out hu
    have han : a2 = sa ∧ n2 = sn := by
      have := hst.sh
      rw [hsh] at this
      injection this with this
      injection this with e1 e2
      exact ⟨e1.symm, e2.symm⟩
    obtain ⟨rfl, rfl⟩ := han
    generalize hW : CM.whole C k = W at *
    have hss := share_some HI.out.mods hsh
    rw [hW] at hss
    obtain ⟨hs0, ha0, hn1, han, hW1, hW2, hkr⟩ := hss
    have hr0' := HI.out.r0
    have hr1' := HI.out.r1
    change 16777216 ≤ R at hr0'
    change R < 4294967296 at hr1'
    have hq := hst.q1
    change 1 ≤ R / CM.whole C k at hq
    have hqn := hst.q256
    change 256 ≤ R / CM.whole C k * n2 at hqn
    have hqle := hst.qle
    change R / CM.whole C k * (a2 + n2) ≤ R at hqle
    rw [hW] at hq hqn hqle
    have HST := Lib.hid hst
    have HU := Lib.hid hu
    have HSH := Lib.hid hsh
    have HWW := Lib.hid hW
    clear hst hu hsh hW
    have dW : (W == 0) = false := beq_eq_false_iff_ne.2 (by omega)
    have eW : ¬ W = 0 := by omega
    have eW2 : W ≠ 0 := eW
    have hB4d := hB4.drew
    have hC2 := Lib.hid (lapidaryref06_whole.calls k2 A0 c0 C A1 c1 N R k W w4.drew (Kd.C_below HR0.out hB4d) hc0 (Kd.C_below HR1.out hB4d) hc1 hk2)
    clear hk2
    obtain ⟨Q, hQ⟩ : ∃ Q, R / W = Q := ⟨_, rfl⟩
    rw [hQ] at hq hqn hqle
    have hQR : Q ≤ R := by rw [← hQ]; exact Int.ediv_le_self _ (by omega)
    have hdiv : IntKind.i64.wrap (Int.tdiv R W) = Q := by rw [Int.tdiv_eq_ediv_of_nonneg (by omega), hQ, i64_w]; exact CR.w64 (x := Q) (by omega) (by omega)
    have HQ := Lib.hid hQ
    clear hQ
    go_upto_region 4 with fail
    replace x10 : w4.drew.cell? ⟨w.heap.size, 0, none⟩ = some (.slice A0 C.length c0) := b1.drew.cell 0
    replace x11 : w4.drew.cell? ⟨w.heap.size, 1, none⟩ = some (.slice A1 N.length c1) := b1.drew.cell 1
    replace x12 : w4.drew.cell? ⟨w.heap.size, 2, none⟩ = some (.int .i64 R) := b1.drew.cell 2
    replace x20 : w4.drew.cell? ⟨w.heap.size + 1, 0, none⟩ = some (.int .i64 k) := b2.drew.cell 0
    go_cut [8] (fun s8 wx => s8 = .int .i64 Q ∧ Below w4.drew.heap.size w4.drew wx)
    case first =>
      go_region_held3 (fun w' => w'.cell? ⟨w.heap.size, 0, none⟩ = some (.slice A0 C.length c0) ∧ w'.cell? ⟨w.heap.size, 1, none⟩ = some (.slice A1 N.length c1) ∧ w'.cell? ⟨w.heap.size, 2, none⟩ = some (.int .i64 R) ∧ w'.cell? ⟨w.heap.size + 1, 0, none⟩ = some (.int .i64 k)) (first | exact ⟨x10, x11, x12, x20⟩ | exact ⟨hx1.cell 0, hx1.cell 1, hx1.cell 2, hx2.cell 0⟩) (first | (go_at_call 36; (with_reducible refine hC2.out.mono ?_); rintro e w5 ⟨rfl, hb5⟩; have hx1 := b1.drew.below hb5; have hx2 := b2.drew.below hb5))
      all_goals
        go_wp2_with fail
        go_meet
        exact ⟨rfl, hb5⟩
    case rest =>
      obtain ⟨rfl, hb5⟩ := hcut
      have hB5 := hB4d.trans (hb5.mono hB4d.size)
      replace b1 := b1.drew.below hb5
      replace b2 := b2.drew.below hb5
      replace b3 := b3.drew.below hb5
      clear hC2 hb5 x10 x11 x12 x20 x21 x30 x31 x32 hB4 hB4d d0 hdiv
      have hqa : Q * a2 ≤ R := by
        have e : Q * (a2 + n2) = Q * a2 + Q * n2 := Int.mul_add _ _ _
        omega
      have hqa0 : 0 ≤ Q * a2 := Int.mul_nonneg (by omega) ha0
      have hqn2 : Q * n2 ≤ R := by
        have e : Q * (a2 + n2) = Q * a2 + Q * n2 := Int.mul_add _ _ _
        omega
      have m1 : wrap64 (Q * a2) = Q * a2 := CR.w64 (by omega) (by omega)
      have m2 : wrap64 (Q * n2) = Q * n2 := CR.w64 (by omega) (by omega)
      obtain ⟨k3, hk3⟩ := (add_ev L V (Q * a2) (by omega) hqa0 (by omega)).rounds
      rw [← HN.out] at hk3
      have x10 := b1.cell 0
      have x11 := b1.cell 1
      have x12 := b1.cell 2
      have x20 := b2.cell 0
      have x21 := b2.cell 1
      generalize hqqa : Q * a2 = qa at *
      generalize hqqn : Q * n2 = qn at *
      clear hqle
      go_wp2_with fail
      refine (lapidaryref06_add.calls k3 A1 c1 N qa _ _ (Kd.C_below HR1.out hB5) hc1 hk3).mono ?_
      rintro e w6 ⟨v6, rfl, hR6, hb6⟩
      obtain ⟨A2, c2, rfl⟩ := Kd.R_slice hR6
      have hB6 := hB5.trans (hb6.mono hB5.size)
      have hlt1 := b1.lt
      have hlt2 := b2.lt
      have hlt3 := b3.lt
      rename_i w5
      replace b1 := b1.below hb6
      replace b2 := b2.below hb6
      replace b3 := b3.below hb6
      have z1 := b1.frozen 1
      have b1' := b1.set_ 1 (.slice A2 (digs L (V + qa)).length c2)
      have z2 := b1'.frozen 2
      have y1 : w6.cell? ⟨w.heap.size, 1, none⟩ = some (.slice A1 N.length c1) := b1.cell 1
      have y2 : (w6.setCell ⟨w.heap.size, 1, none⟩ (.slice A2 (digs L (V + qa)).length c2)).cell? ⟨w.heap.size, 2, none⟩ = some (.int .i64 R) := b1'.cell 2
      clear hk3 x10 x11 x12 x20 x21
      go_wp2_with fail
      have hT : TS w ((w6.setCell ⟨w.heap.size, 1, none⟩ (.slice A2 (digs L (V + qa)).length c2)).setCell ⟨w.heap.size, 2, none⟩ (.int .i64 qn)) w.heap.size (.slice A0 C.length c0) (.slice A2 (digs L (V + qa)).length c2) (digs L (V + qa)) qn k s := by
        refine TS.setR (R := R) ?_ qn
        exact ⟨b1', b2.far (by show w.heap.size + 1 ≠ w.heap.size; omega) _, b3.far (by show w.heap.size + 1 + 1 ≠ w.heap.size; omega) _, Kd.R_set (Kd.R_lower hR6 (by omega)) b1 (by decide) 1 _, hB6.setCell (p := ⟨w.heap.size, 1, none⟩) (Nat.le_refl _) _⟩
      generalize ((w6.setCell ⟨w.heap.size, 1, none⟩ (.slice A2 (digs L (V + qa)).length c2)).setCell ⟨w.heap.size, 2, none⟩ (.int .i64 qn)) = wA at *
      clear b1 b1' b2 b3 z1 z2 y1 y2 hlt1 hlt2 hlt3 hR6 hB6 hb6 hB5
      obtain ⟨M, hM⟩ : ∃ M, M = many qn := ⟨_, rfl⟩
      have hlt : ∀ j, j < M → qn * pw j < 16777216 := fun j hj => many_lt' hqn (by rw [← hM]; exact hj)
      have hmm := many_mul hqn (by omega)
      rw [← hM] at hmm
      have hM2 : M ≤ 2 := by rw [hM]; exact many_le2 qn
      have HM := Lib.hid hM
      have HLT := Lib.hid hlt
      have HMM := Lib.hid hmm
      clear hM hlt hmm
      go_loopg [] M (fun kq wx => kq ≤ M ∧ ∃ vx, TS w wx w.heap.size (.slice A0 C.length c0) vx (digs L (V + qa) ++ List.replicate (M - kq) 0) (qn * pw (M - kq)) k s)
      case atStart => exact ⟨Nat.le_refl _, _, by rw [Nat.sub_self, List.replicate_zero, List.append_nil, pw_zero, Int.mul_one]; exact hT⟩
      case round =>
        clear hT
        obtain ⟨hkq, vx, hT⟩ := hrel
        have y2 : wr.cell? ⟨w.heap.size, 2, none⟩ = some (.int .i64 (qn * pw (M - gk))) := hT.b1.cell 2
        by_cases hg0 : gk = 0
        · subst hg0
          have hge := HMM.out.1
          have dge : decide (qn * pw (M - 0) < 16777216) = false := decide_eq_false (by rw [Nat.sub_zero]; omega)
          rw [Nat.sub_zero] at hT y2 dge
          have e1 : u.R = qn * pw M := by
            have := HST.out.r
            have hl := HST.out.l
            change u.R = R / CM.whole C k * n2 * pw (u.L - L) at this
            change u.L = L + many (R / CM.whole C k * n2) at hl
            rw [HWW.out, HQ.out, hqqn] at this hl
            rw [this, show u.L - L = M by rw [hl, HM.out]; omega]
          have e2 : digs L (V + qa) ++ List.replicate M 0 = digs u.L u.V := by
            have := HST.out.v
            have hl := HST.out.l
            change u.V = (V + R / CM.whole C k * a2) * pw (u.L - L) at this
            change u.L = L + many (R / CM.whole C k * n2) at hl
            rw [HWW.out, HQ.out, hqqn] at hl
            rw [HWW.out, HQ.out, hqqa, show u.L - L = M by rw [hl, HM.out]; omega] at this
            rw [this, show u.L = L + M by rw [hl, HM.out], digs_shift]
          have e3 : u.C = cntC C k s := HST.out.c
          rw [← e1] at hT y2 dge
          rw [e2] at hT
          obtain ⟨Ax, cx, rfl⟩ := Kd.R_slice hT.row
          rw [digs_length] at hT
          have E1 := Lib.hid e1
          have E3 := Lib.hid e3
          clear e1 e2 e3 hge
          have y0 := hT.b1.cell 0
          have y1 := hT.b1.cell 1
          have x20 := hT.b2.cell 0
          have x21 := hT.b2.cell 1
          have x30 := hT.b3.cell 0
          have x31 := hT.b3.cell 1
          have x32 := hT.b3.cell 2
          have z0 := hT.b3.frozen 0
          have z1 := (hT.b3.set_ 0 (.slice A0 C.length c0)).frozen 1
          have z2 := ((hT.b3.set_ 0 (.slice A0 C.length c0)).set_ 1 (.slice Ax u.L cx)).frozen 2
          by_cases hkk : k < 0
          · have dk : decide (k ≥ 0) = false := decide_eq_false (by omega)
            have f3 := ((hT.b3.set_ 0 (.slice A0 C.length c0)).set_ 1 (.slice Ax u.L cx)).set_ 2 (.int .i64 u.R)
            have hB5 := ((hT.bel.setCell (p := ⟨w.heap.size + 1 + 1, 0, none⟩) (by show w.heap.size ≤ w.heap.size + 1 + 1; omega) (.slice A0 C.length c0)).setCell (p := ⟨w.heap.size + 1 + 1, 1, none⟩) (by show w.heap.size ≤ w.heap.size + 1 + 1; omega) (.slice Ax u.L cx)).setCell (p := ⟨w.heap.size + 1 + 1, 2, none⟩) (by show w.heap.size ≤ w.heap.size + 1 + 1; omega) (.int .i64 u.R)
            have hR5 := Kd.R_set (Kd.R_set (Kd.R_set hT.row hT.b3 (by decide) 0 (.slice A0 C.length c0)) (hT.b3.set_ 0 (.slice A0 C.length c0)) (by decide) 1 (.slice Ax u.L cx)) ((hT.b3.set_ 0 (.slice A0 C.length c0)).set_ 1 (.slice Ax u.L cx)) (by decide) 2 (.int .i64 u.R)
            go_wp2_with fail
            refine bodyPost_ret (results_ct rfl _ _ (w.heap.size + 1 + 1) 65 _ (0, 0) _ rfl f3 Try.underlying65 rfl (by kernel_rfl)) rfl ?_
            have hC' : u.C = C := by rw [E3.out]; unfold cntC; rw [if_neg (by omega)]
            have hrr := Kd.R_reads' hR5
            refine ⟨hB5, .inr ⟨u, A0, c0, Ax, cx, hs, HU.out, ?_, ?_, ?_, ?_, ?_, ?_, ?_, ?_⟩⟩
            · rw [hC']; rfl
            · exact Kd.C_below HKS.out hB5
            · rw [hC']; exact HRows.out.below hB5
            · rw [hC']; exact hc0
            · have := hrr.2.2; rwa [digs_length] at this
            · exact hrr.2.1
            · intro G hg hK; rw [hC']; exact hK.below hB5
            · intro G hg; have := keepR (G := G) hR5 (fun k hk => by have := hg k hk; omega); rwa [digs_length] at this
          · have dk : decide (k ≥ 0) = true := decide_eq_true (by omega)
            have hkS' := Kd.C_below HKS.out hT.bel
            have hhs := HHS0.out
            rw [hhs] at hkS'
            have hbig : w.heap.size + 3 ≤ wr.heap.size := by have := hT.b3.lt; omega
            have hkl : k.toNat < C.length := by
              rcases hkr with h | h
              · exact absurd h.1 hkk
              · omega
            clear z0 z1 z2
            go_wp2_with (first | (at_builtin; go_must (refine Kd.R_append_rows kS (Rr := kS.K wr) (w0 := wr) (W := wr) wr.heap.size rfl (.tmp 52) (.tmp 54) 63 22 (.slice none 0 0) 24 rfl Try.underlying63 info22 rfl (by decide) (by decide) (.slice none 0 0) [] hs A0 C.length c0 (fun _ => True) (fun _ => False) rfl rfl (Kd.R_nil _ _ _ _ _) hkS' (fun x cs h => h) (fun _ hk => hk.elim) (fun _ _ => trivial) (Below.refl _ _) (Nat.le_refl _) (by simp; omega) ?_); intro v1 w1 hR1 hb1 hg1 hat1; rw [List.nil_append] at hR1))
            have hT1 := hT.below hb1
            obtain ⟨rb, cap, ev1, hrb, hrl, cells, hcells⟩ := Kd.R_form hR1 (by rw [hhs]; omega)
            subst ev1
            have hrow := HRows.out.2 k.toNat hkl
            have hcx : ∀ w', Below w1.drew.heap.size w1.drew w' → w'.cell? ⟨rb, k.toNat, none⟩ = some (encH (hs.getD k.toNat hd0)) ∧ w'.frozen? ⟨rb, k.toNat, none⟩ = false := fun w' hb' => Kd.R_cell hd0 (Kd.R_below (Kd.R_drew hR1) hb') k (by omega) (by omega)
            obtain ⟨hk, hhk⟩ : ∃ h, h = hs.getD k.toNat hd0 := ⟨_, rfl⟩
            rw [← hhk] at hrow hcx
            obtain ⟨Ak, nk, ck⟩ := hk
            obtain ⟨hn1', hn2', hn3'⟩ := hrow
            simp only at hn1' hn2' hn3'
            subst hn1'
            obtain ⟨k5, hk5⟩ := (count_ev HI.out.mods (i := k.toNat) (s := s) (a := a2) (n := n2) (by rw [show ((k.toNat : Nat) : Int) = k by omega]; exact HSH.out)).rounds
            have hBd := hT1.bel.drew
            have hCc := Lib.hid (lapidaryref05_Count.calls k5 Ak ck (C.getD k.toNat []) s _ w1.drew (Kd.C_below hn3' hBd) hn2' hk5)
            have hcx' : ∀ w', Below w1.drew.heap.size w1.drew w' → w'.cell? ⟨rb, k.toNat, none⟩ = some (.slice Ak (C.getD k.toNat []).length ck) ∧ w'.frozen? ⟨rb, k.toNat, none⟩ = false := hcx
            have HCX := Lib.hid hcx'
            clear hcx hcx' hk5
            have k0 := HCX.out _ (Below.refl _ _)
            have kc0 := k0.1
            have kf0 := k0.2
            have j0 : w1.drew.cell? ⟨w.heap.size + 1, 0, none⟩ = some (.int .i64 k) := hT1.b2.drew.cell 0
            have j1 : w1.drew.cell? ⟨w.heap.size + 1, 1, none⟩ = some (.int .i64 s) := hT1.b2.drew.cell 1
            generalize hCL : C.getD k.toNat [] = cl at *
            generalize hcw : cntI cl s = cw at *
            have p1 := eq_true (show 0 ≤ k by omega)
            have p2 := eq_true (show k < (hs.length : Int) by omega)
            have HHS := Lib.hid hhs
            clear hhs k0 hat1
            go_upto_region 13 with fail
            go_cut [66] (fun s66 wx => ∃ Ad cd w2, wx = w2.setCell ⟨rb, k.toNat, none⟩ (.slice Ad cw.length cd) ∧ Kd.R (Kd.int .i64) 3 w2 w1.drew.heap.size (fun _ => True) (.slice Ad cw.length cd) cw ∧ Below w1.drew.heap.size w1.drew w2)
            case first =>
              go_region_with (go_at_call 45; (with_reducible refine hCc.out.mono ?_); rintro e w2 ⟨v2, rfl, hR2, hb2⟩; obtain ⟨Ad, cd, rfl⟩ := Kd.R_slice hR2; have hx2 := hT1.b2.drew.below hb2; have kc2 := HCX.out _ hb2; have kf2 := kc2.2; have kd2 := kc2.1; clear kc2; have jx0 : w2.cell? ⟨w.heap.size + 1, 0, none⟩ = some (.int .i64 k) := hx2.cell 0; have jx1 : w2.cell? ⟨w.heap.size + 1, 1, none⟩ = some (.int .i64 s) := hx2.cell 1; clear hx2)
              all_goals
                go_wp2_with fail
                go_meet
                exact ⟨Ad, cd, w2, rfl, hR2, hb2⟩
            case rest =>
              obtain ⟨Ad, cd, w2, rfl, hR2, hb2⟩ := hcut
              have hT2 := (hT1.below (Below.refl _ _).drew).below hb2
              have hRr := Kd.R_below (Kd.R_drew hR1) hb2
              obtain ⟨cells2, hcl2⟩ := Kd.R_typed hRr rb rfl
              have hT3 := hT2.far hcl2 (by decide) (by omega) k.toNat (.slice Ad cw.length cd)
              have hput : kS.R 22 (w2.setCell ⟨rb, k.toNat, none⟩ (.slice Ad cw.length cd)) wr.heap.size (fun _ => True) (.slice (some ⟨rb, 0, none⟩) hs.length cap) (hs.set k.toNat (Ad, cw.length, cd)) := (Kd.R_put hRr k (Ad, cw.length, cd)).1
              have hR3 := Kd.R_set hR2 hcl2 (by decide) k.toNat (.slice Ad cw.length cd)
              generalize w2.setCell ⟨rb, k.toNat, none⟩ (.slice Ad cw.length cd) = wy at *
              clear hcl2 hRr hT2 hT1 hR2 hb2 hR1 hb1 hg1 j0 j1 kc0 kf0 hCc y0 y1 y2 x20 x21 x30 x31 x32 hT hcells HCX hBd
              have y0 := hT3.b1.cell 0
              have zz := hT3.b1.frozen 0
              have hT4 := hT3.set0 (.slice (some ⟨rb, 0, none⟩) hs.length cap)
              have hput4 := Kd.R_set hput hT3.b1 (by decide) 0 (.slice (some ⟨rb, 0, none⟩) hs.length cap)
              have hR4 := Kd.R_set hR3 hT3.b1 (by decide) 0 (.slice (some ⟨rb, 0, none⟩) hs.length cap)
              have y1 := hT4.b1.cell 0
              have y2 := hT4.b1.cell 1
              have y3 := hT4.b1.cell 2
              have x30 := hT4.b3.cell 0
              have x31 := hT4.b3.cell 1
              have x32 := hT4.b3.cell 2
              have z0 := hT4.b3.frozen 0
              have f1 := hT4.b3.set_ 0 (.slice (some ⟨rb, 0, none⟩) hs.length cap)
              have z1 := f1.frozen 1
              have f2 := f1.set_ 1 (.slice Ax u.L cx)
              have z2 := f2.frozen 2
              have f3 := f2.set_ 2 (.int .i64 u.R)
              have hB5 := ((hT4.bel.setCell (p := ⟨w.heap.size + 1 + 1, 0, none⟩) (by show w.heap.size ≤ w.heap.size + 1 + 1; omega) (.slice (some ⟨rb, 0, none⟩) hs.length cap)).setCell (p := ⟨w.heap.size + 1 + 1, 1, none⟩) (by show w.heap.size ≤ w.heap.size + 1 + 1; omega) (.slice Ax u.L cx)).setCell (p := ⟨w.heap.size + 1 + 1, 2, none⟩) (by show w.heap.size ≤ w.heap.size + 1 + 1; omega) (.int .i64 u.R)
              have hR5 := Kd.R_set (Kd.R_set (Kd.R_set hT4.row hT4.b3 (by decide) 0 (.slice (some ⟨rb, 0, none⟩) hs.length cap)) f1 (by decide) 1 (.slice Ax u.L cx)) f2 (by decide) 2 (.int .i64 u.R)
              have hput5 := Kd.R_set (Kd.R_set (Kd.R_set hput4 hT4.b3 (by decide) 0 (.slice (some ⟨rb, 0, none⟩) hs.length cap)) f1 (by decide) 1 (.slice Ax u.L cx)) f2 (by decide) 2 (.int .i64 u.R)
              have hR6 := Kd.R_set (Kd.R_set (Kd.R_set hR4 hT4.b3 (by decide) 0 (.slice (some ⟨rb, 0, none⟩) hs.length cap)) f1 (by decide) 1 (.slice Ax u.L cx)) f2 (by decide) 2 (.int .i64 u.R)
              clear hput hput4 hR3 hR4 f1 f2
              go_wp2_with fail
              refine bodyPost_ret (results_ct rfl _ _ (w.heap.size + 1 + 1) 65 _ (0, 0) _ rfl f3 Try.underlying65 rfl (by kernel_rfl)) rfl ?_
              have hC' : u.C = C.set k.toNat cw := by rw [E3.out]; unfold cntC; rw [if_pos (by omega), hCL, hcw]
              have hrr := Kd.R_reads' hR5
              have hrc := Kd.R_reads' hput5
              have hrd := Kd.R_reads' hR6
              have hln : hs.length = u.C.length := by rw [hC', List.length_set]; exact HHS.out
              refine ⟨hB5, .inr ⟨u, some ⟨rb, 0, none⟩, cap, Ax, cx, hs.set k.toNat (Ad, cw.length, cd), HU.out, ?_, ?_, ?_, ?_, ?_, ?_, ?_, ?_⟩⟩
              · rw [← hln]; rfl
              · exact hrc.2.2
              · rw [hC']; exact (HRows.out.below hB5).set k.toNat ⟨rfl, hrd.2.1, hrd.2.2⟩
              · rw [← hln]; exact hrc.2.1
              · have := hrr.2.2; rwa [digs_length] at this
              · exact hrr.2.1
              · intro G hg hK
                rw [hC']
                intro w'' hw''
                exact ⟨keepR (G := G) hput5 (fun k hk => by have := hg k hk; omega) w'' hw'', ((hK.below hB5) w'' hw'').2.set k.toNat ⟨rfl, hrd.2.1, keepR (G := G) hR6 (fun k hk => by have := hg k hk; show k < w1.heap.size; omega) w'' hw''⟩⟩
              · intro G hg; have := keepR (G := G) hR5 (fun k hk => by have := hg k hk; omega); rwa [digs_length] at this
        · obtain ⟨gm, rfl⟩ : ∃ m, gk = m + 1 := ⟨gk - 1, by omega⟩
          have hle := HLT.out (M - (gm + 1)) (by omega)
          have hpos : 0 < qn * pw (M - (gm + 1)) := Int.mul_pos (by omega) (pw_pos _)
          have hpe : qn * pw (M - gm) = qn * pw (M - (gm + 1)) * 256 := by rw [show M - gm = M - (gm + 1) + 1 by omega, pw_succ, Int.mul_assoc]
          have hlen : (digs L (V + qa) ++ List.replicate (M - (gm + 1)) 0).length ≤ 60000 := by rw [List.length_append, List.length_replicate, digs_length]; omega
          have hxs : digs L (V + qa) ++ List.replicate (M - gm) 0 = (digs L (V + qa) ++ List.replicate (M - (gm + 1)) 0) ++ [0] := by rw [List.append_assoc, rep_snoc, show M - (gm + 1) + 1 = M - gm by omega]
          have HPE := Lib.hid hpe
          have HXS := Lib.hid hxs
          clear hpe hxs
          generalize qn * pw (M - (gm + 1)) = rr at *
          generalize digs L (V + qa) ++ List.replicate (M - (gm + 1)) 0 = O at *
          have dlt : decide (rr < 16777216) = true := decide_eq_true hle
          have m3 : wrap64 (rr * 256) = rr * 256 := CR.w64 (by omega) (by omega)
          have hT2 := hT.setR (rr * 256)
          have hbig : w.heap.size + 3 ≤ wr.heap.size := by have := hT.b3.lt; omega
          have f2 := hT.b1.frozen 2
          have y1 : (wr.setCell ⟨w.heap.size, 2, none⟩ (.int .i64 (rr * 256))).cell? ⟨w.heap.size, 1, none⟩ = some vx := hT2.b1.cell 1
          go_wp2_with (first | (at_builtin; go_must (refine Kd.R_append (Kd.int .i64) (w0 := (wr.setCell ⟨w.heap.size, 2, none⟩ (.int .i64 (rr * 256)))) (W := (wr.setCell ⟨w.heap.size, 2, none⟩ (.int .i64 (rr * 256)))) (w.heap.size + 3) rfl (.tmp 45) (.tmp 46) 22 3 (.int .i64 0) 8 rfl Try.underlying22 info3 rfl (by decide) (by decide) vx O 0 [.int .i64 0] (fun _ => True) (fun _ => False) rfl (by simp; rfl) rfl (fun _ hk => hk.elim) (fun _ _ => trivial) hT2.row (Below.refl _ _) (by simp; omega) (by omega) ?_); intro v1 w1 hR1 hb1 hg1 hat1; have hO1 := TS.out hT2 hR1 hg1 hb1; have x1 : w1.cell? ⟨w.heap.size, 1, none⟩ = some vx := hO1.1.cell 1; have xf1 : w1.frozen? ⟨w.heap.size, 1, none⟩ = false := hO1.1.frozen 1; obtain ⟨A1x, c1x, e1⟩ := Kd.R_slice hR1; subst e1))
          go_roundg gm
          case rel =>
            have h1 := hO1.2
            refine ⟨by omega, .slice A1x (O ++ [0]).length c1x, ?_⟩
            rw [HPE.out, HXS.out]
            simp only [List.length_append, List.length_singleton] at h1 ⊢
            exact h1
          case measure => omega
end Go.Proofs.Ythegimfokcdehaa.CR
