/- predict.Rests at the chapter's example. -/
import Derived.Test.YtgkncgiemfbglaaPFold
import Derived.Deep.RegionHeld3
namespace Go.Proofs.Ytgkncgiemfbglaa.PT
open Go Go.RowKit Go.Proofs.Ytgkncgiemfbglaa.Mem Go.Proofs.Ytgkncgiemfbglaa.PPrd Go.Proofs.YtgkncgiemfbglaaW.PrintWords Go.Proofs.YtgkncgiemfbglaaW.PrintLast Go.Proofs.YtgkncgiemfbglaaW.PrintMore
set_option linter.unusedVariables false
theorem cell_alloc_ (w : World) (o : Obj) {p : Addr} {v : Value} (h : w.cell? p = some v) : (w.alloc o).cell? p = some v := ((Below.alloc (Below.refl w.heap.size w) (Nat.le_refl _) o).cell (World.block_lt_of_cell? w _ h)).trans h
theorem cell4_below {w w' : World} {a b c d : Addr} {p q r s : Value} (hb : Below w.heap.size w w') (h : w.cell? a = some p ∧ w.cell? b = some q ∧ w.cell? c = some r ∧ w.cell? d = some s) : w'.cell? a = some p ∧ w'.cell? b = some q ∧ w'.cell? c = some r ∧ w'.cell? d = some s :=
  ⟨(hb.cell (World.block_lt_of_cell? w _ h.1)).trans h.1, (hb.cell (World.block_lt_of_cell? w _ h.2.1)).trans h.2.1, (hb.cell (World.block_lt_of_cell? w _ h.2.2.1)).trans h.2.2.1, (hb.cell (World.block_lt_of_cell? w _ h.2.2.2)).trans h.2.2.2⟩
theorem cell4_alloc (w : World) (o : Obj) {a b c d : Addr} {p q r s : Value} (h : w.cell? a = some p ∧ w.cell? b = some q ∧ w.cell? c = some r ∧ w.cell? d = some s) : (w.alloc o).cell? a = some p ∧ (w.alloc o).cell? b = some q ∧ (w.alloc o).cell? c = some r ∧ (w.alloc o).cell? d = some s :=
  ⟨cell_alloc_ w o h.1, cell_alloc_ w o h.2.1, cell_alloc_ w o h.2.2.1, cell_alloc_ w o h.2.2.2⟩
set_option maxHeartbeats 4000000 in
set_option maxRecDepth 100000 in
theorem rests12 (w : World) (AP AT : Option Addr) (hP : Kd.C k40 w AP 4 pts) (hT : Kd.C k36 w AT 2 ex) :
    Calls Try.prog 12 #[.agg #[.slice AP 4 4, .slice AT 2 2]] w fun e w' => ∃ v, e = .returned (.tuple #[v, .int .i64 0]) ∧ Kd.R (Kd.int .i64) 3 w' w.heap.size (fun _ => True) v [1, 0, 0, 4, 0, 0, -3, 7, 0, 0, 0, 0] ∧ Below w.heap.size w w' := by
  have hm1 := Blk.here w 43 #[.slice AP 4 4, .slice AT 2 2]
  have hb1 := (Below.refl w.heap.size w).alloc (Nat.le_refl _) (.cells #[.slice AP 4 4, .slice AT 2 2] 43 (0, 0))
  have x0 := hm1.cell 0
  have x1 := hm1.cell 1
  have hF := Lib.hid (fores19 (w.alloc (.cells #[.slice AP 4 4, .slice AT 2 2] 43 (0, 0))) AT 2 (Kd.C_alloc hT _) (by omega))
  go_enter Try.func12, Try.ntmps12
  go_wp2_with fail
  refine hF.out.mono ?_
  rintro e w2 ⟨vf, rfl, hRf, hb2⟩
  clear hF x0 x1
  obtain ⟨Af, cf, rfl⟩ := Kd.R_slice hRf
  have hm2 := hm1.below hb2
  have hbw2 := hb1.trans (hb2.mono hb1.size)
  have hCf2 := (Kd.R_reads' hRf).2.2
  have x0 := hm2.cell 0
  have x1 := hm2.cell 1
  have hC := Lib.hid (c20 w2 AP pts 4 (Kd.C_below hP hbw2) pts_small (by decide))
  clear hRf hm1 hb1 hb2
  go_wp2_with fail
  refine hC.out.mono ?_
  rintro e w3 ⟨rfl, hb3⟩
  clear hC x0 x1
  have hm3 := hm2.below hb3
  have hbw3 := hbw2.trans (hb3.mono hbw2.size)
  have hCf3 := Kd.C_below hCf2 hb3
  have x0 := hm3.cell 0
  have x1 := hm3.cell 1
  clear hCf2 hm2 hbw2 hb3
  go_wp2_with fail
  clear x0 x1
  have hws3 := hbw3.size
  go_loopw [29, 6] (fun v v6 wr => Below w.heap.size w wr ∧ Below w3.heap.size w3 wr ∧ ((v = .int .i64 0 ∧ Kd.R (Kd.int .i64) 3 wr w3.heap.size (fun _ => True) v6 []) ∨ (v = .int .i64 1 ∧ Kd.R (Kd.int .i64) 3 wr w3.heap.size (fun _ => True) v6 [1, 0, 0]) ∨ (v = .int .i64 2 ∧ Kd.R (Kd.int .i64) 3 wr w3.heap.size (fun _ => True) v6 [1, 0, 0, 4, 0, 0]) ∨ (v = .int .i64 3 ∧ Kd.R (Kd.int .i64) 3 wr w3.heap.size (fun _ => True) v6 [1, 0, 0, 4, 0, 0, -3, 7, 0]) ∨ (v = .int .i64 4 ∧ Kd.R (Kd.int .i64) 3 wr w3.heap.size (fun _ => True) v6 [1, 0, 0, 4, 0, 0, -3, 7, 0, 0, 0, 0]))) (fun v _ _ => 4 - (intOf v).toNat)
  case atStart => exact ⟨hbw3, Below.refl _ _, .inl ⟨rfl, Kd.R_nil _ _ _ _ _⟩⟩
  case round =>
    clear hbw3
    obtain ⟨hbw, hb4, ⟨rfl, hR⟩ | ⟨rfl, hR⟩ | ⟨rfl, hR⟩ | ⟨rfl, hR⟩ | ⟨rfl, hR⟩⟩ := hrel
    · obtain ⟨A6, c6, rfl⟩ := Kd.R_slice hR
      obtain ⟨ad1, e1, y0, y1, y2⟩ := at_T40 (Kd.C_below hP hbw) 0 (by omega) (by omega)
      cases e1
      have hm4 := hm3.below hb4
      have hs4 := hm4.lt
      have ha : ad1.add 0 = ad1 := by simp [Addr.add]
      rw [show Int.toNat 0 * 3 = 0 from rfl, ha] at y0 y1 y2
      change wr.cell? _ = some (.int .i64 1) at y0
      change wr.cell? _ = some (.int .i64 0) at y1
      change wr.cell? _ = some (.int .i64 0) at y2
      have x0 := hm4.cell 0
      have x1 := hm4.cell 1
      have hP5 : Kd.C k40 (wr.alloc (.cells #[.int .i64 1, .int .i64 0, .int .i64 0] 40 (0, 0))) (some ad1) 4 pts := Kd.C_alloc (Kd.C_below hP hbw) _
      have hBp := Blk.here wr 40 #[.int .i64 1, .int .i64 0, .int .i64 0]
      have hm5 := hm4.alloc (.cells #[.int .i64 1, .int .i64 0, .int .i64 0] 40 (0, 0))
      have hR5 := Kd.R_alloc hR (.cells #[.int .i64 1, .int .i64 0, .int .i64 0] 40 (0, 0))
      have hb35 := hb4.alloc hb4.size (.cells #[.int .i64 1, .int .i64 0, .int .i64 0] 40 (0, 0))
      have hbw5 := hbw.alloc hbw.size (.cells #[.int .i64 1, .int .i64 0, .int .i64 0] 40 (0, 0))
      have hCf5 := Kd.C_below hCf3 hb35
      have hgp : wr.heap.size < (wr.alloc (.cells #[.int .i64 1, .int .i64 0, .int .i64 0] 40 (0, 0))).heap.size := hBp.lt
      clear hR hm4 hb4 hbw
      go_wp2_with fail
      clear x0 x1 y0 y1 y2
      generalize hww : wr.alloc (.cells #[.int .i64 1, .int .i64 0, .int .i64 0] 40 (0, 0)) = w5 at *
      generalize hgg : wr.heap.size = gp at *
      obtain ⟨ad2, e2, v0, v1, v2⟩ := at_T36 (A := Af) hCf5 0 (by decide) (by decide)
      cases e2
      have ha2 : ad2.add 0 = ad2 := by simp [Addr.add]
      rw [show Int.toNat 0 * 3 = 0 from rfl, ha2] at v0 v1 v2
      change w5.drew.cell? _ = some (.int .i64 (-1)) at v0
      change w5.drew.cell? _ = some (.int .i64 (-1)) at v1
      change w5.drew.cell? _ = some (.int .i64 (-1)) at v2
      have x0 := hm5.drew.cell 0
      have hf1 := Lib.hid (fold23 w5.drew _ (Kd.C_drew hP5) ⟨-1, -1, -1⟩ ⟨0, 0, 0⟩ fo0)
      have hf2 := Lib.hid (fold23 (w5.drew.alloc (.cells #[.int .i64 0, .int .i64 0, .int .i64 0] 40 (0, 0))) _ (Kd.C_alloc (Kd.C_drew hP5) _) ⟨-1, -1, -1⟩ ⟨0, 0, 0⟩ fo0)
      have x0' := (hm5.drew.alloc (.cells #[.int .i64 0, .int .i64 0, .int .i64 0] 40 (0, 0))).cell 0
      have v0' := (cell_alloc_ w5.drew (.cells #[.int .i64 0, .int .i64 0, .int .i64 0] 40 (0, 0)) v0)
      have v1' := (cell_alloc_ w5.drew (.cells #[.int .i64 0, .int .i64 0, .int .i64 0] 40 (0, 0)) v1)
      have v2' := (cell_alloc_ w5.drew (.cells #[.int .i64 0, .int .i64 0, .int .i64 0] 40 (0, 0)) v2)
      have hzz := Blk.here w5.drew 40 #[.int .i64 0, .int .i64 0, .int .i64 0]
      have hs5 : w5.drew.heap.size = w5.heap.size := rfl
      rw [hs5] at hzz
      go_region_held3 (fun w' => w'.cell? ⟨w.heap.size, 0, none⟩ = some (.slice (some ad1) 4 4) ∧ w'.cell? ad2 = some (.int .i64 (-1)) ∧ w'.cell? ⟨ad2.block, ad2.off + 1, none⟩ = some (.int .i64 (-1)) ∧ w'.cell? ⟨ad2.block, ad2.off + 2, none⟩ = some (.int .i64 (-1))) (first | exact ⟨x0, v0, v1, v2⟩ | exact ⟨x0', v0', v1', v2'⟩ | exact kp6 | exact kr6 | exact ks6 | exact kq6 | (fail "keep"))
        (first | (go_at_call 23; refine hf1.out.mono ?_; rintro e w6 ⟨rfl, hb6⟩; have kp6 := cell4_below hb6 ⟨x0, v0, v1, v2⟩; have hbA : Below w5.heap.size w5.drew w6 := hb6; have hs6 : w5.heap.size ≤ w6.heap.size := hbA.size; have kr6 := cell4_alloc w6 (.cells #[.int .i64 0, .int .i64 0, .int .i64 0] 40 (0, 0)) kp6; have ks6 := cell4_alloc w6 (.cells #[.int .i64 0, .int .i64 0, .int .i64 0] 40 (0, 0)) kp6) | (go_at_call 23; refine hf2.out.mono ?_; rintro e w6 ⟨rfl, hb6⟩; have hz6 := hzz.below hb6; have q0 := hz6.cell 0; have q1 := hz6.cell 1; have q2 := hz6.cell 2; have f0 := hz6.frozen 0; have f1 := (hz6.set_ 0 (.int .i64 0)).frozen 1; have f2 := ((hz6.set_ 0 (.int .i64 0)).set_ 1 (.int .i64 0)).frozen 2; have kp6 := cell4_below hb6 ⟨x0', v0', v1', v2'⟩; have hbA : Below w5.heap.size w5.drew w6 := (Below.alloc (Below.refl w5.heap.size w5.drew) (Nat.le_refl _) (.cells #[.int .i64 0, .int .i64 0, .int .i64 0] 40 (0, 0))).trans (hb6.mono (by simp)); have kq6 := cell4_below (w := w5.drew) (((hbA.setCell (p := ⟨w5.heap.size, 0, none⟩) (by show w5.heap.size ≤ _; first | exact Nat.le_refl _ | omega) (.int .i64 0)).setCell (p := ⟨w5.heap.size, 1, none⟩) (by show w5.heap.size ≤ _; first | exact Nat.le_refl _ | omega) (.int .i64 0)).setCell (p := ⟨w5.heap.size, 2, none⟩) (by show w5.heap.size ≤ _; first | exact Nat.le_refl _ | omega) (.int .i64 0)) ⟨x0, v0, v1, v2⟩))
      · have hbW := hbA.alloc hs6 (.cells #[.int .i64 0, .int .i64 0, .int .i64 0] 40 (0, 0))
        have hBx := Blk.here w6 40 #[.int .i64 0, .int .i64 0, .int .i64 0]
        have hgx : w5.heap.size ≤ w6.heap.size := hs6
        clear kp6 kr6 ks6 x0 x0' v0 v0' v1 v1' v2 v2' hf1 hf2 hzz hs6 hbA hb6
        generalize w6.alloc (.cells #[.int .i64 0, .int .i64 0, .int .i64 0] 40 (0, 0)) = W at *
        generalize w6.heap.size = gx at *
        have hmW := hm5.drew.below hbW
        have hRW := Kd.R_below (Kd.R_drew hR5) hbW
        have hpW := hBp.drew.below hbW
        have h3W := hb35.drew.trans (hbW.mono (by have := hb35.size; exact this))
        have hwW := hbw5.drew.trans (hbW.mono (by have := hbw5.size; exact this))
        clear hbW hm5 hR5 hBp hb35 hbw5 hP5 hCf5
        have p0 := hpW.cell 0
        have p1 := hpW.cell 1
        have p2 := hpW.cell 2
        have q0 := hBx.cell 0
        have q1 := hBx.cell 1
        have q2 := hBx.cell 2
        have hRB := Kd.R_alloc hRW (.cells #[.int .i64 1, .int .i64 0, .int .i64 0] 3 (0, 0))
        have hr3 := row3 W 1 0 0
        have hbB := hwW.alloc hwW.size (.cells #[.int .i64 1, .int .i64 0, .int .i64 0] 3 (0, 0))
        have h3B := h3W.alloc h3W.size (.cells #[.int .i64 1, .int .i64 0, .int .i64 0] 3 (0, 0))
        have hsB := hbB.size
        have hBZ : (W.alloc (.cells #[.int .i64 1, .int .i64 0, .int .i64 0] 3 (0, 0))).heap.size = W.heap.size + 1 := by simp
        go_wp2_with (first | (at_builtin; go_must (refine Kd.R_append_row (.int .i64) 0 (w0 := W.alloc (.cells #[.int .i64 1, .int .i64 0, .int .i64 0] 3 (0, 0))) (W := W.alloc (.cells #[.int .i64 1, .int .i64 0, .int .i64 0] 3 (0, 0))) w3.heap.size rfl (.tmp 41) (.tmp 57) 22 3 (.int .i64 0) 8 rfl Try.underlying22 info3 rfl (by decide) (.slice A6 0 c6) [] [1, 0, 0] (some ⟨W.heap.size, 0, none⟩) 3 3 (fun _ => True) rfl rfl (fun _ _ => trivial) hRB hr3 (Below.refl _ _) h3B.size (by decide) ?_); intro v18 w18 hR18 hb18 hg18 hat18))
        go_roundw
        case rel => exact ⟨hbB.trans (hb18.mono hws3), h3B.trans hb18, .inr (.inl ⟨rfl, hR18⟩)⟩
        case measure => simp [intOf]
      · have hbW := ((hbA.setCell (p := ⟨w5.heap.size, 0, none⟩) (Nat.le_refl _) (.int .i64 0)).setCell (p := ⟨w5.heap.size, 1, none⟩) (Nat.le_refl _) (.int .i64 0)).setCell (p := ⟨w5.heap.size, 2, none⟩) (Nat.le_refl _) (.int .i64 0)
        have hBx := ((hz6.set_ 0 (.int .i64 0)).set_ 1 (.int .i64 0)).set_ 2 (.int .i64 0)
        have hgx : w5.heap.size ≤ w5.heap.size := Nat.le_refl _
        clear kp6 kq6 x0 x0' v0 v0' v1 v1' v2 v2' hf1 hf2 hzz hbA hb6 q0 q1 q2 f0 f1 f2 hz6
        generalize ((w6.setCell ⟨w5.heap.size, 0, none⟩ (.int .i64 0)).setCell ⟨w5.heap.size, 1, none⟩ (.int .i64 0)).setCell ⟨w5.heap.size, 2, none⟩ (.int .i64 0) = W at *
        generalize hgx5 : w5.heap.size = gx at hBx hgx ⊢
        have hmW := hm5.drew.below hbW
        have hRW := Kd.R_below (Kd.R_drew hR5) hbW
        have hpW := hBp.drew.below hbW
        have h3W := hb35.drew.trans (hbW.mono (by have := hb35.size; exact this))
        have hwW := hbw5.drew.trans (hbW.mono (by have := hbw5.size; exact this))
        clear hbW hm5 hR5 hBp hb35 hbw5 hP5 hCf5
        have p0 := hpW.cell 0
        have p1 := hpW.cell 1
        have p2 := hpW.cell 2
        have q0 := hBx.cell 0
        have q1 := hBx.cell 1
        have q2 := hBx.cell 2
        have hRB := Kd.R_alloc hRW (.cells #[.int .i64 1, .int .i64 0, .int .i64 0] 3 (0, 0))
        have hr3 := row3 W 1 0 0
        have hbB := hwW.alloc hwW.size (.cells #[.int .i64 1, .int .i64 0, .int .i64 0] 3 (0, 0))
        have h3B := h3W.alloc h3W.size (.cells #[.int .i64 1, .int .i64 0, .int .i64 0] 3 (0, 0))
        have hsB := hbB.size
        have hBZ : (W.alloc (.cells #[.int .i64 1, .int .i64 0, .int .i64 0] 3 (0, 0))).heap.size = W.heap.size + 1 := by simp
        go_wp2_with (first | (at_builtin; go_must (refine Kd.R_append_row (.int .i64) 0 (w0 := W.alloc (.cells #[.int .i64 1, .int .i64 0, .int .i64 0] 3 (0, 0))) (W := W.alloc (.cells #[.int .i64 1, .int .i64 0, .int .i64 0] 3 (0, 0))) w3.heap.size rfl (.tmp 41) (.tmp 57) 22 3 (.int .i64 0) 8 rfl Try.underlying22 info3 rfl (by decide) (.slice A6 0 c6) [] [1, 0, 0] (some ⟨W.heap.size, 0, none⟩) 3 3 (fun _ => True) rfl rfl (fun _ _ => trivial) hRB hr3 (Below.refl _ _) h3B.size (by decide) ?_); intro v18 w18 hR18 hb18 hg18 hat18))
        go_roundw
        case rel => exact ⟨hbB.trans (hb18.mono hws3), h3B.trans hb18, .inr (.inl ⟨rfl, hR18⟩)⟩
        case measure => simp [intOf]
    · obtain ⟨A6, c6, rfl⟩ := Kd.R_slice hR
      obtain ⟨ad1, e1, y0, y1, y2⟩ := at_T40 (Kd.C_below hP hbw) 1 (by omega) (by omega)
      cases e1
      have hm4 := hm3.below hb4
      have hs4 := hm4.lt
      rw [show Int.toNat 1 * 3 = 3 from rfl, show ad1.add 3 = ⟨ad1.block, ad1.off + 3, none⟩ by simp [Addr.add]] at y0 y1 y2
      dsimp only at y1 y2
      change wr.cell? _ = some (.int .i64 5) at y0
      change wr.cell? _ = some (.int .i64 0) at y1
      change wr.cell? _ = some (.int .i64 0) at y2
      have x0 := hm4.cell 0
      have x1 := hm4.cell 1
      have hP5 : Kd.C k40 (wr.alloc (.cells #[.int .i64 5, .int .i64 0, .int .i64 0] 40 (0, 0))) (some ad1) 4 pts := Kd.C_alloc (Kd.C_below hP hbw) _
      have hBp := Blk.here wr 40 #[.int .i64 5, .int .i64 0, .int .i64 0]
      have hm5 := hm4.alloc (.cells #[.int .i64 5, .int .i64 0, .int .i64 0] 40 (0, 0))
      have hR5 := Kd.R_alloc hR (.cells #[.int .i64 5, .int .i64 0, .int .i64 0] 40 (0, 0))
      have hb35 := hb4.alloc hb4.size (.cells #[.int .i64 5, .int .i64 0, .int .i64 0] 40 (0, 0))
      have hbw5 := hbw.alloc hbw.size (.cells #[.int .i64 5, .int .i64 0, .int .i64 0] 40 (0, 0))
      have hCf5 := Kd.C_below hCf3 hb35
      have hgp : wr.heap.size < (wr.alloc (.cells #[.int .i64 5, .int .i64 0, .int .i64 0] 40 (0, 0))).heap.size := hBp.lt
      clear hR hm4 hb4 hbw
      go_wp2_with fail
      clear x0 x1 y0 y1 y2
      generalize hww : wr.alloc (.cells #[.int .i64 5, .int .i64 0, .int .i64 0] 40 (0, 0)) = w5 at *
      generalize hgg : wr.heap.size = gp at *
      obtain ⟨ad2, e2, v0, v1, v2⟩ := at_T36 (A := Af) hCf5 1 (by decide) (by decide)
      cases e2
      rw [show Int.toNat 1 * 3 = 3 from rfl, show ad2.add 3 = ⟨ad2.block, ad2.off + 3, none⟩ by simp [Addr.add]] at v0 v1 v2
      dsimp only at v1 v2
      change w5.drew.cell? _ = some (.int .i64 0) at v0
      change w5.drew.cell? _ = some (.int .i64 0) at v1
      change w5.drew.cell? _ = some (.int .i64 0) at v2
      have x0 := hm5.drew.cell 0
      have hf1 := Lib.hid (fold23 w5.drew _ (Kd.C_drew hP5) ⟨0, 0, 0⟩ ⟨1, 0, 0⟩ fo1)
      have hf2 := Lib.hid (fold23 (w5.drew.alloc (.cells #[.int .i64 0, .int .i64 0, .int .i64 0] 40 (0, 0))) _ (Kd.C_alloc (Kd.C_drew hP5) _) ⟨0, 0, 0⟩ ⟨1, 0, 0⟩ fo1)
      have x0' := (hm5.drew.alloc (.cells #[.int .i64 0, .int .i64 0, .int .i64 0] 40 (0, 0))).cell 0
      have v0' := (cell_alloc_ w5.drew (.cells #[.int .i64 0, .int .i64 0, .int .i64 0] 40 (0, 0)) v0)
      have v1' := (cell_alloc_ w5.drew (.cells #[.int .i64 0, .int .i64 0, .int .i64 0] 40 (0, 0)) v1)
      have v2' := (cell_alloc_ w5.drew (.cells #[.int .i64 0, .int .i64 0, .int .i64 0] 40 (0, 0)) v2)
      have hzz := Blk.here w5.drew 40 #[.int .i64 0, .int .i64 0, .int .i64 0]
      have hs5 : w5.drew.heap.size = w5.heap.size := rfl
      rw [hs5] at hzz
      go_region_held3 (fun w' => w'.cell? ⟨w.heap.size, 0, none⟩ = some (.slice (some ad1) 4 4) ∧ w'.cell? ⟨ad2.block, ad2.off + 3, none⟩ = some (.int .i64 0) ∧ w'.cell? ⟨ad2.block, ad2.off + 3 + 1, none⟩ = some (.int .i64 0) ∧ w'.cell? ⟨ad2.block, ad2.off + 3 + 2, none⟩ = some (.int .i64 0)) (first | exact ⟨x0, v0, v1, v2⟩ | exact ⟨x0', v0', v1', v2'⟩ | exact kp6 | exact kr6 | exact ks6 | exact kq6 | (fail "keep"))
        (first | (go_at_call 23; refine hf1.out.mono ?_; rintro e w6 ⟨rfl, hb6⟩; have kp6 := cell4_below hb6 ⟨x0, v0, v1, v2⟩; have hbA : Below w5.heap.size w5.drew w6 := hb6; have hs6 : w5.heap.size ≤ w6.heap.size := hbA.size; have kr6 := cell4_alloc w6 (.cells #[.int .i64 0, .int .i64 0, .int .i64 0] 40 (0, 0)) kp6; have ks6 := cell4_alloc w6 (.cells #[.int .i64 1, .int .i64 0, .int .i64 0] 40 (0, 0)) kp6) | (go_at_call 23; refine hf2.out.mono ?_; rintro e w6 ⟨rfl, hb6⟩; have hz6 := hzz.below hb6; have q0 := hz6.cell 0; have q1 := hz6.cell 1; have q2 := hz6.cell 2; have f0 := hz6.frozen 0; have f1 := (hz6.set_ 0 (.int .i64 1)).frozen 1; have f2 := ((hz6.set_ 0 (.int .i64 1)).set_ 1 (.int .i64 0)).frozen 2; have kp6 := cell4_below hb6 ⟨x0', v0', v1', v2'⟩; have hbA : Below w5.heap.size w5.drew w6 := (Below.alloc (Below.refl w5.heap.size w5.drew) (Nat.le_refl _) (.cells #[.int .i64 0, .int .i64 0, .int .i64 0] 40 (0, 0))).trans (hb6.mono (by simp)); have kq6 := cell4_below (w := w5.drew) (((hbA.setCell (p := ⟨w5.heap.size, 0, none⟩) (by show w5.heap.size ≤ _; first | exact Nat.le_refl _ | omega) (.int .i64 1)).setCell (p := ⟨w5.heap.size, 1, none⟩) (by show w5.heap.size ≤ _; first | exact Nat.le_refl _ | omega) (.int .i64 0)).setCell (p := ⟨w5.heap.size, 2, none⟩) (by show w5.heap.size ≤ _; first | exact Nat.le_refl _ | omega) (.int .i64 0)) ⟨x0, v0, v1, v2⟩))
      · have hbW := hbA.alloc hs6 (.cells #[.int .i64 1, .int .i64 0, .int .i64 0] 40 (0, 0))
        have hBx := Blk.here w6 40 #[.int .i64 1, .int .i64 0, .int .i64 0]
        have hgx : w5.heap.size ≤ w6.heap.size := hs6
        clear kp6 kr6 ks6 x0 x0' v0 v0' v1 v1' v2 v2' hf1 hf2 hzz hs6 hbA hb6
        generalize w6.alloc (.cells #[.int .i64 1, .int .i64 0, .int .i64 0] 40 (0, 0)) = W at *
        generalize w6.heap.size = gx at *
        have hmW := hm5.drew.below hbW
        have hRW := Kd.R_below (Kd.R_drew hR5) hbW
        have hpW := hBp.drew.below hbW
        have h3W := hb35.drew.trans (hbW.mono (by have := hb35.size; exact this))
        have hwW := hbw5.drew.trans (hbW.mono (by have := hbw5.size; exact this))
        clear hbW hm5 hR5 hBp hb35 hbw5 hP5 hCf5
        have p0 := hpW.cell 0
        have p1 := hpW.cell 1
        have p2 := hpW.cell 2
        have q0 := hBx.cell 0
        have q1 := hBx.cell 1
        have q2 := hBx.cell 2
        have hRB := Kd.R_alloc hRW (.cells #[.int .i64 4, .int .i64 0, .int .i64 0] 3 (0, 0))
        have hr3 := row3 W 4 0 0
        have hbB := hwW.alloc hwW.size (.cells #[.int .i64 4, .int .i64 0, .int .i64 0] 3 (0, 0))
        have h3B := h3W.alloc h3W.size (.cells #[.int .i64 4, .int .i64 0, .int .i64 0] 3 (0, 0))
        have hsB := hbB.size
        have hBZ : (W.alloc (.cells #[.int .i64 4, .int .i64 0, .int .i64 0] 3 (0, 0))).heap.size = W.heap.size + 1 := by simp
        go_wp2_with (first | (at_builtin; go_must (refine Kd.R_append_row (.int .i64) 0 (w0 := W.alloc (.cells #[.int .i64 4, .int .i64 0, .int .i64 0] 3 (0, 0))) (W := W.alloc (.cells #[.int .i64 4, .int .i64 0, .int .i64 0] 3 (0, 0))) w3.heap.size rfl (.tmp 41) (.tmp 57) 22 3 (.int .i64 0) 8 rfl Try.underlying22 info3 rfl (by decide) (.slice A6 3 c6) [1, 0, 0] [4, 0, 0] (some ⟨W.heap.size, 0, none⟩) 3 3 (fun _ => True) rfl rfl (fun _ _ => trivial) hRB hr3 (Below.refl _ _) h3B.size (by decide) ?_); intro v18 w18 hR18 hb18 hg18 hat18))
        go_roundw
        case rel => exact ⟨hbB.trans (hb18.mono hws3), h3B.trans hb18, .inr (.inr (.inl ⟨rfl, hR18⟩))⟩
        case measure => simp [intOf]
      · have hbW := ((hbA.setCell (p := ⟨w5.heap.size, 0, none⟩) (Nat.le_refl _) (.int .i64 1)).setCell (p := ⟨w5.heap.size, 1, none⟩) (Nat.le_refl _) (.int .i64 0)).setCell (p := ⟨w5.heap.size, 2, none⟩) (Nat.le_refl _) (.int .i64 0)
        have hBx := ((hz6.set_ 0 (.int .i64 1)).set_ 1 (.int .i64 0)).set_ 2 (.int .i64 0)
        have hgx : w5.heap.size ≤ w5.heap.size := Nat.le_refl _
        clear kp6 kq6 x0 x0' v0 v0' v1 v1' v2 v2' hf1 hf2 hzz hbA hb6 q0 q1 q2 f0 f1 f2 hz6
        generalize ((w6.setCell ⟨w5.heap.size, 0, none⟩ (.int .i64 1)).setCell ⟨w5.heap.size, 1, none⟩ (.int .i64 0)).setCell ⟨w5.heap.size, 2, none⟩ (.int .i64 0) = W at *
        generalize hgx5 : w5.heap.size = gx at hBx hgx ⊢
        have hmW := hm5.drew.below hbW
        have hRW := Kd.R_below (Kd.R_drew hR5) hbW
        have hpW := hBp.drew.below hbW
        have h3W := hb35.drew.trans (hbW.mono (by have := hb35.size; exact this))
        have hwW := hbw5.drew.trans (hbW.mono (by have := hbw5.size; exact this))
        clear hbW hm5 hR5 hBp hb35 hbw5 hP5 hCf5
        have p0 := hpW.cell 0
        have p1 := hpW.cell 1
        have p2 := hpW.cell 2
        have q0 := hBx.cell 0
        have q1 := hBx.cell 1
        have q2 := hBx.cell 2
        have hRB := Kd.R_alloc hRW (.cells #[.int .i64 4, .int .i64 0, .int .i64 0] 3 (0, 0))
        have hr3 := row3 W 4 0 0
        have hbB := hwW.alloc hwW.size (.cells #[.int .i64 4, .int .i64 0, .int .i64 0] 3 (0, 0))
        have h3B := h3W.alloc h3W.size (.cells #[.int .i64 4, .int .i64 0, .int .i64 0] 3 (0, 0))
        have hsB := hbB.size
        have hBZ : (W.alloc (.cells #[.int .i64 4, .int .i64 0, .int .i64 0] 3 (0, 0))).heap.size = W.heap.size + 1 := by simp
        go_wp2_with (first | (at_builtin; go_must (refine Kd.R_append_row (.int .i64) 0 (w0 := W.alloc (.cells #[.int .i64 4, .int .i64 0, .int .i64 0] 3 (0, 0))) (W := W.alloc (.cells #[.int .i64 4, .int .i64 0, .int .i64 0] 3 (0, 0))) w3.heap.size rfl (.tmp 41) (.tmp 57) 22 3 (.int .i64 0) 8 rfl Try.underlying22 info3 rfl (by decide) (.slice A6 3 c6) [1, 0, 0] [4, 0, 0] (some ⟨W.heap.size, 0, none⟩) 3 3 (fun _ => True) rfl rfl (fun _ _ => trivial) hRB hr3 (Below.refl _ _) h3B.size (by decide) ?_); intro v18 w18 hR18 hb18 hg18 hat18))
        go_roundw
        case rel => exact ⟨hbB.trans (hb18.mono hws3), h3B.trans hb18, .inr (.inr (.inl ⟨rfl, hR18⟩))⟩
        case measure => simp [intOf]
    · obtain ⟨A6, c6, rfl⟩ := Kd.R_slice hR
      obtain ⟨ad1, e1, y0, y1, y2⟩ := at_T40 (Kd.C_below hP hbw) 2 (by omega) (by omega)
      cases e1
      have hm4 := hm3.below hb4
      have hs4 := hm4.lt
      rw [show Int.toNat 2 * 3 = 6 from rfl, show ad1.add 6 = ⟨ad1.block, ad1.off + 6, none⟩ by simp [Addr.add]] at y0 y1 y2
      dsimp only at y1 y2
      change wr.cell? _ = some (.int .i64 2) at y0
      change wr.cell? _ = some (.int .i64 7) at y1
      change wr.cell? _ = some (.int .i64 0) at y2
      have x0 := hm4.cell 0
      have x1 := hm4.cell 1
      have hP5 : Kd.C k40 (wr.alloc (.cells #[.int .i64 2, .int .i64 7, .int .i64 0] 40 (0, 0))) (some ad1) 4 pts := Kd.C_alloc (Kd.C_below hP hbw) _
      have hBp := Blk.here wr 40 #[.int .i64 2, .int .i64 7, .int .i64 0]
      have hm5 := hm4.alloc (.cells #[.int .i64 2, .int .i64 7, .int .i64 0] 40 (0, 0))
      have hR5 := Kd.R_alloc hR (.cells #[.int .i64 2, .int .i64 7, .int .i64 0] 40 (0, 0))
      have hb35 := hb4.alloc hb4.size (.cells #[.int .i64 2, .int .i64 7, .int .i64 0] 40 (0, 0))
      have hbw5 := hbw.alloc hbw.size (.cells #[.int .i64 2, .int .i64 7, .int .i64 0] 40 (0, 0))
      have hCf5 := Kd.C_below hCf3 hb35
      have hgp : wr.heap.size < (wr.alloc (.cells #[.int .i64 2, .int .i64 7, .int .i64 0] 40 (0, 0))).heap.size := hBp.lt
      clear hR hm4 hb4 hbw
      go_wp2_with fail
      clear x0 x1 y0 y1 y2
      generalize hww : wr.alloc (.cells #[.int .i64 2, .int .i64 7, .int .i64 0] 40 (0, 0)) = w5 at *
      generalize hgg : wr.heap.size = gp at *
      obtain ⟨ad2, e2, v0, v1, v2⟩ := at_T36 (A := Af) hCf5 2 (by decide) (by decide)
      cases e2
      rw [show Int.toNat 2 * 3 = 6 from rfl, show ad2.add 6 = ⟨ad2.block, ad2.off + 6, none⟩ by simp [Addr.add]] at v0 v1 v2
      dsimp only at v1 v2
      change w5.drew.cell? _ = some (.int .i64 1) at v0
      change w5.drew.cell? _ = some (.int .i64 1) at v1
      change w5.drew.cell? _ = some (.int .i64 1) at v2
      have x0 := hm5.drew.cell 0
      have hf1 := Lib.hid (fold23 w5.drew _ (Kd.C_drew hP5) ⟨1, 1, 1⟩ ⟨5, 0, 0⟩ fo2)
      have hf2 := Lib.hid (fold23 (w5.drew.alloc (.cells #[.int .i64 0, .int .i64 0, .int .i64 0] 40 (0, 0))) _ (Kd.C_alloc (Kd.C_drew hP5) _) ⟨1, 1, 1⟩ ⟨5, 0, 0⟩ fo2)
      have x0' := (hm5.drew.alloc (.cells #[.int .i64 0, .int .i64 0, .int .i64 0] 40 (0, 0))).cell 0
      have v0' := (cell_alloc_ w5.drew (.cells #[.int .i64 0, .int .i64 0, .int .i64 0] 40 (0, 0)) v0)
      have v1' := (cell_alloc_ w5.drew (.cells #[.int .i64 0, .int .i64 0, .int .i64 0] 40 (0, 0)) v1)
      have v2' := (cell_alloc_ w5.drew (.cells #[.int .i64 0, .int .i64 0, .int .i64 0] 40 (0, 0)) v2)
      have hzz := Blk.here w5.drew 40 #[.int .i64 0, .int .i64 0, .int .i64 0]
      have hs5 : w5.drew.heap.size = w5.heap.size := rfl
      rw [hs5] at hzz
      go_region_held3 (fun w' => w'.cell? ⟨w.heap.size, 0, none⟩ = some (.slice (some ad1) 4 4) ∧ w'.cell? ⟨ad2.block, ad2.off + 6, none⟩ = some (.int .i64 1) ∧ w'.cell? ⟨ad2.block, ad2.off + 6 + 1, none⟩ = some (.int .i64 1) ∧ w'.cell? ⟨ad2.block, ad2.off + 6 + 2, none⟩ = some (.int .i64 1)) (first | exact ⟨x0, v0, v1, v2⟩ | exact ⟨x0', v0', v1', v2'⟩ | exact kp6 | exact kr6 | exact ks6 | exact kq6 | (fail "keep"))
        (first | (go_at_call 23; refine hf1.out.mono ?_; rintro e w6 ⟨rfl, hb6⟩; have kp6 := cell4_below hb6 ⟨x0, v0, v1, v2⟩; have hbA : Below w5.heap.size w5.drew w6 := hb6; have hs6 : w5.heap.size ≤ w6.heap.size := hbA.size; have kr6 := cell4_alloc w6 (.cells #[.int .i64 0, .int .i64 0, .int .i64 0] 40 (0, 0)) kp6; have ks6 := cell4_alloc w6 (.cells #[.int .i64 5, .int .i64 0, .int .i64 0] 40 (0, 0)) kp6) | (go_at_call 23; refine hf2.out.mono ?_; rintro e w6 ⟨rfl, hb6⟩; have hz6 := hzz.below hb6; have q0 := hz6.cell 0; have q1 := hz6.cell 1; have q2 := hz6.cell 2; have f0 := hz6.frozen 0; have f1 := (hz6.set_ 0 (.int .i64 5)).frozen 1; have f2 := ((hz6.set_ 0 (.int .i64 5)).set_ 1 (.int .i64 0)).frozen 2; have kp6 := cell4_below hb6 ⟨x0', v0', v1', v2'⟩; have hbA : Below w5.heap.size w5.drew w6 := (Below.alloc (Below.refl w5.heap.size w5.drew) (Nat.le_refl _) (.cells #[.int .i64 0, .int .i64 0, .int .i64 0] 40 (0, 0))).trans (hb6.mono (by simp)); have kq6 := cell4_below (w := w5.drew) (((hbA.setCell (p := ⟨w5.heap.size, 0, none⟩) (by show w5.heap.size ≤ _; first | exact Nat.le_refl _ | omega) (.int .i64 5)).setCell (p := ⟨w5.heap.size, 1, none⟩) (by show w5.heap.size ≤ _; first | exact Nat.le_refl _ | omega) (.int .i64 0)).setCell (p := ⟨w5.heap.size, 2, none⟩) (by show w5.heap.size ≤ _; first | exact Nat.le_refl _ | omega) (.int .i64 0)) ⟨x0, v0, v1, v2⟩))
      · have hbW := hbA.alloc hs6 (.cells #[.int .i64 5, .int .i64 0, .int .i64 0] 40 (0, 0))
        have hBx := Blk.here w6 40 #[.int .i64 5, .int .i64 0, .int .i64 0]
        have hgx : w5.heap.size ≤ w6.heap.size := hs6
        clear kp6 kr6 ks6 x0 x0' v0 v0' v1 v1' v2 v2' hf1 hf2 hzz hs6 hbA hb6
        generalize w6.alloc (.cells #[.int .i64 5, .int .i64 0, .int .i64 0] 40 (0, 0)) = W at *
        generalize w6.heap.size = gx at *
        have hmW := hm5.drew.below hbW
        have hRW := Kd.R_below (Kd.R_drew hR5) hbW
        have hpW := hBp.drew.below hbW
        have h3W := hb35.drew.trans (hbW.mono (by have := hb35.size; exact this))
        have hwW := hbw5.drew.trans (hbW.mono (by have := hbw5.size; exact this))
        clear hbW hm5 hR5 hBp hb35 hbw5 hP5 hCf5
        have p0 := hpW.cell 0
        have p1 := hpW.cell 1
        have p2 := hpW.cell 2
        have q0 := hBx.cell 0
        have q1 := hBx.cell 1
        have q2 := hBx.cell 2
        have hRB := Kd.R_alloc hRW (.cells #[.int .i64 (-3), .int .i64 7, .int .i64 0] 3 (0, 0))
        have hr3 := row3 W (-3) 7 0
        have hbB := hwW.alloc hwW.size (.cells #[.int .i64 (-3), .int .i64 7, .int .i64 0] 3 (0, 0))
        have h3B := h3W.alloc h3W.size (.cells #[.int .i64 (-3), .int .i64 7, .int .i64 0] 3 (0, 0))
        have hsB := hbB.size
        have hBZ : (W.alloc (.cells #[.int .i64 (-3), .int .i64 7, .int .i64 0] 3 (0, 0))).heap.size = W.heap.size + 1 := by simp
        go_wp2_with (first | (at_builtin; go_must (refine Kd.R_append_row (.int .i64) 0 (w0 := W.alloc (.cells #[.int .i64 (-3), .int .i64 7, .int .i64 0] 3 (0, 0))) (W := W.alloc (.cells #[.int .i64 (-3), .int .i64 7, .int .i64 0] 3 (0, 0))) w3.heap.size rfl (.tmp 41) (.tmp 57) 22 3 (.int .i64 0) 8 rfl Try.underlying22 info3 rfl (by decide) (.slice A6 6 c6) [1, 0, 0, 4, 0, 0] [-3, 7, 0] (some ⟨W.heap.size, 0, none⟩) 3 3 (fun _ => True) rfl rfl (fun _ _ => trivial) hRB hr3 (Below.refl _ _) h3B.size (by decide) ?_); intro v18 w18 hR18 hb18 hg18 hat18))
        go_roundw
        case rel => exact ⟨hbB.trans (hb18.mono hws3), h3B.trans hb18, .inr (.inr (.inr (.inl ⟨rfl, hR18⟩)))⟩
        case measure => simp [intOf]
      · have hbW := ((hbA.setCell (p := ⟨w5.heap.size, 0, none⟩) (Nat.le_refl _) (.int .i64 5)).setCell (p := ⟨w5.heap.size, 1, none⟩) (Nat.le_refl _) (.int .i64 0)).setCell (p := ⟨w5.heap.size, 2, none⟩) (Nat.le_refl _) (.int .i64 0)
        have hBx := ((hz6.set_ 0 (.int .i64 5)).set_ 1 (.int .i64 0)).set_ 2 (.int .i64 0)
        have hgx : w5.heap.size ≤ w5.heap.size := Nat.le_refl _
        clear kp6 kq6 x0 x0' v0 v0' v1 v1' v2 v2' hf1 hf2 hzz hbA hb6 q0 q1 q2 f0 f1 f2 hz6
        generalize ((w6.setCell ⟨w5.heap.size, 0, none⟩ (.int .i64 5)).setCell ⟨w5.heap.size, 1, none⟩ (.int .i64 0)).setCell ⟨w5.heap.size, 2, none⟩ (.int .i64 0) = W at *
        generalize hgx5 : w5.heap.size = gx at hBx hgx ⊢
        have hmW := hm5.drew.below hbW
        have hRW := Kd.R_below (Kd.R_drew hR5) hbW
        have hpW := hBp.drew.below hbW
        have h3W := hb35.drew.trans (hbW.mono (by have := hb35.size; exact this))
        have hwW := hbw5.drew.trans (hbW.mono (by have := hbw5.size; exact this))
        clear hbW hm5 hR5 hBp hb35 hbw5 hP5 hCf5
        have p0 := hpW.cell 0
        have p1 := hpW.cell 1
        have p2 := hpW.cell 2
        have q0 := hBx.cell 0
        have q1 := hBx.cell 1
        have q2 := hBx.cell 2
        have hRB := Kd.R_alloc hRW (.cells #[.int .i64 (-3), .int .i64 7, .int .i64 0] 3 (0, 0))
        have hr3 := row3 W (-3) 7 0
        have hbB := hwW.alloc hwW.size (.cells #[.int .i64 (-3), .int .i64 7, .int .i64 0] 3 (0, 0))
        have h3B := h3W.alloc h3W.size (.cells #[.int .i64 (-3), .int .i64 7, .int .i64 0] 3 (0, 0))
        have hsB := hbB.size
        have hBZ : (W.alloc (.cells #[.int .i64 (-3), .int .i64 7, .int .i64 0] 3 (0, 0))).heap.size = W.heap.size + 1 := by simp
        go_wp2_with (first | (at_builtin; go_must (refine Kd.R_append_row (.int .i64) 0 (w0 := W.alloc (.cells #[.int .i64 (-3), .int .i64 7, .int .i64 0] 3 (0, 0))) (W := W.alloc (.cells #[.int .i64 (-3), .int .i64 7, .int .i64 0] 3 (0, 0))) w3.heap.size rfl (.tmp 41) (.tmp 57) 22 3 (.int .i64 0) 8 rfl Try.underlying22 info3 rfl (by decide) (.slice A6 6 c6) [1, 0, 0, 4, 0, 0] [-3, 7, 0] (some ⟨W.heap.size, 0, none⟩) 3 3 (fun _ => True) rfl rfl (fun _ _ => trivial) hRB hr3 (Below.refl _ _) h3B.size (by decide) ?_); intro v18 w18 hR18 hb18 hg18 hat18))
        go_roundw
        case rel => exact ⟨hbB.trans (hb18.mono hws3), h3B.trans hb18, .inr (.inr (.inr (.inl ⟨rfl, hR18⟩)))⟩
        case measure => simp [intOf]
    · obtain ⟨A6, c6, rfl⟩ := Kd.R_slice hR
      obtain ⟨ad1, e1, y0, y1, y2⟩ := at_T40 (Kd.C_below hP hbw) 3 (by omega) (by omega)
      cases e1
      have hm4 := hm3.below hb4
      have hs4 := hm4.lt
      rw [show Int.toNat 3 * 3 = 9 from rfl, show ad1.add 9 = ⟨ad1.block, ad1.off + 9, none⟩ by simp [Addr.add]] at y0 y1 y2
      dsimp only at y1 y2
      change wr.cell? _ = some (.int .i64 4) at y0
      change wr.cell? _ = some (.int .i64 (-7)) at y1
      change wr.cell? _ = some (.int .i64 0) at y2
      have x0 := hm4.cell 0
      have x1 := hm4.cell 1
      have hP5 : Kd.C k40 (wr.alloc (.cells #[.int .i64 4, .int .i64 (-7), .int .i64 0] 40 (0, 0))) (some ad1) 4 pts := Kd.C_alloc (Kd.C_below hP hbw) _
      have hBp := Blk.here wr 40 #[.int .i64 4, .int .i64 (-7), .int .i64 0]
      have hm5 := hm4.alloc (.cells #[.int .i64 4, .int .i64 (-7), .int .i64 0] 40 (0, 0))
      have hR5 := Kd.R_alloc hR (.cells #[.int .i64 4, .int .i64 (-7), .int .i64 0] 40 (0, 0))
      have hb35 := hb4.alloc hb4.size (.cells #[.int .i64 4, .int .i64 (-7), .int .i64 0] 40 (0, 0))
      have hbw5 := hbw.alloc hbw.size (.cells #[.int .i64 4, .int .i64 (-7), .int .i64 0] 40 (0, 0))
      have hCf5 := Kd.C_below hCf3 hb35
      have hgp : wr.heap.size < (wr.alloc (.cells #[.int .i64 4, .int .i64 (-7), .int .i64 0] 40 (0, 0))).heap.size := hBp.lt
      clear hR hm4 hb4 hbw
      go_wp2_with fail
      clear x0 x1 y0 y1 y2
      generalize hww : wr.alloc (.cells #[.int .i64 4, .int .i64 (-7), .int .i64 0] 40 (0, 0)) = w5 at *
      generalize hgg : wr.heap.size = gp at *
      obtain ⟨ad2, e2, v0, v1, v2⟩ := at_T36 (A := Af) hCf5 3 (by decide) (by decide)
      cases e2
      rw [show Int.toNat 3 * 3 = 9 from rfl, show ad2.add 9 = ⟨ad2.block, ad2.off + 9, none⟩ by simp [Addr.add]] at v0 v1 v2
      dsimp only at v1 v2
      change w5.drew.cell? _ = some (.int .i64 0) at v0
      change w5.drew.cell? _ = some (.int .i64 1) at v1
      change w5.drew.cell? _ = some (.int .i64 2) at v2
      have x0 := hm5.drew.cell 0
      have hf1 := Lib.hid (fold23 w5.drew _ (Kd.C_drew hP5) ⟨0, 1, 2⟩ ⟨4, -7, 0⟩ fo3)
      have hf2 := Lib.hid (fold23 (w5.drew.alloc (.cells #[.int .i64 0, .int .i64 0, .int .i64 0] 40 (0, 0))) _ (Kd.C_alloc (Kd.C_drew hP5) _) ⟨0, 1, 2⟩ ⟨4, -7, 0⟩ fo3)
      have x0' := (hm5.drew.alloc (.cells #[.int .i64 0, .int .i64 0, .int .i64 0] 40 (0, 0))).cell 0
      have v0' := (cell_alloc_ w5.drew (.cells #[.int .i64 0, .int .i64 0, .int .i64 0] 40 (0, 0)) v0)
      have v1' := (cell_alloc_ w5.drew (.cells #[.int .i64 0, .int .i64 0, .int .i64 0] 40 (0, 0)) v1)
      have v2' := (cell_alloc_ w5.drew (.cells #[.int .i64 0, .int .i64 0, .int .i64 0] 40 (0, 0)) v2)
      have hzz := Blk.here w5.drew 40 #[.int .i64 0, .int .i64 0, .int .i64 0]
      have hs5 : w5.drew.heap.size = w5.heap.size := rfl
      rw [hs5] at hzz
      go_region_held3 (fun w' => w'.cell? ⟨w.heap.size, 0, none⟩ = some (.slice (some ad1) 4 4) ∧ w'.cell? ⟨ad2.block, ad2.off + 9, none⟩ = some (.int .i64 0) ∧ w'.cell? ⟨ad2.block, ad2.off + 9 + 1, none⟩ = some (.int .i64 1) ∧ w'.cell? ⟨ad2.block, ad2.off + 9 + 2, none⟩ = some (.int .i64 2)) (first | exact ⟨x0, v0, v1, v2⟩ | exact ⟨x0', v0', v1', v2'⟩ | exact kp6 | exact kr6 | exact ks6 | exact kq6 | (fail "keep"))
        (first | (go_at_call 23; refine hf1.out.mono ?_; rintro e w6 ⟨rfl, hb6⟩; have kp6 := cell4_below hb6 ⟨x0, v0, v1, v2⟩; have hbA : Below w5.heap.size w5.drew w6 := hb6; have hs6 : w5.heap.size ≤ w6.heap.size := hbA.size; have kr6 := cell4_alloc w6 (.cells #[.int .i64 0, .int .i64 0, .int .i64 0] 40 (0, 0)) kp6; have ks6 := cell4_alloc w6 (.cells #[.int .i64 4, .int .i64 (-7), .int .i64 0] 40 (0, 0)) kp6) | (go_at_call 23; refine hf2.out.mono ?_; rintro e w6 ⟨rfl, hb6⟩; have hz6 := hzz.below hb6; have q0 := hz6.cell 0; have q1 := hz6.cell 1; have q2 := hz6.cell 2; have f0 := hz6.frozen 0; have f1 := (hz6.set_ 0 (.int .i64 4)).frozen 1; have f2 := ((hz6.set_ 0 (.int .i64 4)).set_ 1 (.int .i64 (-7))).frozen 2; have kp6 := cell4_below hb6 ⟨x0', v0', v1', v2'⟩; have hbA : Below w5.heap.size w5.drew w6 := (Below.alloc (Below.refl w5.heap.size w5.drew) (Nat.le_refl _) (.cells #[.int .i64 0, .int .i64 0, .int .i64 0] 40 (0, 0))).trans (hb6.mono (by simp)); have kq6 := cell4_below (w := w5.drew) (((hbA.setCell (p := ⟨w5.heap.size, 0, none⟩) (by show w5.heap.size ≤ _; first | exact Nat.le_refl _ | omega) (.int .i64 4)).setCell (p := ⟨w5.heap.size, 1, none⟩) (by show w5.heap.size ≤ _; first | exact Nat.le_refl _ | omega) (.int .i64 (-7))).setCell (p := ⟨w5.heap.size, 2, none⟩) (by show w5.heap.size ≤ _; first | exact Nat.le_refl _ | omega) (.int .i64 0)) ⟨x0, v0, v1, v2⟩))
      · have hbW := hbA.alloc hs6 (.cells #[.int .i64 4, .int .i64 (-7), .int .i64 0] 40 (0, 0))
        have hBx := Blk.here w6 40 #[.int .i64 4, .int .i64 (-7), .int .i64 0]
        have hgx : w5.heap.size ≤ w6.heap.size := hs6
        clear kp6 kr6 ks6 x0 x0' v0 v0' v1 v1' v2 v2' hf1 hf2 hzz hs6 hbA hb6
        generalize w6.alloc (.cells #[.int .i64 4, .int .i64 (-7), .int .i64 0] 40 (0, 0)) = W at *
        generalize w6.heap.size = gx at *
        have hmW := hm5.drew.below hbW
        have hRW := Kd.R_below (Kd.R_drew hR5) hbW
        have hpW := hBp.drew.below hbW
        have h3W := hb35.drew.trans (hbW.mono (by have := hb35.size; exact this))
        have hwW := hbw5.drew.trans (hbW.mono (by have := hbw5.size; exact this))
        clear hbW hm5 hR5 hBp hb35 hbw5 hP5 hCf5
        have p0 := hpW.cell 0
        have p1 := hpW.cell 1
        have p2 := hpW.cell 2
        have q0 := hBx.cell 0
        have q1 := hBx.cell 1
        have q2 := hBx.cell 2
        have hRB := Kd.R_alloc hRW (.cells #[.int .i64 0, .int .i64 0, .int .i64 0] 3 (0, 0))
        have hr3 := row3 W 0 0 0
        have hbB := hwW.alloc hwW.size (.cells #[.int .i64 0, .int .i64 0, .int .i64 0] 3 (0, 0))
        have h3B := h3W.alloc h3W.size (.cells #[.int .i64 0, .int .i64 0, .int .i64 0] 3 (0, 0))
        have hsB := hbB.size
        have hBZ : (W.alloc (.cells #[.int .i64 0, .int .i64 0, .int .i64 0] 3 (0, 0))).heap.size = W.heap.size + 1 := by simp
        go_wp2_with (first | (at_builtin; go_must (refine Kd.R_append_row (.int .i64) 0 (w0 := W.alloc (.cells #[.int .i64 0, .int .i64 0, .int .i64 0] 3 (0, 0))) (W := W.alloc (.cells #[.int .i64 0, .int .i64 0, .int .i64 0] 3 (0, 0))) w3.heap.size rfl (.tmp 41) (.tmp 57) 22 3 (.int .i64 0) 8 rfl Try.underlying22 info3 rfl (by decide) (.slice A6 9 c6) [1, 0, 0, 4, 0, 0, -3, 7, 0] [0, 0, 0] (some ⟨W.heap.size, 0, none⟩) 3 3 (fun _ => True) rfl rfl (fun _ _ => trivial) hRB hr3 (Below.refl _ _) h3B.size (by decide) ?_); intro v18 w18 hR18 hb18 hg18 hat18))
        go_roundw
        case rel => exact ⟨hbB.trans (hb18.mono hws3), h3B.trans hb18, .inr (.inr (.inr (.inr (⟨rfl, hR18⟩))))⟩
        case measure => simp [intOf]
      · have hbW := ((hbA.setCell (p := ⟨w5.heap.size, 0, none⟩) (Nat.le_refl _) (.int .i64 4)).setCell (p := ⟨w5.heap.size, 1, none⟩) (Nat.le_refl _) (.int .i64 (-7))).setCell (p := ⟨w5.heap.size, 2, none⟩) (Nat.le_refl _) (.int .i64 0)
        have hBx := ((hz6.set_ 0 (.int .i64 4)).set_ 1 (.int .i64 (-7))).set_ 2 (.int .i64 0)
        have hgx : w5.heap.size ≤ w5.heap.size := Nat.le_refl _
        clear kp6 kq6 x0 x0' v0 v0' v1 v1' v2 v2' hf1 hf2 hzz hbA hb6 q0 q1 q2 f0 f1 f2 hz6
        generalize ((w6.setCell ⟨w5.heap.size, 0, none⟩ (.int .i64 4)).setCell ⟨w5.heap.size, 1, none⟩ (.int .i64 (-7))).setCell ⟨w5.heap.size, 2, none⟩ (.int .i64 0) = W at *
        generalize hgx5 : w5.heap.size = gx at hBx hgx ⊢
        have hmW := hm5.drew.below hbW
        have hRW := Kd.R_below (Kd.R_drew hR5) hbW
        have hpW := hBp.drew.below hbW
        have h3W := hb35.drew.trans (hbW.mono (by have := hb35.size; exact this))
        have hwW := hbw5.drew.trans (hbW.mono (by have := hbw5.size; exact this))
        clear hbW hm5 hR5 hBp hb35 hbw5 hP5 hCf5
        have p0 := hpW.cell 0
        have p1 := hpW.cell 1
        have p2 := hpW.cell 2
        have q0 := hBx.cell 0
        have q1 := hBx.cell 1
        have q2 := hBx.cell 2
        have hRB := Kd.R_alloc hRW (.cells #[.int .i64 0, .int .i64 0, .int .i64 0] 3 (0, 0))
        have hr3 := row3 W 0 0 0
        have hbB := hwW.alloc hwW.size (.cells #[.int .i64 0, .int .i64 0, .int .i64 0] 3 (0, 0))
        have h3B := h3W.alloc h3W.size (.cells #[.int .i64 0, .int .i64 0, .int .i64 0] 3 (0, 0))
        have hsB := hbB.size
        have hBZ : (W.alloc (.cells #[.int .i64 0, .int .i64 0, .int .i64 0] 3 (0, 0))).heap.size = W.heap.size + 1 := by simp
        go_wp2_with (first | (at_builtin; go_must (refine Kd.R_append_row (.int .i64) 0 (w0 := W.alloc (.cells #[.int .i64 0, .int .i64 0, .int .i64 0] 3 (0, 0))) (W := W.alloc (.cells #[.int .i64 0, .int .i64 0, .int .i64 0] 3 (0, 0))) w3.heap.size rfl (.tmp 41) (.tmp 57) 22 3 (.int .i64 0) 8 rfl Try.underlying22 info3 rfl (by decide) (.slice A6 9 c6) [1, 0, 0, 4, 0, 0, -3, 7, 0] [0, 0, 0] (some ⟨W.heap.size, 0, none⟩) 3 3 (fun _ => True) rfl rfl (fun _ _ => trivial) hRB hr3 (Below.refl _ _) h3B.size (by decide) ?_); intro v18 w18 hR18 hb18 hg18 hat18))
        go_roundw
        case rel => exact ⟨hbB.trans (hb18.mono hws3), h3B.trans hb18, .inr (.inr (.inr (.inr (⟨rfl, hR18⟩))))⟩
        case measure => simp [intOf]
    · go_wp2_with fail
      go_ret2
      exact ⟨_, rfl, Kd.R_lower hR hws3, hbw⟩
end Go.Proofs.Ytgkncgiemfbglaa.PT
