/- predict.fores at the chapter's example. -/
import Derived.Test.YtgkncgiemfbglaaPEx
namespace Go.Proofs.Ytgkncgiemfbglaa.PT
open Go Go.RowKit Go.Maps Go.WideMaps Go.Proofs.Ytgkncgiemfbglaa.Mem Go.Proofs.Ytgkncgiemfbglaa.PPrd Go.Proofs.YtgkncgiemfbglaaW.PrintWords Go.Proofs.YtgkncgiemfbglaaW.PrintLast Go.Proofs.YtgkncgiemfbglaaW.PrintMore
attribute [local go_sem] max2_int min2_int max_two min_two max_three min_three max_four min_four
set_option linter.unusedVariables false
theorem own_below {w w' : World} {P : Program} {k : TypeId} {R : Value → Option (DataW Unit × List MemPlace)} {b n : Nat} {D : DataW Unit} (h : w.ownsMap P k R b n D) (hb : Below w.heap.size w w') : w'.ownsMap P k R b n D := by
  have hlt := h.lt
  obtain ⟨es, clock, hm, F, hs, hD⟩ := h
  exact ⟨es, clock, (hb.block b hlt).trans hm, F, hs, hD⟩
theorem info36 : (Try.prog.info? 36).map (fun i => (i.zero, i.size, i.bytes)) = some (some (.agg #[.int .i64 0, .int .i64 0, .int .i64 0]), k36.sz, 24) := by kernel_rfl
set_option maxHeartbeats 4000000 in
set_option maxRecDepth 100000 in
theorem fores19 (w : World) (A1 : Option Addr) (c1 : Nat) (hr1 : Kd.C k36 w A1 2 ex) (hc1 : 2 ≤ c1) :
    Calls Try.prog 19 #[.slice A1 2 c1, .int .i64 4] w fun e w' => ∃ v, e = .returned (.tuple #[v, .bool true]) ∧ Kd.R k36 36 w' w.heap.size (fun _ => True) v [⟨-1, -1, -1⟩, ⟨0, 0, 0⟩, ⟨1, 1, 1⟩, ⟨0, 1, 2⟩] ∧ Below w.heap.size w w' := by
  obtain ⟨ad1, e1, _⟩ := at_T36 hr1 0 (by omega) (by omega)
  cases e1
  go_enter Try.func19, Try.ntmps19
  go_wp2_with fail
  go_loopw [15] (fun v wr => Below w.heap.size w wr ∧ (v = .int .i64 0 ∨ v = .int .i64 1 ∨ v = .int .i64 2)) (fun v _ => 2 - (intOf v).toNat)
  case atStart => exact ⟨Below.refl _ _, .inl rfl⟩
  case round =>
    obtain ⟨hb, rfl | rfl | rfl⟩ := hrel
    · obtain ⟨ad2, e2, y0, y1, y2⟩ := at_T36 (Kd.C_below hr1 hb) 0 (by omega) (by omega)
      cases e2
      have ha : ad1.add 0 = ad1 := by simp [Addr.add]
      rw [show Int.toNat 0 * 3 = 0 from rfl, ha] at y0 y1 y2
      change wr.cell? _ = some (.int .i64 0) at y0
      change wr.cell? _ = some (.int .i64 1) at y1
      change wr.cell? _ = some (.int .i64 2) at y2
      have hT := Blk.here wr 36 #[.int .i64 0, .int .i64 1, .int .i64 2]
      have z0 := hT.cell 0
      have z1 := hT.cell 1
      have z2 := hT.cell 2
      go_wp2_with fail
      go_roundw
      case rel => exact ⟨hb.alloc hb.size _, .inr (.inl rfl)⟩
      case measure => simp [intOf]
    · obtain ⟨ad2, e2, y0, y1, y2⟩ := at_T36 (Kd.C_below hr1 hb) 1 (by omega) (by omega)
      cases e2
      rw [show Int.toNat 1 * 3 = 3 from rfl, show ad1.add 3 = ⟨ad1.block, ad1.off + 3, none⟩ by simp [Addr.add]] at y0 y1 y2
      dsimp only at y1 y2
      change wr.cell? _ = some (.int .i64 1) at y0
      change wr.cell? _ = some (.int .i64 0) at y1
      change wr.cell? _ = some (.int .i64 3) at y2
      have hT := Blk.here wr 36 #[.int .i64 1, .int .i64 0, .int .i64 3]
      have z0 := hT.cell 0
      have z1 := hT.cell 1
      have z2 := hT.cell 2
      go_wp2_with fail
      go_roundw
      case rel => exact ⟨hb.alloc hb.size _, .inr (.inr rfl)⟩
      case measure => simp [intOf]
    · have hT := Lib.hid (table28 wr (some ad1) ex c1 (Kd.C_below hr1 hb) hc1 ex_wf (by decide) ex_no)
      go_wp2_with fail
      refine hT.out.mono ?_
      rintro e w2 ⟨rfl, hb2, own2⟩
      have hbw2 := hb.trans (hb2.mono hb.size)
      have hF := Lib.hid (firsts36 w2 (some ad1) c1 (Kd.C_below hr1 hbw2))
      clear hT
      go_wp2_with fail
      refine hF.out.mono ?_
      rintro e w3 ⟨g, rfl, hg, hG, hb3⟩
      have own3 := own_below own2 hb3
      have hbw3 := hbw2.trans (hb3.mono hbw2.size)
      have hgw : w.heap.size ≤ g := Nat.le_trans hbw2.size hg
      have hs3 := hbw3.size
      clear hF own2 hb2 hb3 hb hbw2
      generalize wr.heap.size = gm at *
      go_wp2_with fail
      go_loopw [45, 9] (fun v v9 w4 => Below w.heap.size w w4 ∧ Below w3.heap.size w3 w4 ∧ ((v = .int .i64 0 ∧ Kd.R k36 36 w4 w3.heap.size (fun _ => True) v9 []) ∨ (v = .int .i64 1 ∧ Kd.R k36 36 w4 w3.heap.size (fun _ => True) v9 [⟨-1, -1, -1⟩]) ∨ (v = .int .i64 2 ∧ Kd.R k36 36 w4 w3.heap.size (fun _ => True) v9 [⟨-1, -1, -1⟩, ⟨0, 0, 0⟩]) ∨ (v = .int .i64 3 ∧ Kd.R k36 36 w4 w3.heap.size (fun _ => True) v9 [⟨-1, -1, -1⟩, ⟨0, 0, 0⟩, ⟨1, 1, 1⟩]) ∨ (v = .int .i64 4 ∧ Kd.R k36 36 w4 w3.heap.size (fun _ => True) v9 [⟨-1, -1, -1⟩, ⟨0, 0, 0⟩, ⟨1, 1, 1⟩, ⟨0, 1, 2⟩]))) (fun v _ _ => 4 - (intOf v).toNat)
      case atStart => exact ⟨hbw3, Below.refl _ _, .inl ⟨rfl, Kd.R_nil _ _ _ _ _⟩⟩
      case round =>
        clear hbw3
        obtain ⟨hbw, hb4, ⟨rfl, hR⟩ | ⟨rfl, hR⟩ | ⟨rfl, hR⟩ | ⟨rfl, hR⟩ | ⟨rfl, hR⟩⟩ := hrel
        · obtain ⟨A6, c6, rfl⟩ := Kd.R_slice hR
          have own4 := own_below own3 hb4
          have hG4 := hG.below hb4
          have x0 := hG4.cell 0
          have hf := Lib.hid (fore_a wr (some ad1) ex c1 (Kd.C_below hr1 hbw) gm _ _ own4 0 0 (by omega) (by omega) (by omega) (by decide) (by decide) (by decide))
          go_wp2_with fail
          refine hf.out.mono ?_
          rintro e w5 ⟨rfl, hb5⟩
          have hT := Blk.here w5 36 #[.int .i64 (-1), .int .i64 (-1), .int .i64 (-1)]
          have z0 := hT.cell 0
          have z1 := hT.cell 1
          have z2 := hT.cell 2
          have hR5 := Kd.R_alloc (Kd.R_below hR hb5) (.cells #[.int .i64 (-1), .int .i64 (-1), .int .i64 (-1)] 36 (0, 0))
          have hb35 := (hb4.trans (hb5.mono hb4.size)).alloc (hb4.trans (hb5.mono hb4.size)).size (.cells #[.int .i64 (-1), .int .i64 (-1), .int .i64 (-1)] 36 (0, 0))
          have hbw5 := (hbw.trans (hb5.mono hbw.size)).alloc (hbw.trans (hb5.mono hbw.size)).size (.cells #[.int .i64 (-1), .int .i64 (-1), .int .i64 (-1)] 36 (0, 0))
          have hbs := hb35.size
          have hsz6 : (w5.alloc (.cells #[.int .i64 (-1), .int .i64 (-1), .int .i64 (-1)] 36 (0, 0))).heap.size = w5.heap.size + 1 := by simp
          go_wp2_with (first | (at_builtin; go_must (refine Kd.R_append k36 (w0 := (w5.alloc (.cells #[.int .i64 (-1), .int .i64 (-1), .int .i64 (-1)] 36 (0, 0)))) (W := (w5.alloc (.cells #[.int .i64 (-1), .int .i64 (-1), .int .i64 (-1)] 36 (0, 0)))) w3.heap.size rfl (.tmp 64) (.tmp 66) 37 36 (.agg #[.int .i64 0, .int .i64 0, .int .i64 0]) 24 rfl Try.underlying37 info36 rfl (by decide) (by decide) (.slice A6 0 c6) ([] : List S36) ⟨-1, -1, -1⟩ [.int .i64 (-1), .int .i64 (-1), .int .i64 (-1)] (fun _ => True) (fun _ => False) rfl (by rw [hsz6]; rfl) (k36_mkM _ _ _ _) (fun _ hk => hk.elim) (fun _ _ => trivial) hR5 (Below.refl _ _) hbs (by decide) ?_); intro v18 w18 hR18 hb18 hg18 hat18))
          go_roundw
          case rel => exact ⟨hbw5.trans (hb18.mono (by have := hbw.size; omega)), hb35.trans hb18, .inr (.inl ⟨rfl, hR18⟩)⟩
          case measure => simp [intOf]
        · obtain ⟨A6, c6, rfl⟩ := Kd.R_slice hR
          have own4 := own_below own3 hb4
          have hG4 := hG.below hb4
          have x0 := hG4.cell 1
          have hf := Lib.hid (fore_a wr (some ad1) ex c1 (Kd.C_below hr1 hbw) gm _ _ own4 1 0 (by omega) (by omega) (by omega) (by decide) (by decide) (by decide))
          go_wp2_with fail
          refine hf.out.mono ?_
          rintro e w5 ⟨rfl, hb5⟩
          have hT := Blk.here w5 36 #[.int .i64 0, .int .i64 0, .int .i64 0]
          have z0 := hT.cell 0
          have z1 := hT.cell 1
          have z2 := hT.cell 2
          have hR5 := Kd.R_alloc (Kd.R_below hR hb5) (.cells #[.int .i64 0, .int .i64 0, .int .i64 0] 36 (0, 0))
          have hb35 := (hb4.trans (hb5.mono hb4.size)).alloc (hb4.trans (hb5.mono hb4.size)).size (.cells #[.int .i64 0, .int .i64 0, .int .i64 0] 36 (0, 0))
          have hbw5 := (hbw.trans (hb5.mono hbw.size)).alloc (hbw.trans (hb5.mono hbw.size)).size (.cells #[.int .i64 0, .int .i64 0, .int .i64 0] 36 (0, 0))
          have hbs := hb35.size
          have hsz6 : (w5.alloc (.cells #[.int .i64 0, .int .i64 0, .int .i64 0] 36 (0, 0))).heap.size = w5.heap.size + 1 := by simp
          go_wp2_with (first | (at_builtin; go_must (refine Kd.R_append k36 (w0 := (w5.alloc (.cells #[.int .i64 0, .int .i64 0, .int .i64 0] 36 (0, 0)))) (W := (w5.alloc (.cells #[.int .i64 0, .int .i64 0, .int .i64 0] 36 (0, 0)))) w3.heap.size rfl (.tmp 64) (.tmp 66) 37 36 (.agg #[.int .i64 0, .int .i64 0, .int .i64 0]) 24 rfl Try.underlying37 info36 rfl (by decide) (by decide) (.slice A6 1 c6) ([⟨-1, -1, -1⟩] : List S36) ⟨0, 0, 0⟩ [.int .i64 0, .int .i64 0, .int .i64 0] (fun _ => True) (fun _ => False) rfl (by rw [hsz6]; rfl) (k36_mkM _ _ _ _) (fun _ hk => hk.elim) (fun _ _ => trivial) hR5 (Below.refl _ _) hbs (by decide) ?_); intro v18 w18 hR18 hb18 hg18 hat18))
          go_roundw
          case rel => exact ⟨hbw5.trans (hb18.mono (by have := hbw.size; omega)), hb35.trans hb18, .inr (.inr (.inl ⟨rfl, hR18⟩))⟩
          case measure => simp [intOf]
        · obtain ⟨A6, c6, rfl⟩ := Kd.R_slice hR
          have own4 := own_below own3 hb4
          have hG4 := hG.below hb4
          have x0 := hG4.cell 2
          have hf := Lib.hid (fore_b wr (some ad1) ex c1 (Kd.C_below hr1 hbw) gm _ _ own4 2 0 (by omega) (by omega) (by omega) (by decide) (by decide) rfl (ex_has (i := 1) (by decide)) 1 (fun z => ex_at (by decide) z) (by omega))
          go_wp2_with fail
          refine hf.out.mono ?_
          rintro e w5 ⟨rfl, hb5⟩
          have hT := Blk.here w5 36 #[.int .i64 1, .int .i64 1, .int .i64 1]
          have z0 := hT.cell 0
          have z1 := hT.cell 1
          have z2 := hT.cell 2
          have hR5 := Kd.R_alloc (Kd.R_below hR hb5) (.cells #[.int .i64 1, .int .i64 1, .int .i64 1] 36 (0, 0))
          have hb35 := (hb4.trans (hb5.mono hb4.size)).alloc (hb4.trans (hb5.mono hb4.size)).size (.cells #[.int .i64 1, .int .i64 1, .int .i64 1] 36 (0, 0))
          have hbw5 := (hbw.trans (hb5.mono hbw.size)).alloc (hbw.trans (hb5.mono hbw.size)).size (.cells #[.int .i64 1, .int .i64 1, .int .i64 1] 36 (0, 0))
          have hbs := hb35.size
          have hsz6 : (w5.alloc (.cells #[.int .i64 1, .int .i64 1, .int .i64 1] 36 (0, 0))).heap.size = w5.heap.size + 1 := by simp
          go_wp2_with (first | (at_builtin; go_must (refine Kd.R_append k36 (w0 := (w5.alloc (.cells #[.int .i64 1, .int .i64 1, .int .i64 1] 36 (0, 0)))) (W := (w5.alloc (.cells #[.int .i64 1, .int .i64 1, .int .i64 1] 36 (0, 0)))) w3.heap.size rfl (.tmp 64) (.tmp 66) 37 36 (.agg #[.int .i64 0, .int .i64 0, .int .i64 0]) 24 rfl Try.underlying37 info36 rfl (by decide) (by decide) (.slice A6 2 c6) ([⟨-1, -1, -1⟩, ⟨0, 0, 0⟩] : List S36) ⟨1, 1, 1⟩ [.int .i64 1, .int .i64 1, .int .i64 1] (fun _ => True) (fun _ => False) rfl (by rw [hsz6]; rfl) (k36_mkM _ _ _ _) (fun _ hk => hk.elim) (fun _ _ => trivial) hR5 (Below.refl _ _) hbs (by decide) ?_); intro v18 w18 hR18 hb18 hg18 hat18))
          go_roundw
          case rel => exact ⟨hbw5.trans (hb18.mono (by have := hbw.size; omega)), hb35.trans hb18, .inr (.inr (.inr (.inl ⟨rfl, hR18⟩)))⟩
          case measure => simp [intOf]
        · obtain ⟨A6, c6, rfl⟩ := Kd.R_slice hR
          have own4 := own_below own3 hb4
          have hG4 := hG.below hb4
          have x0 := hG4.cell 3
          have hf := Lib.hid (fore_c wr (some ad1) ex c1 (Kd.C_below hr1 hbw) gm _ _ own4 3 1 (by omega) (by omega) (by omega) (by decide) (by decide) rfl (ex_has (i := 0) (by decide)) 0 (fun z => ex_at (by decide) z) (by omega) (by omega) rfl rfl)
          go_wp2_with fail
          refine hf.out.mono ?_
          rintro e w5 ⟨rfl, hb5⟩
          have hT := Blk.here w5 36 #[.int .i64 0, .int .i64 1, .int .i64 2]
          have z0 := hT.cell 0
          have z1 := hT.cell 1
          have z2 := hT.cell 2
          have hR5 := Kd.R_alloc (Kd.R_below hR hb5) (.cells #[.int .i64 0, .int .i64 1, .int .i64 2] 36 (0, 0))
          have hb35 := (hb4.trans (hb5.mono hb4.size)).alloc (hb4.trans (hb5.mono hb4.size)).size (.cells #[.int .i64 0, .int .i64 1, .int .i64 2] 36 (0, 0))
          have hbw5 := (hbw.trans (hb5.mono hbw.size)).alloc (hbw.trans (hb5.mono hbw.size)).size (.cells #[.int .i64 0, .int .i64 1, .int .i64 2] 36 (0, 0))
          have hbs := hb35.size
          have hsz6 : (w5.alloc (.cells #[.int .i64 0, .int .i64 1, .int .i64 2] 36 (0, 0))).heap.size = w5.heap.size + 1 := by simp
          go_wp2_with (first | (at_builtin; go_must (refine Kd.R_append k36 (w0 := (w5.alloc (.cells #[.int .i64 0, .int .i64 1, .int .i64 2] 36 (0, 0)))) (W := (w5.alloc (.cells #[.int .i64 0, .int .i64 1, .int .i64 2] 36 (0, 0)))) w3.heap.size rfl (.tmp 64) (.tmp 66) 37 36 (.agg #[.int .i64 0, .int .i64 0, .int .i64 0]) 24 rfl Try.underlying37 info36 rfl (by decide) (by decide) (.slice A6 3 c6) ([⟨-1, -1, -1⟩, ⟨0, 0, 0⟩, ⟨1, 1, 1⟩] : List S36) ⟨0, 1, 2⟩ [.int .i64 0, .int .i64 1, .int .i64 2] (fun _ => True) (fun _ => False) rfl (by rw [hsz6]; rfl) (k36_mkM _ _ _ _) (fun _ hk => hk.elim) (fun _ _ => trivial) hR5 (Below.refl _ _) hbs (by decide) ?_); intro v18 w18 hR18 hb18 hg18 hat18))
          go_roundw
          case rel => exact ⟨hbw5.trans (hb18.mono (by have := hbw.size; omega)), hb35.trans hb18, .inr (.inr (.inr (.inr (⟨rfl, hR18⟩))))⟩
          case measure => simp [intOf]
        · go_wp2_with fail
          go_ret2
          exact ⟨_, rfl, Kd.R_lower hR hs3, hbw⟩
end Go.Proofs.Ytgkncgiemfbglaa.PT
