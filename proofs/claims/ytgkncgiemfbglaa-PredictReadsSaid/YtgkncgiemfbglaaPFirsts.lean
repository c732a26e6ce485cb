/- predict.firsts at the chapter's example. -/
import Derived.Test.YtgkncgiemfbglaaPRepeat
namespace Go.Proofs.Ytgkncgiemfbglaa.PT
open Go Go.RowKit Go.Proofs.Ytgkncgiemfbglaa.Mem Go.Proofs.Ytgkncgiemfbglaa.PPrd Go.Proofs.YtgkncgiemfbglaaW.PrintWords Go.Proofs.YtgkncgiemfbglaaW.PrintLast Go.Proofs.YtgkncgiemfbglaaW.PrintMore
set_option linter.unusedVariables false
theorem idx36_0 (w : World) (a0 a1 a2 : Value) : (Instr.index 36 (.agg #[a0, a1, a2]) (.int .i64 0)).run Try.prog w = .ok a0 w := by first | rfl | kernel_rfl
theorem idx36_1 (w : World) (a0 a1 a2 : Value) : (Instr.index 36 (.agg #[a0, a1, a2]) (.int .i64 1)).run Try.prog w = .ok a1 w := by first | rfl | kernel_rfl
theorem idx36_2 (w : World) (a0 a1 a2 : Value) : (Instr.index 36 (.agg #[a0, a1, a2]) (.int .i64 2)).run Try.prog w = .ok a2 w := by first | rfl | kernel_rfl
attribute [local go_sem] idx36_0 idx36_1 idx36_2
abbrev ex : List S36 := [⟨0, 1, 2⟩, ⟨1, 0, 3⟩]
set_option maxHeartbeats 4000000 in
set_option maxRecDepth 100000 in
theorem firsts36 (w : World) (A1 : Option Addr) (c1 : Nat) (hr1 : Kd.C k36 w A1 2 ex) :
    Calls Try.prog 36 #[.slice A1 2 c1, .int .i64 4] w fun e w' => ∃ g, e = .returned (.slice (some ⟨g, 0, none⟩) 4 4) ∧ w.heap.size ≤ g ∧ Blk w' g 3 #[.int .i64 0, .int .i64 0, .int .i64 0, .int .i64 1] ∧ Below w.heap.size w w' := by
  have hb1 := (Below.refl w.heap.size w).alloc (Nat.le_refl _) (.cells #[.int .i64 (-1)] 3 (0, 0))
  have hB1 := Blk.here w 3 #[.int .i64 (-1)]
  have hR := Lib.hid (repeat41 (w.alloc (.cells #[.int .i64 (-1)] 3 (0, 0))) ⟨w.heap.size, 0, none⟩ (-1) 1 (hB1.cell 0))
  go_enter Try.func36, Try.ntmps36
  go_wp2_with fail
  refine hR.out.mono ?_
  rintro e w2 ⟨rfl, hB2, hb2⟩
  have hbel := hb1.trans (hb2.mono hb1.size)
  have hg0 : w.heap.size ≤ (w.alloc (.cells #[.int .i64 (-1)] 3 (0, 0))).heap.size := hb1.size
  generalize (w.alloc (.cells #[.int .i64 (-1)] 3 (0, 0))).heap.size = g at *
  clear hR hb1 hB1 hb2
  go_wp2_with fail
  go_loopw [15] (fun v wr => Below w.heap.size w wr ∧ ((v = .int .i64 0 ∧ Blk wr g 3 #[.int .i64 (-1), .int .i64 (-1), .int .i64 (-1), .int .i64 (-1)]) ∨ (v = .int .i64 1 ∧ Blk wr g 3 #[.int .i64 0, .int .i64 0, .int .i64 0, .int .i64 (-1)]) ∨ (v = .int .i64 2 ∧ Blk wr g 3 #[.int .i64 0, .int .i64 0, .int .i64 0, .int .i64 1]))) (fun v _ => 2 - (intOf v).toNat)
  case atStart => exact ⟨hbel, .inl ⟨rfl, hB2⟩⟩
  case round =>
    clear hbel hB2
    obtain ⟨hb, ⟨rfl, hB⟩ | ⟨rfl, hB⟩ | ⟨rfl, hB⟩⟩ := hrel
    · obtain ⟨ad1, e1, y0, y1, y2⟩ := at_T36 (Kd.C_below hr1 hb) 0 (by omega) (by omega)
      cases e1
      have ha : ad1.add 0 = ad1 := by simp [Addr.add]
      rw [show Int.toNat 0 * 3 = 0 from rfl, ha] at y0 y1 y2
      change wr.cell? _ = some (.int .i64 0) at y0
      change wr.cell? _ = some (.int .i64 1) at y1
      change wr.cell? _ = some (.int .i64 2) at y2
      have hb4 := hb.alloc hb.size (.cells #[.int .i64 0, .int .i64 1, .int .i64 2] 36 (0, 0))
      have hB4 := hB.alloc (.cells #[.int .i64 0, .int .i64 1, .int .i64 2] 36 (0, 0))
      have hT := Blk.here wr 36 #[.int .i64 0, .int .i64 1, .int .i64 2]
      have z0 := hT.cell 0
      have z1 := hT.cell 1
      have z2 := hT.cell 2
      go_wp2_with fail
      generalize hw4 : wr.alloc (.cells #[.int .i64 0, .int .i64 1, .int .i64 2] 36 (0, 0)) = w4 at *
      clear y0 y1 y2 hw4 hb hB z0 z1 z2 hT
      go_loopw [21] (fun v wr2 => Below w.heap.size w wr2 ∧ ((v = .int .i64 0 ∧ Blk wr2 g 3 #[.int .i64 (-1), .int .i64 (-1), .int .i64 (-1), .int .i64 (-1)]) ∨ (v = .int .i64 1 ∧ Blk wr2 g 3 #[.int .i64 0, .int .i64 (-1), .int .i64 (-1), .int .i64 (-1)]) ∨ (v = .int .i64 2 ∧ Blk wr2 g 3 #[.int .i64 0, .int .i64 0, .int .i64 (-1), .int .i64 (-1)]) ∨ (v = .int .i64 3 ∧ Blk wr2 g 3 #[.int .i64 0, .int .i64 0, .int .i64 0, .int .i64 (-1)]))) (fun v _ => 3 - (intOf v).toNat)
      case atStart => exact ⟨hb4, .inl ⟨rfl, hB4⟩⟩
      case round =>
        clear hb4 hB4
        obtain ⟨hb, ⟨rfl, hB⟩ | ⟨rfl, hB⟩ | ⟨rfl, hB⟩ | ⟨rfl, hB⟩⟩ := hrel
        · have x0 := hB.cell 0
          have f0 := hB.frozen 0
          go_wp2_with fail
          go_roundw
          case rel => exact ⟨hb.setCell (p := ⟨g, 0, none⟩) hg0 _, .inr (.inl ⟨rfl, hB.set_ 0 (.int .i64 0)⟩)⟩
          case measure => simp [intOf]
        · have x0 := hB.cell 1
          have f0 := hB.frozen 1
          go_wp2_with fail
          go_roundw
          case rel => exact ⟨hb.setCell (p := ⟨g, 1, none⟩) hg0 _, .inr (.inr (.inl ⟨rfl, hB.set_ 1 (.int .i64 0)⟩))⟩
          case measure => simp [intOf]
        · have x0 := hB.cell 2
          have f0 := hB.frozen 2
          go_wp2_with fail
          go_roundw
          case rel => exact ⟨hb.setCell (p := ⟨g, 2, none⟩) hg0 _, .inr (.inr (.inr (⟨rfl, hB.set_ 2 (.int .i64 0)⟩)))⟩
          case measure => simp [intOf]
        · go_wp2_with fail
          go_roundw
          case rel => exact ⟨hb, .inr (.inl ⟨rfl, hB⟩)⟩
          case measure => simp [intOf]
    · obtain ⟨ad1, e1, y0, y1, y2⟩ := at_T36 (Kd.C_below hr1 hb) 1 (by omega) (by omega)
      cases e1
      rw [show Int.toNat 1 * 3 = 3 from rfl, show ad1.add 3 = ⟨ad1.block, ad1.off + 3, none⟩ by simp [Addr.add]] at y0 y1 y2
      dsimp only at y1 y2
      change wr.cell? _ = some (.int .i64 1) at y0
      change wr.cell? _ = some (.int .i64 0) at y1
      change wr.cell? _ = some (.int .i64 3) at y2
      have hb4 := hb.alloc hb.size (.cells #[.int .i64 1, .int .i64 0, .int .i64 3] 36 (0, 0))
      have hB4 := hB.alloc (.cells #[.int .i64 1, .int .i64 0, .int .i64 3] 36 (0, 0))
      have hT := Blk.here wr 36 #[.int .i64 1, .int .i64 0, .int .i64 3]
      have z0 := hT.cell 0
      have z1 := hT.cell 1
      have z2 := hT.cell 2
      go_wp2_with fail
      generalize hw4 : wr.alloc (.cells #[.int .i64 1, .int .i64 0, .int .i64 3] 36 (0, 0)) = w4 at *
      clear y0 y1 y2 hw4 hb hB z0 z1 z2 hT
      go_loopw [21] (fun v wr2 => Below w.heap.size w wr2 ∧ ((v = .int .i64 0 ∧ Blk wr2 g 3 #[.int .i64 0, .int .i64 0, .int .i64 0, .int .i64 (-1)]) ∨ (v = .int .i64 1 ∧ Blk wr2 g 3 #[.int .i64 0, .int .i64 0, .int .i64 0, .int .i64 (-1)]) ∨ (v = .int .i64 2 ∧ Blk wr2 g 3 #[.int .i64 0, .int .i64 0, .int .i64 0, .int .i64 (-1)]) ∨ (v = .int .i64 3 ∧ Blk wr2 g 3 #[.int .i64 0, .int .i64 0, .int .i64 0, .int .i64 1]))) (fun v _ => 3 - (intOf v).toNat)
      case atStart => exact ⟨hb4, .inl ⟨rfl, hB4⟩⟩
      case round =>
        clear hb4 hB4
        obtain ⟨hb, ⟨rfl, hB⟩ | ⟨rfl, hB⟩ | ⟨rfl, hB⟩ | ⟨rfl, hB⟩⟩ := hrel
        · have x0 := hB.cell 1
          have f0 := hB.frozen 1
          go_wp2_with fail
          go_roundw
          case rel => exact ⟨hb, .inr (.inl ⟨rfl, hB⟩)⟩
          case measure => simp [intOf]
        · have x0 := hB.cell 0
          have f0 := hB.frozen 0
          go_wp2_with fail
          go_roundw
          case rel => exact ⟨hb, .inr (.inr (.inl ⟨rfl, hB⟩))⟩
          case measure => simp [intOf]
        · have x0 := hB.cell 3
          have f0 := hB.frozen 3
          go_wp2_with fail
          go_roundw
          case rel => exact ⟨hb.setCell (p := ⟨g, 3, none⟩) hg0 _, .inr (.inr (.inr (⟨rfl, hB.set_ 3 (.int .i64 1)⟩)))⟩
          case measure => simp [intOf]
        · go_wp2_with fail
          go_roundw
          case rel => exact ⟨hb, .inr (.inr (⟨rfl, hB⟩))⟩
          case measure => simp [intOf]
    · go_wp2_with fail
      go_ret
      exact ⟨g, rfl, hg0, hB, hb⟩
end Go.Proofs.Ytgkncgiemfbglaa.PT
