/- slices.Repeat at one number, four times. -/
import Derived.Test.YtgkncgiemfbglaaPFore
import Derived.Test.YtgkncgiemfbglaaPPrdx2
import Derived.Laws.IdiomCopy
namespace Go.Proofs.Ytgkncgiemfbglaa.PT
open Go Go.RowKit Go.Proofs.Ytgkncgiemfbglaa.Mem Go.Proofs.Ytgkncgiemfbglaa.PPrd Go.Proofs.YtgkncgiemfbglaaW.PrintWords Go.Proofs.YtgkncgiemfbglaaW.PrintLast Go.Proofs.YtgkncgiemfbglaaW.PrintMore
set_option linter.unusedVariables false
theorem mul14 : bits_Mul.f 1 4 = some (0, 4) := by unfold bits_Mul.f bits_Mul64.f; decide +kernel
set_option maxHeartbeats 4000000 in
set_option maxRecDepth 100000 in
theorem repeat41 (w : World) (ad : Addr) (x : Int) (c0 : Nat) (hx : w.cell? ad = some (.int .i64 x)) :
    Calls Try.prog 41 #[.slice (some ad) 1 c0, .int .i64 4] w fun e w' => e = .returned (.slice (some ⟨w.heap.size, 0, none⟩) 4 4) ∧ Blk w' w.heap.size 3 #[.int .i64 x, .int .i64 x, .int .i64 x, .int .i64 x] ∧ Below w.heap.size w w' := by
  have hM := Lib.hid (fun W => bits_Mul.calls 1 4 0 4 W mul14)
  have hmk : ∀ W : World, (Instr.makeSlice 22 (.int .i64 4) (.int .i64 4)).run Try.prog W = .ok (.slice (some ⟨W.heap.size, 0, none⟩) 4 4) (W.alloc (.cells #[.int .i64 0, .int .i64 0, .int .i64 0, .int .i64 0] 3)) := fun W => by
    have h := run_make_row' (P := Try.prog) 22 3 (.int .i64 0) 8 Try.underlying22 (by kernel_rfl) rfl .i64 .i64 4 (by decide) (by decide) W
    rw [show madeCells #[Value.int .i64 0] 4 = #[Value.int .i64 0, Value.int .i64 0, Value.int .i64 0, Value.int .i64 0] by first | rfl | kernel_rfl | (simp [madeCells]; rfl)] at h
    exact h
  have hsz : (Try.prog.info? 3).map (·.size) = some 1 := by kernel_rfl
  go_enter Try.func41, Try.ntmps41
  go_wp2_with fail
  refine (hM.out _).mono ?_
  rintro e w1 ⟨rfl, hD⟩
  have hb1 := hD.below
  have hs1 : w1.heap.size = w.heap.size := by obtain ⟨nd, rfl⟩ := hD; rfl
  have hx1 : w1.cell? ad = some (.int .i64 x) := by obtain ⟨nd, rfl⟩ := hD; exact hx
  clear hD hM hx
  have hb2 := hb1.alloc hb1.size (.cells #[.int .i64 0, .int .i64 0, .int .i64 0, .int .i64 0] 3 (0, 0))
  have hB := Blk.here w1 3 #[.int .i64 0, .int .i64 0, .int .i64 0, .int .i64 0]
  have hx2 : (w1.alloc (.cells #[.int .i64 0, .int .i64 0, .int .i64 0, .int .i64 0] 3 (0, 0))).cell? ad = some (.int .i64 x) := by
    rw [World.cell?_of_block (Below.heap_alloc w1 _ ad.block (World.block_lt_of_cell? w1 ad hx1))]; exact hx1
  rw [hs1] at hB
  have c1 := run_copy_cells (P := Try.prog) (w1.alloc (.cells #[.int .i64 0, .int .i64 0, .int .i64 0, .int .i64 0] 3 (0, 0))) 22 22 3 3 w.heap.size 0 4 4 ad 1 c0 [.int .i64 x] Try.underlying22 hsz rfl (fun j v hj => by
    cases j with
    | zero => injection hj with hj; subst hj; simpa [Addr.add] using hx2
    | succ j => simp at hj) (fun j hj => by rw [hB.cell]; simp at hj; subst hj; rfl) (fun j hj => hB.frozen _) (fun v hv => by rw [List.mem_singleton] at hv; subst hv; rfl)
  go_wp2_with fail
  have hB2 : Blk ((w1.alloc (.cells #[.int .i64 0, .int .i64 0, .int .i64 0, .int .i64 0] 3 (0, 0))).setCell ⟨w.heap.size, 0, none⟩ (.int .i64 x)) w.heap.size 3 #[.int .i64 x, .int .i64 0, .int .i64 0, .int .i64 0] := hB.set_ 0 (.int .i64 x)
  have hb3 := hb2.setCell (p := ⟨w.heap.size, 0, none⟩) (Nat.le_refl _) (.int .i64 x)
  generalize hg : w.heap.size = g at *
  clear c1 hmk hsz hx1 hx2 hB hb2 hb1 hs1
  go_loopw [8] (fun v wr => Below g w wr ∧ ((v = .int .i64 1 ∧ Blk wr g 3 #[.int .i64 x, .int .i64 0, .int .i64 0, .int .i64 0]) ∨ (v = .int .i64 2 ∧ Blk wr g 3 #[.int .i64 x, .int .i64 x, .int .i64 0, .int .i64 0]) ∨ (v = .int .i64 4 ∧ Blk wr g 3 #[.int .i64 x, .int .i64 x, .int .i64 x, .int .i64 x]))) (fun v _ => 4 - (intOf v).toNat)
  case atStart => exact ⟨hb3, .inl ⟨rfl, hB2⟩⟩
  case round =>
    clear hb3 hB2
    obtain ⟨hb4, ⟨rfl, hB4⟩ | ⟨rfl, hB4⟩ | ⟨rfl, hB4⟩⟩ := hrel
    · have c2 := run_copy_cells (P := Try.prog) wr.drew 22 22 3 3 g 1 3 3 ⟨g, 0, none⟩ 1 4 [.int .i64 x] Try.underlying22 (by kernel_rfl) rfl (fun j v hj => by
        cases j with
        | zero => injection hj with hj; subst hj; simpa [Addr.add] using hB4.drew.cell 0
        | succ j => simp at hj) (fun j hj => by rw [hB4.drew.cell]; simp at hj; subst hj; rfl) (fun j hj => hB4.drew.frozen _) (fun v hv => by rw [List.mem_singleton] at hv; subst hv; rfl)
      go_wp2_with fail
      go_region
      all_goals
        go_roundw
        case rel =>
          (repeat apply Exists.intro)
          exact ⟨⟨hb4.drew.setCell (p := ⟨g, 1, none⟩) (Nat.le_refl _) _, .inr (.inl ⟨rfl, hB4.drew.set_ 1 (.int .i64 x)⟩)⟩, rfl⟩
        case measure => simp [intOf]
    · have c2 := run_copy_cells (P := Try.prog) wr.drew 22 22 3 3 g 2 2 2 ⟨g, 0, none⟩ 2 4 [.int .i64 x, .int .i64 x] Try.underlying22 (by kernel_rfl) rfl (fun j v hj => by
        match j, hj with
        | 0, hj => injection hj with hj; subst hj; simpa [Addr.add] using hB4.drew.cell 0
        | 1, hj => injection hj with hj; subst hj; simpa [Addr.add] using hB4.drew.cell 1
        | j + 2, hj => simp at hj) (fun j hj => by
        rw [hB4.drew.cell]
        match j, hj with
        | 0, _ => rfl
        | 1, _ => rfl
        | j + 2, hj => simp at hj; omega) (fun j hj => hB4.drew.frozen _) (fun v hv => by
        rcases List.mem_cons.1 hv with rfl | hv
        · rfl
        · rw [List.mem_singleton] at hv; subst hv; rfl)
      go_wp2_with fail
      go_region
      all_goals
        go_roundw
        case rel =>
          (repeat apply Exists.intro)
          exact ⟨⟨(hb4.drew.setCell (p := ⟨g, 2, none⟩) (Nat.le_refl _) _).setCell (p := ⟨g, 3, none⟩) (Nat.le_refl _) _, .inr (.inr ⟨rfl, (hB4.drew.set_ 2 (.int .i64 x)).set_ 3 (.int .i64 x)⟩)⟩, rfl⟩
        case measure => simp [intOf]
    · go_wp2_with fail
      subst hg
      go_ret
      exact ⟨rfl, hB4, hb4⟩
end Go.Proofs.Ytgkncgiemfbglaa.PT
