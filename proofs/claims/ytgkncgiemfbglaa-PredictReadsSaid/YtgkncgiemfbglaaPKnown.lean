/- lapidarylaw14.known walked. -/
import Derived.Test.YtgkncgiemfbglaaPForeW
import Derived.Test.YtgkncgiemfbglaaPPrdx2
namespace Go.Proofs.Ytgkncgiemfbglaa.PT
open Go Go.RowKit Go.Maps Go.WideMaps Go.Proofs.Ytgkncgiemfbglaa.Mem Go.Proofs.Ytgkncgiemfbglaa.PPrd Go.Proofs.YtgkncgiemfbglaaW.PrintWords Go.Proofs.YtgkncgiemfbglaaW.PrintLast Go.Proofs.YtgkncgiemfbglaaW.PrintMore
attribute [local go_sem high] eqA36
set_option linter.unusedVariables false
set_option linter.unnecessarySimpa false
set_option linter.unusedSimpArgs false
set_option maxRecDepth 100000
theorem exRow (w : World) : Kd.C k36 (w.alloc (.cells #[.int .i64 0, .int .i64 1, .int .i64 2, .int .i64 1, .int .i64 0, .int .i64 3] 36 (0, 0))) (some ⟨w.heap.size, 0, none⟩) 2 ex := by
  have hB := Blk.here w 36 #[.int .i64 0, .int .i64 1, .int .i64 2, .int .i64 1, .int .i64 0, .int .i64 3]
  refine ⟨rfl, by simp [maxLen], fun _ => ⟨_, rfl, fun j p hj => ?_⟩⟩
  match j, hj with
  | 0, hj => injection hj with hj; subst hj; exact ⟨_, rfl, k36_mk _ _, fun i u hu => by match i, hu with
      | 0, hu => injection hu with hu; subst hu; simpa [Addr.add] using hB.cell 0
      | 1, hu => injection hu with hu; subst hu; simpa [Addr.add] using hB.cell 1
      | 2, hu => injection hu with hu; subst hu; simpa [Addr.add] using hB.cell 2
      | i + 3, hu => simp at hu⟩
  | 1, hj => injection hj with hj; subst hj; exact ⟨_, rfl, k36_mk _ _, fun i u hu => by match i, hu with
      | 0, hu => injection hu with hu; subst hu; simpa [Addr.add, k36, Kd.iso, Kd.pair, Kd.int, Kd.scalar] using hB.cell 3
      | 1, hu => injection hu with hu; subst hu; simpa [Addr.add, k36, Kd.iso, Kd.pair, Kd.int, Kd.scalar] using hB.cell 4
      | 2, hu => injection hu with hu; subst hu; simpa [Addr.add, k36, Kd.iso, Kd.pair, Kd.int, Kd.scalar] using hB.cell 5
      | i + 3, hu => simp at hu⟩
  | j + 2, hj => simp [ex] at hj
def ptCells : Array Value := #[.int .i64 1, .int .i64 0, .int .i64 0, .int .i64 5, .int .i64 0, .int .i64 0, .int .i64 2, .int .i64 7, .int .i64 0, .int .i64 4, .int .i64 (-7), .int .i64 0]
theorem ptRow (w : World) : Kd.C k40 (w.alloc (.cells #[.int .i64 1, .int .i64 0, .int .i64 0, .int .i64 5, .int .i64 0, .int .i64 0, .int .i64 2, .int .i64 7, .int .i64 0, .int .i64 4, .int .i64 (-7), .int .i64 0] 40 (0, 0))) (some ⟨w.heap.size, 0, none⟩) 4 pts := by
  have hB := Blk.here w 40 #[.int .i64 1, .int .i64 0, .int .i64 0, .int .i64 5, .int .i64 0, .int .i64 0, .int .i64 2, .int .i64 7, .int .i64 0, .int .i64 4, .int .i64 (-7), .int .i64 0]
  refine ⟨rfl, by simp [maxLen], fun _ => ⟨_, rfl, fun j p hj => ?_⟩⟩
  match j, hj with
  | 0, hj => injection hj with hj; subst hj; exact ⟨_, rfl, k40_mk _ _, fun i u hu => by match i, hu with
      | 0, hu => injection hu with hu; subst hu; simpa [Addr.add] using hB.cell 0
      | 1, hu => injection hu with hu; subst hu; simpa [Addr.add] using hB.cell 1
      | 2, hu => injection hu with hu; subst hu; simpa [Addr.add] using hB.cell 2
      | i + 3, hu => simp at hu⟩
  | 1, hj => injection hj with hj; subst hj; exact ⟨_, rfl, k40_mk _ _, fun i u hu => by match i, hu with
      | 0, hu => injection hu with hu; subst hu; simpa [Addr.add, k40, Kd.iso, Kd.pair, Kd.int, Kd.scalar] using hB.cell 3
      | 1, hu => injection hu with hu; subst hu; simpa [Addr.add, k40, Kd.iso, Kd.pair, Kd.int, Kd.scalar] using hB.cell 4
      | 2, hu => injection hu with hu; subst hu; simpa [Addr.add, k40, Kd.iso, Kd.pair, Kd.int, Kd.scalar] using hB.cell 5
      | i + 3, hu => simp at hu⟩
  | 2, hj => injection hj with hj; subst hj; exact ⟨_, rfl, k40_mk _ _, fun i u hu => by match i, hu with
      | 0, hu => injection hu with hu; subst hu; simpa [Addr.add, k40, Kd.iso, Kd.pair, Kd.int, Kd.scalar] using hB.cell 6
      | 1, hu => injection hu with hu; subst hu; simpa [Addr.add, k40, Kd.iso, Kd.pair, Kd.int, Kd.scalar] using hB.cell 7
      | 2, hu => injection hu with hu; subst hu; simpa [Addr.add, k40, Kd.iso, Kd.pair, Kd.int, Kd.scalar] using hB.cell 8
      | i + 3, hu => simp at hu⟩
  | 3, hj => injection hj with hj; subst hj; exact ⟨_, rfl, k40_mk _ _, fun i u hu => by match i, hu with
      | 0, hu => injection hu with hu; subst hu; simpa [Addr.add, k40, Kd.iso, Kd.pair, Kd.int, Kd.scalar] using hB.cell 9
      | 1, hu => injection hu with hu; subst hu; simpa [Addr.add, k40, Kd.iso, Kd.pair, Kd.int, Kd.scalar] using hB.cell 10
      | 2, hu => injection hu with hu; subst hu; simpa [Addr.add, k40, Kd.iso, Kd.pair, Kd.int, Kd.scalar] using hB.cell 11
      | i + 3, hu => simp at hu⟩
  | j + 4, hj => simp [pts] at hj
theorem row1 (w : World) (k : IntKind) (t : TypeId) (a : Int) : Kd.C (Kd.int k) (w.alloc (.cells #[.int k a] t (0, 0))) (some ⟨w.heap.size, 0, none⟩) 1 [a] := by
  have hB := Blk.here w t #[.int k a]
  refine ⟨rfl, by simp [maxLen], fun _ => ⟨_, rfl, fun j p hj => ?_⟩⟩
  match j, hj with
  | 0, hj => injection hj with hj; subst hj; exact ⟨_, rfl, rfl, fun i u hu => by cases i with | zero => injection hu with hu; subst hu; simpa [Addr.add] using hB.cell 0 | succ i => simp at hu⟩
  | j + 1, hj => simp at hj
theorem bytes3 : predict_Bytes.f 20 [-3] = some [5] := by decide +kernel
theorem same5 : lapidaryref00_Same.f [5] [5] = some true := by decide +kernel
theorem known5 (w : World) : Calls Try.prog 5 #[] w fun e w' => e = .returned (.bool true) ∧ Below w.heap.size w w' := by
  have hb1 := (Below.refl w.heap.size w).alloc (Nat.le_refl _) (.cells #[.int .i64 0, .int .i64 1, .int .i64 2, .int .i64 1, .int .i64 0, .int .i64 3] 36 (0, 0))
  have hE := exRow w
  have hP := ptRow (w.alloc (.cells #[.int .i64 0, .int .i64 1, .int .i64 2, .int .i64 1, .int .i64 0, .int .i64 3] 36 (0, 0)))
  have hb2 := hb1.alloc hb1.size (.cells #[.int .i64 1, .int .i64 0, .int .i64 0, .int .i64 5, .int .i64 0, .int .i64 0, .int .i64 2, .int .i64 7, .int .i64 0, .int .i64 4, .int .i64 (-7), .int .i64 0] 40 (0, 0))
  have hE2 := Kd.C_alloc hE (.cells #[.int .i64 1, .int .i64 0, .int .i64 0, .int .i64 5, .int .i64 0, .int .i64 0, .int .i64 2, .int .i64 7, .int .i64 0, .int .i64 4, .int .i64 (-7), .int .i64 0] 40 (0, 0))
  have hR := Lib.hid (rests12 _ _ _ hP hE2)
  rw [show (w.alloc (.cells #[.int .i64 0, .int .i64 1, .int .i64 2, .int .i64 1, .int .i64 0, .int .i64 3] 36 (0, 0))).heap.size = w.heap.size + 1 by simp] at hR
  clear hP hE hb1
  go_enter Try.func5, Try.ntmps5
  go_wp2_with fail
  refine hR.out.mono ?_
  rintro e w3 ⟨v, rfl, hv, hb3⟩
  obtain ⟨A, c, rfl⟩ := Kd.R_slice hv
  have hbw3 := hb2.trans (hb3.mono hb2.size)
  have hE3 := Kd.C_below hE2 hb3
  have hC3 := (Kd.R_reads' hv).2.2
  clear hR hb2 hE2 hb3 hv
  have hF := Lib.hid (fore13 w3 _ 2 hE3 (by omega))
  go_wp2_with fail
  refine hF.out.mono ?_
  rintro e w4 ⟨rfl, hb4⟩
  have hbw4 := hbw3.trans (hb4.mono hbw3.size)
  have hC4 := Kd.C_below hC3 hb4
  clear hF hbw3 hE3 hC3 hb4
  obtain ⟨ad1, e1, y9⟩ := Kd.at_int hC4 9 (by decide) (by decide)
  cases e1
  obtain ⟨ad2, e2, y10⟩ := Kd.at_int hC4 10 (by decide) (by decide)
  cases e2
  obtain ⟨ad3, e3, y11⟩ := Kd.at_int hC4 11 (by decide) (by decide)
  cases e3
  clear hC4
  rw [show Int.toNat 9 = 9 from rfl, show ad1.add 9 = ⟨ad1.block, ad1.off + 9, none⟩ by simp [Addr.add]] at y9
  rw [show Int.toNat 10 = 10 from rfl, show ad1.add 10 = ⟨ad1.block, ad1.off + 10, none⟩ by simp [Addr.add]] at y10
  rw [show Int.toNat 11 = 11 from rfl, show ad1.add 11 = ⟨ad1.block, ad1.off + 11, none⟩ by simp [Addr.add]] at y11
  change w4.cell? _ = some (.int .i64 0) at y9
  change w4.cell? _ = some (.int .i64 0) at y10
  change w4.cell? _ = some (.int .i64 0) at y11
  have hB := Lib.hid (predict_Bytes.calls 20 _ 1 [-3] [5] _ (row1 w4 .i64 3 (-3)) (by decide) bytes3)
  go_wp2_with fail
  refine hB.out.mono ?_
  rintro e w5 ⟨v5, rfl, hv5, hb5⟩
  obtain ⟨A5, c5, rfl⟩ := Kd.R_slice hv5
  have hbw5 := (hbw4.alloc hbw4.size (.cells #[.int .i64 (-3)] 3 (0, 0))).trans (hb5.mono (hbw4.alloc hbw4.size (.cells #[.int .i64 (-3)] 3 (0, 0))).size)
  have hC5 := Kd.R_reads' hv5
  have hS := Lib.hid (lapidaryref00_Same.calls _ c5 [5] _ 1 [5] true _ (Kd.C_alloc hC5.2.2 (.cells #[.int .u8 5] 5 (0, 0))) hC5.2.1 (row1 w5 .u8 5 5) (by decide) same5)
  have hbw6 := hbw5.alloc hbw5.size (.cells #[.int .u8 5] 5 (0, 0))
  clear hB hv5 hb5 hC5 y9 y10 y11 hbw4 hbw5
  go_wp2_with fail
  refine hS.out.mono ?_
  rintro e w6 ⟨rfl, n, rfl⟩
  go_wp2_with fail
  go_ret
  exact ⟨rfl, pw_below_drewN hbw6 n⟩
end Go.Proofs.Ytgkncgiemfbglaa.PT
