/- predict.right walked at small coordinates. -/
import Derived.Test.YtgkncgiemfbglaaPFores
namespace Go.Proofs.Ytgkncgiemfbglaa.PT
open Go Go.RowKit Go.Proofs.Ytgkncgiemfbglaa.Mem Go.Proofs.Ytgkncgiemfbglaa.PPrd Go.Proofs.YtgkncgiemfbglaaW.PrintWords Go.Proofs.YtgkncgiemfbglaaW.PrintLast Go.Proofs.YtgkncgiemfbglaaW.PrintMore
set_option linter.unusedVariables false
set_option maxRecDepth 100000
set_option linter.unnecessarySimpa false
set_option linter.unusedSimpArgs false
theorem c39 (w : World) (n : Int) (h0 : -1000 ≤ n) (h1 : n ≤ 1000) : Calls Try.prog 39 #[.int .i64 n] w fun e w' => e = .returned (.bool false) ∧ Below w.heap.size w w' := by
  have d1 : decide (n < -2147483648) = false := decide_eq_false (by omega)
  have d2 : decide (n > 2147483647) = false := decide_eq_false (by omega)
  go_enter Try.func39, Try.ntmps39
  go_wp2_with fail
  go_ret
  exact ⟨rfl, Below.refl _ _⟩
theorem c42 (w : World) (A : Option Addr) (l : List Int) (c : Nat) (hr : Kd.C (Kd.int .i64) w A l.length l) (hs : ∀ n ∈ l, -1000 ≤ n ∧ n ≤ 1000) (hl : l.length ≤ 1000) :
    Calls Try.prog 42 #[.slice A l.length c, .func (.func 39) #[] #[]] w fun e w' => e = .returned (.int .i64 (-1)) ∧ Below w.heap.size w w' := by
  go_enter Try.func42, Try.ntmps42
  go_wp2_with fail
  go_loopw [8] (fun v wr => ∃ i : Int, v = .int .i64 i ∧ 0 ≤ i ∧ i ≤ l.length ∧ Below w.heap.size w wr) (fun v _ => l.length - (intOf v).toNat)
  case atStart => exact ⟨0, rfl, by omega, by omega, Below.refl _ _⟩
  case round =>
    obtain ⟨i, rfl, hi0, hi1, hb⟩ := hrel
    by_cases hlt : i < l.length
    · have dl : decide (i < (l.length : Int)) = true := decide_eq_true hlt
      obtain ⟨ad1, e1, y0⟩ := Kd.at_int (Kd.C_below hr hb) i hi0 hlt
      cases e1
      have p1 := eq_true hi0
      have p2 := eq_true hlt
      have hn : -1000 ≤ rd l i ∧ rd l i ≤ 1000 := hs _ (by unfold rd; rw [List.getD_eq_getElem?_getD, List.getElem?_eq_getElem (by omega)]; exact List.getElem_mem _)
      have hc := Lib.hid (c39 wr (rd l i) hn.1 hn.2)
      generalize rd l i = n at *
      go_wp2_with fail
      refine hc.out.mono ?_
      rintro e w2 ⟨rfl, hb2⟩
      go_wp2_with fail
      go_roundw
      case rel => exact ⟨i + 1, rfl, by omega, by omega, hb.trans (hb2.mono hb.size)⟩
      case measure => simp [intOf]; omega
    · obtain rfl : i = l.length := by omega
      go_wp2_with fail
      go_ret
      exact ⟨rfl, hb⟩
theorem c38 (w : World) (A : Option Addr) (l : List Int) (c : Nat) (hr : Kd.C (Kd.int .i64) w A l.length l) (hs : ∀ n ∈ l, -1000 ≤ n ∧ n ≤ 1000) (hl : l.length ≤ 1000) :
    Calls Try.prog 38 #[.slice A l.length c, .func (.func 39) #[] #[]] w fun e w' => e = .returned (.bool false) ∧ Below w.heap.size w w' := by
  have hc := Lib.hid (c42 w A l c hr hs hl)
  go_enter Try.func38, Try.ntmps38
  go_wp2_with fail
  refine hc.out.mono ?_
  rintro e w2 ⟨rfl, hb2⟩
  go_wp2_with fail
  go_ret
  exact ⟨rfl, hb2⟩
def smallP (p : S40) : Prop := (-1000 ≤ p.f0 ∧ p.f0 ≤ 1000) ∧ (-1000 ≤ p.f1 ∧ p.f1 ≤ 1000) ∧ (-1000 ≤ p.f2 ∧ p.f2 ≤ 1000)
theorem row3 (w : World) (a b c : Int) : Kd.C (Kd.int .i64) (w.alloc (.cells #[.int .i64 a, .int .i64 b, .int .i64 c] 3 (0, 0))) (some ⟨w.heap.size, 0, none⟩) 3 [a, b, c] := by
  have hB := Blk.here w 3 #[.int .i64 a, .int .i64 b, .int .i64 c]
  refine ⟨rfl, by simp [maxLen], fun _ => ⟨_, rfl, fun j p hj => ?_⟩⟩
  match j, hj with
  | 0, hj => injection hj with hj; subst hj; exact ⟨_, rfl, rfl, fun i u hu => by cases i with | zero => injection hu with hu; subst hu; simpa [Addr.add] using hB.cell 0 | succ i => simp at hu⟩
  | 1, hj => injection hj with hj; subst hj; exact ⟨_, rfl, rfl, fun i u hu => by cases i with | zero => injection hu with hu; subst hu; simpa [Addr.add, Kd.int, Kd.scalar] using hB.cell 1 | succ i => simp at hu⟩
  | 2, hj => injection hj with hj; subst hj; exact ⟨_, rfl, rfl, fun i u hu => by cases i with | zero => injection hu with hu; subst hu; simpa [Addr.add, Kd.int, Kd.scalar] using hB.cell 2 | succ i => simp at hu⟩
  | j + 3, hj => simp at hj
theorem c22 (w : World) (p : S40) (hp : smallP p) : Calls Try.prog 22 #[.agg #[.int .i64 p.f0, .int .i64 p.f1, .int .i64 p.f2]] w fun e w' => e = .returned (.bool true) ∧ Below w.heap.size w w' := by
  have hB := Blk.here w 40 #[.int .i64 p.f0, .int .i64 p.f1, .int .i64 p.f2]
  have x0 := hB.cell 0
  have x1 := hB.cell 1
  have x2 := hB.cell 2
  have hb1 := (Below.refl w.heap.size w).alloc (Nat.le_refl _) (.cells #[.int .i64 p.f0, .int .i64 p.f1, .int .i64 p.f2] 40 (0, 0))
  have hb2 := hb1.alloc hb1.size (.cells #[.int .i64 p.f0, .int .i64 p.f1, .int .i64 p.f2] 3 (0, 0))
  have hc := c38 _ _ [p.f0, p.f1, p.f2] 3 (row3 (w.alloc (.cells #[.int .i64 p.f0, .int .i64 p.f1, .int .i64 p.f2] 40 (0, 0))) p.f0 p.f1 p.f2) (by
    intro n hn
    simp only [List.mem_cons, List.not_mem_nil, or_false] at hn
    rcases hn with rfl | rfl | rfl
    · exact hp.1
    · exact hp.2.1
    · exact hp.2.2) (by simp)
  rw [show (w.alloc (.cells #[.int .i64 p.f0, .int .i64 p.f1, .int .i64 p.f2] 40 (0, 0))).heap.size = w.heap.size + 1 by simp] at hc
  have HC := Lib.hid hc
  clear hc
  go_enter Try.func22, Try.ntmps22
  go_wp2_with fail
  refine HC.out.mono ?_
  rintro e w2 ⟨rfl, hb3⟩
  go_wp2_with fail
  go_ret
  exact ⟨rfl, hb2.trans (hb3.mono hb2.size)⟩
theorem c21 (w : World) (p : S40) (hp : smallP p) : Calls Try.prog 21 #[.agg #[.int .i64 p.f0, .int .i64 p.f1, .int .i64 p.f2]] w fun e w' => e = .returned (.bool false) ∧ Below w.heap.size w w' := by
  have hB := Blk.here w 40 #[.int .i64 p.f0, .int .i64 p.f1, .int .i64 p.f2]
  have x0 := hB.cell 0
  have x1 := hB.cell 1
  have x2 := hB.cell 2
  have hb1 := (Below.refl w.heap.size w).alloc (Nat.le_refl _) (.cells #[.int .i64 p.f0, .int .i64 p.f1, .int .i64 p.f2] 40 (0, 0))
  have hc := Lib.hid (c22 (w.alloc (.cells #[.int .i64 p.f0, .int .i64 p.f1, .int .i64 p.f2] 40 (0, 0))) p hp)
  go_enter Try.func21, Try.ntmps21
  go_wp2_with fail
  refine hc.out.mono ?_
  rintro e w2 ⟨rfl, hb3⟩
  go_wp2_with fail
  go_ret
  exact ⟨rfl, hb1.trans (hb3.mono hb1.size)⟩
theorem c37 (w : World) (A : Option Addr) (l : List S40) (c : Nat) (hr : Kd.C k40 w A l.length l) (hs : ∀ p ∈ l, smallP p) (hl : l.length ≤ 1000) :
    Calls Try.prog 37 #[.slice A l.length c, .func (.func 21) #[] #[]] w fun e w' => e = .returned (.int .i64 (-1)) ∧ Below w.heap.size w w' := by
  go_enter Try.func37, Try.ntmps37
  go_wp2_with fail
  go_loopw [8] (fun v wr => ∃ i : Int, v = .int .i64 i ∧ 0 ≤ i ∧ i ≤ l.length ∧ Below w.heap.size w wr) (fun v _ => l.length - (intOf v).toNat)
  case atStart => exact ⟨0, rfl, by omega, by omega, Below.refl _ _⟩
  case round =>
    obtain ⟨i, rfl, hi0, hi1, hb⟩ := hrel
    by_cases hlt : i < l.length
    · have dl : decide (i < (l.length : Int)) = true := decide_eq_true hlt
      obtain ⟨ad1, e1, y0, y1, y2⟩ := at_T40 (Kd.C_below hr hb) i hi0 hlt
      cases e1
      have p1 := eq_true hi0
      have p2 := eq_true hlt
      have hn : smallP (rd_T40 l i) := hs _ (by unfold rd_T40; rw [List.getD_eq_getElem?_getD, List.getElem?_eq_getElem (by omega)]; exact List.getElem_mem _)
      have hc := Lib.hid (c21 wr (rd_T40 l i) hn)
      generalize rd_T40 l i = n at *
      go_wp2_with fail
      refine hc.out.mono ?_
      rintro e w2 ⟨rfl, hb2⟩
      go_wp2_with fail
      go_roundw
      case rel => exact ⟨i + 1, rfl, by omega, by omega, hb.trans (hb2.mono hb.size)⟩
      case measure => simp [intOf]; omega
    · obtain rfl : i = l.length := by omega
      go_wp2_with fail
      go_ret
      exact ⟨rfl, hb⟩
theorem c20 (w : World) (A : Option Addr) (l : List S40) (c : Nat) (hr : Kd.C k40 w A l.length l) (hs : ∀ p ∈ l, smallP p) (hl : l.length ≤ 1000) :
    Calls Try.prog 20 #[.slice A l.length c, .func (.func 21) #[] #[]] w fun e w' => e = .returned (.bool false) ∧ Below w.heap.size w w' := by
  have hc := Lib.hid (c37 w A l c hr hs hl)
  go_enter Try.func20, Try.ntmps20
  go_wp2_with fail
  refine hc.out.mono ?_
  rintro e w2 ⟨rfl, hb2⟩
  go_wp2_with fail
  go_ret
  exact ⟨rfl, hb2⟩
end Go.Proofs.Ytgkncgiemfbglaa.PT
