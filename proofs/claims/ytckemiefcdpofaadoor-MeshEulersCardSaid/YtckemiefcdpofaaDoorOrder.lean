import Derived.Test.YtckemiefcdpofaaDoorShelf
import Derived.Test.YtckemiefcdpofaaDoorPMsrx4
import Derived.Test.YtckemiefcdpofaaDoorMem
import Derived.Shelf.SlSortCmp.NoneTotal
import Derived.Deep.QuietTactic
import Derived.Deep.RegionWith
namespace Go.Proofs.YtckemiefcdpofaaDoor.OR
open Go Go.RowKit Go.Lib Go.Sort Go.Proofs.YtckemiefcdpofaaDoor.Mem Go.Proofs.YtckemiefcdpofaaDoor.PMsr Go.Proofs.YtckemiefcdpofaaDoorW.PrintWords Go.Proofs.YtckemiefcdpofaaDoorW.PrintLast Go.Proofs.YtckemiefcdpofaaDoorW.PrintMore
set_option linter.unusedVariables false
set_option linter.unnecessarySimpa false
set_option linter.unusedSimpArgs false
set_option maxRecDepth 100000
def cfE (x y : Int × Int) : Int := if x.1 < y.1 then -1 else if x.1 > y.1 then 1 else if x.2 < y.2 then -1 else if x.2 > y.2 then 1 else 0
theorem cmp_eq (a b : Int) : cmp_Compare_int.f a b = some (if a < b then -1 else if a > b then 1 else 0) := by
  unfold cmp_Compare_int.f cmp_isNaN_int.f
  rw [show (a != a) = false by simp, show (b != b) = false by simp]
  simp only [Option.bind_some, if_neg (show ¬ (false = true) by decide)]
  split
  · rfl
  · split <;> rfl
theorem compare_eq (x y : Int × Int) : slices_Compare_int_int.f 3 [x.1, x.2] [y.1, y.2] = some (cfE x y) := by
  obtain ⟨a, b⟩ := x
  obtain ⟨c, d⟩ := y
  unfold slices_Compare_int_int.f cfE
  dsimp only
  have h0 : ∀ k, slices_Compare_int_int.l0 (k + 1) [a, b] [c, d] [a, b] 2 0 = (if (if a < c then (-1 : Int) else if a > c then 1 else 0) = 0 then (slices_Compare_int_int.l0 k [a, b] [c, d] [a, b] 2 1) else (some (if a < c then (-1 : Int) else if a > c then 1 else 0))) := by
    intro k
    rw [slices_Compare_int_int.l0, if_pos (by decide), if_pos (by decide), if_pos (by simp), if_neg (by simp), if_pos (by simp), show rd [a, b] 0 = a from rfl, show rd [c, d] 0 = c from rfl, cmp_eq, Option.bind_some, show wrap64 ((0 : Int) + 1) = 1 by unfold wrap64; omega]
  have h1 : ∀ k, slices_Compare_int_int.l0 (k + 1) [a, b] [c, d] [a, b] 2 1 = (if (if b < d then (-1 : Int) else if b > d then 1 else 0) = 0 then (slices_Compare_int_int.l0 k [a, b] [c, d] [a, b] 2 2) else (some (if b < d then (-1 : Int) else if b > d then 1 else 0))) := by
    intro k
    rw [slices_Compare_int_int.l0, if_pos (by decide), if_pos (by decide), if_pos (by simp), if_neg (by simp), if_pos (by simp), show rd [a, b] 1 = b from rfl, show rd [c, d] 1 = d from rfl, cmp_eq, Option.bind_some, show wrap64 ((1 : Int) + 1) = 2 by unfold wrap64; omega]
  have h2 : ∀ k, slices_Compare_int_int.l0 (k + 1) [a, b] [c, d] [a, b] 2 2 = some 0 := by
    intro k
    rw [slices_Compare_int_int.l0, if_neg (by decide), if_neg (by simp)]
  show slices_Compare_int_int.l0 3 [a, b] [c, d] [a, b] 2 0 = _
  rw [h0, h1, h2]
  by_cases g1 : a < c
  · rw [if_pos g1, if_neg (by decide), if_pos g1]
  · rw [if_neg g1, if_neg g1]
    by_cases g2 : a > c
    · rw [if_pos g2, if_neg (by decide), if_pos g2]
    · rw [if_neg g2, if_pos rfl, if_neg g2]
      by_cases g3 : b < d
      · rw [if_pos g3, if_neg (by decide)]
      · rw [if_neg g3]
        by_cases g4 : b > d
        · rw [if_pos g4, if_neg (by decide)]
        · rw [if_neg g4, if_pos rfl]
theorem row2 (w : World) (a b : Int) : Kd.C (Kd.int .i64) (w.alloc (.cells #[.int .i64 a, .int .i64 b] 52 (0, 0))) (some ⟨w.heap.size, 0, none⟩) 2 [a, b] := by
  have hB := Blk.here w 52 #[.int .i64 a, .int .i64 b]
  refine ⟨rfl, by simp [maxLen], fun _ => ⟨_, rfl, fun j p hj => ?_⟩⟩
  match j, hj with
  | 0, hj => injection hj with hj; subst hj; exact ⟨_, rfl, rfl, fun i u hu => by cases i with | zero => injection hu with hu; subst hu; simpa [Addr.add] using hB.cell 0 | succ i => simp at hu⟩
  | 1, hj => injection hj with hj; subst hj; exact ⟨_, rfl, rfl, fun i u hu => by cases i with | zero => injection hu with hu; subst hu; simpa [Addr.add, Kd.int, Kd.scalar] using hB.cell 1 | succ i => simp at hu⟩
  | j + 2, hj => simp at hj
theorem order36 (x y : Int × Int) (w : World) : Calls Tryd.prog 36 #[.agg #[.int .i64 x.1, .int .i64 x.2], .agg #[.int .i64 y.1, .int .i64 y.2]] w fun e w' => e = .returned (.int .i64 (cfE x y)) ∧ ∃ q os', w' = grow (w.drewN q) os' := by
  have hA := Kd.C_alloc (row2 w x.1 x.2) (.cells #[.int .i64 y.1, .int .i64 y.2] 52 (0, 0))
  have hB := row2 (w.alloc (.cells #[.int .i64 x.1, .int .i64 x.2] 52 (0, 0))) y.1 y.2
  rw [show (w.alloc (.cells #[.int .i64 x.1, .int .i64 x.2] 52 (0, 0))).heap.size = w.heap.size + 1 by simp] at hB
  have hc := Lib.hid (slices_Compare_int_int.calls 3 _ 2 [x.1, x.2] _ 2 [y.1, y.2] (cfE x y) ((w.alloc (.cells #[.int .i64 x.1, .int .i64 x.2] 52 (0, 0))).alloc (.cells #[.int .i64 y.1, .int .i64 y.2] 52 (0, 0))).drew (Kd.C_drew hA) (by simp) (Kd.C_drew hB) (by simp) (compare_eq x y))
  clear hA hB
  go_enter Tryd.func36, Tryd.ntmps36
  go_wp2_with fail
  go_region_with (first | (go_at_call 51; refine hc.out.mono ?_; rintro e w6 ⟨rfl, n, rfl⟩))
  go_wp2_with fail
  go_ret
  exact ⟨rfl, 1 + n, _, by rw [alloc_eq_grow, alloc_eq_grow, grow_grow]; rfl⟩
def encE (x : Int × Int) : List Value := [.int .i64 x.1, .int .i64 x.2]
theorem cmpLays (blk off size : Nat) (w : World) : CmpLays Tryd.prog 36 #[] encE 2 cfE blk off size w := fun _ _ _ _ x y => order36 x y _
theorem ltE (x y : Int × Int) : ltOf cfE x y = decide (x.1 < y.1 ∨ (x.1 = y.1 ∧ x.2 < y.2)) := by
  unfold ltOf cfE
  split
  · rw [decide_eq_decide]; omega
  · split
    · rw [decide_eq_decide]; omega
    · split
      · rw [decide_eq_decide]; omega
      · split <;> (rw [decide_eq_decide]; omega)
theorem swoE : SWO (ltOf cfE) where
  irrefl x := by rw [ltE]; simp
  trans x y z h1 h2 := by rw [ltE] at *; simp only [decide_eq_true_eq] at *; omega
  ntrans x y z h1 h2 := by rw [ltE] at *; simp only [decide_eq_false_iff_not] at *; omega
theorem totalE (x y : Int × Int) (h1 : ltOf cfE x y = false) (h2 : ltOf cfE y x = false) : x = y := by
  rw [ltE] at h1 h2
  simp only [decide_eq_false_iff_not] at h1 h2
  obtain ⟨a, b⟩ := x
  obtain ⟨c, d⟩ := y
  simp only [Prod.mk.injEq] at *
  omega
def sorted (d : List (Int × Int)) : List (Int × Int) := d.mergeSort fun x y => !(ltOf cfE) y x
theorem sort35 (blk off cap : Nat) (d : Array (Int × Int)) (w : World) (hH : HoldsK encE 2 w blk off d) (hblk : blk < w.heap.size) (hsz : d.size < 4611686018427387904) :
    Calls Tryd.prog 35 #[.slice (some ⟨blk, off, none⟩) d.size cap, .func (.func 36) #[] #[]] w fun e w' => e = .returned (.tuple #[]) ∧ ∃ n os, w' = sortWorldK encE 2 w blk off n (sorted d.toList).toArray os := by
  have eg : ∀ args w, (callFunc 36 args).run Tryd.prog w = .ok (.enter 36 args) w := enters_of Tryd.func36 (by kernel_rfl) rfl
  have aE : ∀ w, (isAgg 52).run Tryd.prog w = .ok true w := fun w => by kernel_rfl
  have zE : ∀ w, (Go.sizeOf 52).run Tryd.prog w = .ok 2 w := fun w => by kernel_rfl
  exact AnyQ.slices_SortFunc_total Tryd.sortE 2 aE zE encE (fun _ => rfl) (fun x v hv => by simp [encE] at hv; rcases hv with rfl | rfl <;> rfl) cfE swoE 36 #[] blk off cap d w eg (cmpLays blk off d.size w) hH hblk hsz totalE
theorem sort35_none (p : Option Addr) (cap : Nat) (fv : Value) (w : World) : Calls Tryd.prog 35 #[.slice p 0 cap, fv] w fun e w' => e = .returned (.tuple #[]) ∧ w' = w :=
  AnyF.slices_SortFunc_none Tryd.sortE p cap fv w
end Go.Proofs.YtckemiefcdpofaaDoor.OR
