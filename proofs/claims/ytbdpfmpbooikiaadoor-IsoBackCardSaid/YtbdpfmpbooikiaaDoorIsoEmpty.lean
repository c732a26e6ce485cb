/- The surface without points and triangles: what the program makes of it. -/
import Derived.Test.YtbdpfmpbooikiaaDoorMem
import Derived.Test.YtbdpfmpbooikiaaDoorPIsox1
import Derived.Deep.RegionWith
import Derived.Carry
import Derived.WalkLawsBesides
namespace Go.Proofs.YtbdpfmpbooikiaaDoor.IsoE
open Go Go.RowKit Go.Proofs.YtbdpfmpbooikiaaDoor.Mem Go.Proofs.YtbdpfmpbooikiaaDoor.PIso Go.Proofs.YtbdpfmpbooikiaaDoorW.PrintWords Go.Proofs.YtbdpfmpbooikiaaDoorW.PrintLast Go.Proofs.YtbdpfmpbooikiaaDoorW.PrintMore
set_option linter.unusedVariables false
set_option linter.unusedSimpArgs false

set_option maxRecDepth 100000 in
theorem clone51 (w : World) : Calls Tryd.prog 51 #[(.slice none 0 0)] w fun e w' => e = .returned (.slice none 0 0) ∧ w' = w := by
  have hq : ∀ w, Sem.run Tryd.prog (Go.binOp BinOp.eql 22 (Value.slice none 0 0) (Value.slice none 0 0)) w = .ok (.bool true) w := fun w => by first | rfl | kernel_rfl | (simp [Go.binOp, Tryd.underlying22]; done)
  go_enter Tryd.func51, Tryd.ntmps51
  go_wp2
  go_ret
  exact ⟨rfl, rfl⟩
set_option maxRecDepth 100000 in
theorem clone52 (w : World) : Calls Tryd.prog 52 #[(.slice none 0 0)] w fun e w' => e = .returned (.slice none 0 0) ∧ w' = w := by
  have hq : ∀ w, Sem.run Tryd.prog (Go.binOp BinOp.eql 23 (Value.slice none 0 0) (Value.slice none 0 0)) w = .ok (.bool true) w := fun w => by first | rfl | kernel_rfl | (simp [Go.binOp, Tryd.underlying23]; done)
  go_enter Tryd.func52, Tryd.ntmps52
  go_wp2
  go_ret
  exact ⟨rfl, rfl⟩

set_option maxRecDepth 100000 in
theorem plain38 (w : World) : Calls Tryd.prog 38 #[(.agg #[.slice none 0 0, .slice none 0 0])] w fun e w' => e = .returned (.bool true) ∧ Below w.heap.size w w' := by
  have hb := (Below.refl w.heap.size w).alloc (Nat.le_refl _) (.cells #[(.slice none 0 0), (.slice none 0 0)] 25 (0, 0))
  have hg := Blk.here w 25 #[(.slice none 0 0), (.slice none 0 0)]
  go_enter Tryd.func38, Tryd.ntmps38
  go_wp2_with fail
  generalize w.alloc (.cells #[(.slice none 0 0), (.slice none 0 0)] 25 (0, 0)) = w1 at *
  have c1 : w1.cell? ⟨w.heap.size, 1, none⟩ = some (.slice none 0 0) := hg.cell 1
  go_loopw [12] (fun v wr => v = .int .i64 0 ∧ wr = w1) (fun _ _ => 0)
  case atStart => exact ⟨rfl, rfl⟩
  case round =>
    obtain ⟨rfl, rfl⟩ := hrel
    go_wp2_with fail
    go_loopw [36] (fun v wr2 => v = .int .i64 0 ∧ wr2 = wr) (fun _ _ => 0)
    case atStart => exact ⟨rfl, rfl⟩
    case round =>
      obtain ⟨rfl, rfl⟩ := hrel
      go_wp2
      go_ret
      exact ⟨rfl, hb⟩

set_option maxRecDepth 100000 in
theorem table39 (w : World) : Calls Tryd.prog 39 #[(.agg #[.slice none 0 0, .slice none 0 0])] w fun e w' => ∃ v, e = .returned (.tuple #[v, .bool true]) ∧ Below w.heap.size w w' := by
  have hb := (Below.refl w.heap.size w).alloc (Nat.le_refl _) (.cells #[(.slice none 0 0), (.slice none 0 0)] 25 (0, 0))
  have hg := Blk.here w 25 #[(.slice none 0 0), (.slice none 0 0)]
  have hmm := @run_makeMap Tryd.prog
  go_enter Tryd.func39, Tryd.ntmps39
  go_wp2_with fail
  have hb2 := below_alloc hb (.map #[] 0)
  have hg2 := hg.alloc (.map #[] 0)
  generalize hw1 : w.alloc (.cells #[(.slice none 0 0), (.slice none 0 0)] 25 (0, 0)) = w1 at *
  generalize hw2 : w1.alloc (.map #[] 0) = w2 at *
  have c1 : w2.cell? ⟨w.heap.size, 1, none⟩ = some (.slice none 0 0) := hg2.cell 1
  clear hw1 hw2
  go_loopw [15] (fun v wr => v = .int .i64 0 ∧ wr = w2) (fun _ _ => 0)
  case atStart => exact ⟨rfl, rfl⟩
  case round =>
    obtain ⟨rfl, rfl⟩ := hrel
    go_wp2
    go_ret2
    exact ⟨_, rfl, hb2⟩
set_option maxRecDepth 100000 in
theorem fans40 (w : World) (v : Value) : Calls Tryd.prog 40 #[(.agg #[.slice none 0 0, .slice none 0 0]), v] w fun e w' => e = .returned (.bool true) ∧ Below w.heap.size w w' := by
  have hb := (Below.refl w.heap.size w).alloc (Nat.le_refl _) (.cells #[(.slice none 0 0), (.slice none 0 0)] 25 (0, 0))
  have hg := Blk.here w 25 #[(.slice none 0 0), (.slice none 0 0)]
  go_enter Tryd.func40, Tryd.ntmps40
  go_wp2_with (first | ((with_reducible refine gate_dst (N := 16) rfl ?_); refine Kd.R_make (Kd.int .i64) _ 3 rfl (N := 16) rfl 26 _ _ rfl (0 : Int) rfl rfl Tryd.underlying26 (.int .i64 0) 8 info3 rfl (by decide) (by omega) 0 (ok := fun _ => True) (okp := fun _ => True) rfl (fun _ hk => hk) trivial (by decide) (by decide) (Below.refl _ _) (Nat.le_refl _) ?_; intro v1 w5 ho5 hb5 hg5 hn5; have hgg := hg.below hb5; have hB := hb.trans (hb5.mono hb.size); clear hb hg hb5 hg5 hn5; have c0 := hgg.cell 0; have c1 := hgg.cell 1) | ((with_reducible refine gate_dst (N := 20) rfl ?_); refine Kd.R_make (Kd.int .i64) _ 3 rfl (N := 20) rfl 26 _ _ rfl (0 : Int) rfl rfl Tryd.underlying26 (.int .i64 0) 8 info3 rfl (by decide) (by omega) 0 (ok := fun _ => True) (okp := fun _ => True) rfl (fun _ hk => hk) trivial (by decide) (by decide) (Below.refl _ _) (Nat.le_refl _) ?_; intro v2 w6 ho6 hb6 hg6 hn6; have ho5' := Kd.R_below ho5 hb6; have hgg6 := hgg.below hb6; have hB6 := hB.trans (hb6.mono hB.size); clear ho5 hgg hB hb6 hg6 hn6 c0 c1; have c0 := hgg6.cell 0; have c1 := hgg6.cell 1))
  obtain ⟨A1, k1, rfl⟩ := Kd.R_slice ho5'
  go_loopw [24] (fun v wr => v = .int .i64 0 ∧ wr = w6) (fun _ _ => 0)
  case atStart => exact ⟨rfl, rfl⟩
  case round =>
    obtain ⟨rfl, rfl⟩ := hrel
    go_wp2_with fail
    go_loopw [47] (fun v wr2 => v = .int .i64 0 ∧ wr2 = wr) (fun _ _ => 0)
    case atStart => exact ⟨rfl, rfl⟩
    case round =>
      obtain ⟨rfl, rfl⟩ := hrel
      go_wp2
      go_ret
      exact ⟨rfl, hB6⟩

set_option maxRecDepth 100000 in
theorem check28 (w : World) : Calls Tryd.prog 28 #[(.agg #[.slice none 0 0, .slice none 0 0])] w fun e w' => e = .returned (.int .i64 0) ∧ Below w.heap.size w w' := by
  have hb := (Below.refl w.heap.size w).alloc (Nat.le_refl _) (.cells #[(.slice none 0 0), (.slice none 0 0)] 25 (0, 0))
  have hg := Blk.here w 25 #[(.slice none 0 0), (.slice none 0 0)]
  go_enter Tryd.func28, Tryd.ntmps28
  go_wp2_with fail
  refine (plain38 _).mono ?_
  rintro e w1 ⟨rfl, hb1⟩
  have hg1 := hg.below hb1
  have hB1 := hb.trans (hb1.mono hb.size)
  have c0 : w1.cell? ⟨w.heap.size, 0, none⟩ = some (.slice none 0 0) := hg1.cell 0
  have c1 : w1.cell? ⟨w.heap.size, 1, none⟩ = some (.slice none 0 0) := hg1.cell 1
  go_wp2_with fail
  refine (table39 _).mono ?_
  rintro e w2 ⟨v, rfl, hb2⟩
  have hg2 := hg1.below hb2
  have hB2 := hB1.trans (hb2.mono hB1.size)
  have d0 : w2.cell? ⟨w.heap.size, 0, none⟩ = some (.slice none 0 0) := hg2.cell 0
  have d1 : w2.cell? ⟨w.heap.size, 1, none⟩ = some (.slice none 0 0) := hg2.cell 1
  clear hb hg hb1 hg1 hB1 c0 c1 hb2
  go_wp2_with fail
  refine (fans40 _ v).mono ?_
  rintro e w3 ⟨rfl, hb3⟩
  go_wp2
  go_ret
  exact ⟨rfl, hB2.trans (hb3.mono hB2.size)⟩

set_option maxHeartbeats 4000000 in
set_option maxRecDepth 100000 in
theorem copy41 (w : World) : Calls Tryd.prog 41 #[(.agg #[.slice none 0 0, .slice none 0 0])] w fun e w' => e = .returned (.agg #[.slice none 0 0, .slice none 0 0]) ∧ Below w.heap.size w w' := by
  have hb := ((Below.refl w.heap.size w).alloc (Nat.le_refl _) (.cells #[(.slice none 0 0), (.slice none 0 0)] 25 (0, 0))).alloc (by simp) (.cells #[(.slice none 0 0), (.slice none 0 0)] 25 (0, 0))
  have hg := (Blk.here w 25 #[(.slice none 0 0), (.slice none 0 0)]).alloc (.cells #[(.slice none 0 0), (.slice none 0 0)] 25 (0, 0))
  have hr := Blk.here (w.alloc (.cells #[(.slice none 0 0), (.slice none 0 0)] 25 (0, 0))) 25 #[(.slice none 0 0), (.slice none 0 0)]
  rw [show (w.alloc (.cells #[(.slice none 0 0), (.slice none 0 0)] 25 (0, 0))).heap.size = w.heap.size + 1 by simp] at hr
  go_enter Tryd.func41, Tryd.ntmps41
  go_wp2_with fail
  generalize (w.alloc (.cells #[(.slice none 0 0), (.slice none 0 0)] 25 (0, 0))).alloc (.cells #[(.slice none 0 0), (.slice none 0 0)] 25 (0, 0)) = w1 at *
  have c0 : w1.cell? ⟨w.heap.size, 0, none⟩ = some (.slice none 0 0) := hg.cell 0
  have c1 : w1.cell? ⟨w.heap.size, 1, none⟩ = some (.slice none 0 0) := hg.cell 1
  have r0 : w1.cell? ⟨w.heap.size + 1, 0, none⟩ = some (.slice none 0 0) := hr.cell 0
  have r1 : w1.cell? ⟨w.heap.size + 1, 1, none⟩ = some (.slice none 0 0) := hr.cell 1
  have f0 : w1.frozen? ⟨w.heap.size + 1, 0, none⟩ = false := hr.frozen 0
  have f1 : w1.frozen? ⟨w.heap.size + 1, 1, none⟩ = false := hr.frozen 1
  go_region_with (first | (go_at_call 51; refine (clone51 _).mono ?_; rintro e w' ⟨rfl, rfl⟩) | (go_at_call 52; refine (clone52 _).mono ?_; rintro e w' ⟨rfl, rfl⟩))
  all_goals (
    go_wp2
    refine bodyPost_ret (v := .agg #[.slice none 0 0, .slice none 0 0]) (by rw [results, show Tryd.f41.results = #[.cell 2 25] from rfl]; go_simp) rfl ?_
    exact ⟨rfl, by repeat (first | exact hb | apply pw_below_drewN | apply below_drew1 | (refine Below.setCell ?_ (by simp) _))⟩)
end Go.Proofs.YtbdpfmpbooikiaaDoor.IsoE
