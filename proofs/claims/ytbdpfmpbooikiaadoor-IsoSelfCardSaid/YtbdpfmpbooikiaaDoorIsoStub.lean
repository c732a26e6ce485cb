import Derived.Test.YtbdpfmpbooikiaaDoorMem
import Derived.Test.YtbdpfmpbooikiaaDoorPIsrx3
import Derived.Deep.RegionWith
import Derived.Carry
import Derived.WalkLawsBesides
import Derived.Test.YtbdpfmpbooikiaaDoorPIsrx5
namespace Go.Proofs.YtbdpfmpbooikiaaDoor.IsoE
open Go Go.RowKit Go.Proofs.YtbdpfmpbooikiaaDoor.Mem Go.Proofs.YtbdpfmpbooikiaaDoor.PIsr Go.Proofs.YtbdpfmpbooikiaaDoorW.PrintWords Go.Proofs.YtbdpfmpbooikiaaDoorW.PrintLast Go.Proofs.YtbdpfmpbooikiaaDoorW.PrintMore
set_option linter.unusedVariables false
set_option linter.unusedSimpArgs false
set_option maxRecDepth 100000 in
theorem clone51 (w : World) : Calls Tryd.prog 51 #[(.slice none 0 0)] w fun e w' => e = .returned (.slice none 0 0) ∧ w' = w := by
  have hq : ∀ w, Sem.run Tryd.prog (Go.binOp BinOp.eql 22 (Value.slice none 0 0) (Value.slice none 0 0)) w = .ok (.bool true) w := fun w => by first | rfl | kernel_rfl | (simp [Go.binOp, Tryd.underlying22]; done)
  go_enter Tryd.func51, Tryd.ntmps51
  go_wp2
  go_ret
  exact ⟨rfl, rfl⟩
set_option maxRecDepth 100000 in
theorem clone52 (w : World) : Calls Tryd.prog 52 #[(.slice none 0 0)] w fun e w' => e = .returned (.slice none 0 0) ∧ w' = w := by
  have hq : ∀ w, Sem.run Tryd.prog (Go.binOp BinOp.eql 23 (Value.slice none 0 0) (Value.slice none 0 0)) w = .ok (.bool true) w := fun w => by first | rfl | kernel_rfl | (simp [Go.binOp, Tryd.underlying23]; done)
  go_enter Tryd.func52, Tryd.ntmps52
  go_wp2
  go_ret
  exact ⟨rfl, rfl⟩
set_option maxRecDepth 100000 in
theorem plain38 (w : World) : Calls Tryd.prog 38 #[(.agg #[.slice none 0 0, .slice none 0 0])] w fun e w' => e = .returned (.bool true) ∧ Below w.heap.size w w' := by
  have hb := (Below.refl w.heap.size w).alloc (Nat.le_refl _) (.cells #[(.slice none 0 0), (.slice none 0 0)] 25 (0, 0))
  have hg := Blk.here w 25 #[(.slice none 0 0), (.slice none 0 0)]
  go_enter Tryd.func38, Tryd.ntmps38
  go_wp2_with fail
  generalize w.alloc (.cells #[(.slice none 0 0), (.slice none 0 0)] 25 (0, 0)) = w1 at *
  have c1 : w1.cell? ⟨w.heap.size, 1, none⟩ = some (.slice none 0 0) := hg.cell 1
  go_loopw [12] (fun v wr => v = .int .i64 0 ∧ wr = w1) (fun _ _ => 0)
  case atStart => exact ⟨rfl, rfl⟩
  case round =>
    obtain ⟨rfl, rfl⟩ := hrel
    go_wp2_with fail
    go_loopw [36] (fun v wr2 => v = .int .i64 0 ∧ wr2 = wr) (fun _ _ => 0)
    case atStart => exact ⟨rfl, rfl⟩
    case round =>
      obtain ⟨rfl, rfl⟩ := hrel
      go_wp2
      go_ret
      exact ⟨rfl, hb⟩
set_option maxRecDepth 100000 in
theorem table39 (w : World) : Calls Tryd.prog 39 #[(.agg #[.slice none 0 0, .slice none 0 0])] w fun e w' => ∃ v, e = .returned (.tuple #[v, .bool true]) ∧ Below w.heap.size w w' := by
  have hb := (Below.refl w.heap.size w).alloc (Nat.le_refl _) (.cells #[(.slice none 0 0), (.slice none 0 0)] 25 (0, 0))
  have hg := Blk.here w 25 #[(.slice none 0 0), (.slice none 0 0)]
  have hmm := @run_makeMap Tryd.prog
  go_enter Tryd.func39, Tryd.ntmps39
  go_wp2_with fail
  have hb2 := below_alloc hb (.map #[] 0)
  have hg2 := hg.alloc (.map #[] 0)
  generalize hw1 : w.alloc (.cells #[(.slice none 0 0), (.slice none 0 0)] 25 (0, 0)) = w1 at *
  generalize hw2 : w1.alloc (.map #[] 0) = w2 at *
  have c1 : w2.cell? ⟨w.heap.size, 1, none⟩ = some (.slice none 0 0) := hg2.cell 1
  clear hw1 hw2
  go_loopw [15] (fun v wr => v = .int .i64 0 ∧ wr = w2) (fun _ _ => 0)
  case atStart => exact ⟨rfl, rfl⟩
  case round =>
    obtain ⟨rfl, rfl⟩ := hrel
    go_wp2
    go_ret2
    exact ⟨_, rfl, hb2⟩
set_option maxRecDepth 100000 in
theorem fans40 (w : World) (v : Value) : Calls Tryd.prog 40 #[(.agg #[.slice none 0 0, .slice none 0 0]), v] w fun e w' => e = .returned (.bool true) ∧ Below w.heap.size w w' := by
  have hb := (Below.refl w.heap.size w).alloc (Nat.le_refl _) (.cells #[(.slice none 0 0), (.slice none 0 0)] 25 (0, 0))
  have hg := Blk.here w 25 #[(.slice none 0 0), (.slice none 0 0)]
  go_enter Tryd.func40, Tryd.ntmps40
  go_wp2_with (first | ((with_reducible refine gate_dst (N := 16) rfl ?_); refine Kd.R_make (Kd.int .i64) _ 3 rfl (N := 16) rfl 26 _ _ rfl (0 : Int) rfl rfl Tryd.underlying26 (.int .i64 0) 8 info3 rfl (by decide) (by omega) 0 (ok := fun _ => True) (okp := fun _ => True) rfl (fun _ hk => hk) trivial (by decide) (by decide) (Below.refl _ _) (Nat.le_refl _) ?_; intro v1 w5 ho5 hb5 hg5 hn5; have hgg := hg.below hb5; have hB := hb.trans (hb5.mono hb.size); clear hb hg hb5 hg5 hn5; have c0 := hgg.cell 0; have c1 := hgg.cell 1) | ((with_reducible refine gate_dst (N := 20) rfl ?_); refine Kd.R_make (Kd.int .i64) _ 3 rfl (N := 20) rfl 26 _ _ rfl (0 : Int) rfl rfl Tryd.underlying26 (.int .i64 0) 8 info3 rfl (by decide) (by omega) 0 (ok := fun _ => True) (okp := fun _ => True) rfl (fun _ hk => hk) trivial (by decide) (by decide) (Below.refl _ _) (Nat.le_refl _) ?_; intro v2 w6 ho6 hb6 hg6 hn6; have ho5' := Kd.R_below ho5 hb6; have hgg6 := hgg.below hb6; have hB6 := hB.trans (hb6.mono hB.size); clear ho5 hgg hB hb6 hg6 hn6 c0 c1; have c0 := hgg6.cell 0; have c1 := hgg6.cell 1))
  obtain ⟨A1, k1, rfl⟩ := Kd.R_slice ho5'
  go_loopw [24] (fun v wr => v = .int .i64 0 ∧ wr = w6) (fun _ _ => 0)
  case atStart => exact ⟨rfl, rfl⟩
  case round =>
    obtain ⟨rfl, rfl⟩ := hrel
    go_wp2_with fail
    go_loopw [47] (fun v wr2 => v = .int .i64 0 ∧ wr2 = wr) (fun _ _ => 0)
    case atStart => exact ⟨rfl, rfl⟩
    case round =>
      obtain ⟨rfl, rfl⟩ := hrel
      go_wp2
      go_ret
      exact ⟨rfl, hB6⟩
set_option maxRecDepth 100000 in
theorem check28 (w : World) : Calls Tryd.prog 28 #[(.agg #[.slice none 0 0, .slice none 0 0])] w fun e w' => e = .returned (.int .i64 0) ∧ Below w.heap.size w w' := by
  have hb := (Below.refl w.heap.size w).alloc (Nat.le_refl _) (.cells #[(.slice none 0 0), (.slice none 0 0)] 25 (0, 0))
  have hg := Blk.here w 25 #[(.slice none 0 0), (.slice none 0 0)]
  go_enter Tryd.func28, Tryd.ntmps28
  go_wp2_with fail
  refine (plain38 _).mono ?_
  rintro e w1 ⟨rfl, hb1⟩
  have hg1 := hg.below hb1
  have hB1 := hb.trans (hb1.mono hb.size)
  have c0 : w1.cell? ⟨w.heap.size, 0, none⟩ = some (.slice none 0 0) := hg1.cell 0
  have c1 : w1.cell? ⟨w.heap.size, 1, none⟩ = some (.slice none 0 0) := hg1.cell 1
  go_wp2_with fail
  refine (table39 _).mono ?_
  rintro e w2 ⟨v, rfl, hb2⟩
  have hg2 := hg1.below hb2
  have hB2 := hB1.trans (hb2.mono hB1.size)
  have d0 : w2.cell? ⟨w.heap.size, 0, none⟩ = some (.slice none 0 0) := hg2.cell 0
  have d1 : w2.cell? ⟨w.heap.size, 1, none⟩ = some (.slice none 0 0) := hg2.cell 1
  clear hb hg hb1 hg1 hB1 c0 c1 hb2
  go_wp2_with fail
  refine (fans40 _ v).mono ?_
  rintro e w3 ⟨rfl, hb3⟩
  go_wp2
  go_ret
  exact ⟨rfl, hB2.trans (hb3.mono hB2.size)⟩
set_option maxHeartbeats 4000000 in
set_option maxRecDepth 100000 in
theorem copy41 (w : World) : Calls Tryd.prog 41 #[(.agg #[.slice none 0 0, .slice none 0 0])] w fun e w' => e = .returned (.agg #[.slice none 0 0, .slice none 0 0]) ∧ Below w.heap.size w w' := by
  have hb := ((Below.refl w.heap.size w).alloc (Nat.le_refl _) (.cells #[(.slice none 0 0), (.slice none 0 0)] 25 (0, 0))).alloc (by simp) (.cells #[(.slice none 0 0), (.slice none 0 0)] 25 (0, 0))
  have hg := (Blk.here w 25 #[(.slice none 0 0), (.slice none 0 0)]).alloc (.cells #[(.slice none 0 0), (.slice none 0 0)] 25 (0, 0))
  have hr := Blk.here (w.alloc (.cells #[(.slice none 0 0), (.slice none 0 0)] 25 (0, 0))) 25 #[(.slice none 0 0), (.slice none 0 0)]
  rw [show (w.alloc (.cells #[(.slice none 0 0), (.slice none 0 0)] 25 (0, 0))).heap.size = w.heap.size + 1 by simp] at hr
  go_enter Tryd.func41, Tryd.ntmps41
  go_wp2_with fail
  generalize (w.alloc (.cells #[(.slice none 0 0), (.slice none 0 0)] 25 (0, 0))).alloc (.cells #[(.slice none 0 0), (.slice none 0 0)] 25 (0, 0)) = w1 at *
  have c0 : w1.cell? ⟨w.heap.size, 0, none⟩ = some (.slice none 0 0) := hg.cell 0
  have c1 : w1.cell? ⟨w.heap.size, 1, none⟩ = some (.slice none 0 0) := hg.cell 1
  have r0 : w1.cell? ⟨w.heap.size + 1, 0, none⟩ = some (.slice none 0 0) := hr.cell 0
  have r1 : w1.cell? ⟨w.heap.size + 1, 1, none⟩ = some (.slice none 0 0) := hr.cell 1
  have f0 : w1.frozen? ⟨w.heap.size + 1, 0, none⟩ = false := hr.frozen 0
  have f1 : w1.frozen? ⟨w.heap.size + 1, 1, none⟩ = false := hr.frozen 1
  go_region_with (first | (go_at_call 51; refine (clone51 _).mono ?_; rintro e w' ⟨rfl, rfl⟩) | (go_at_call 52; refine (clone52 _).mono ?_; rintro e w' ⟨rfl, rfl⟩))
  all_goals (
    go_wp2
    refine bodyPost_ret (v := .agg #[.slice none 0 0, .slice none 0 0]) (by rw [results, show Tryd.f41.results = #[.cell 2 25] from rfl]; go_simp) rfl ?_
    exact ⟨rfl, by repeat (first | exact hb | apply pw_below_drewN | apply below_drew1 | (refine Below.setCell ?_ (by simp) _))⟩)
end Go.Proofs.YtbdpfmpbooikiaaDoor.IsoE
namespace Go.Proofs.YtbdpfmpbooikiaaDoor.IsoE
open Go Go.RowKit Go.Proofs.YtbdpfmpbooikiaaDoor.Mem Go.Proofs.YtbdpfmpbooikiaaDoor.PIsr Go.Proofs.YtbdpfmpbooikiaaDoorW.PrintWords Go.Proofs.YtbdpfmpbooikiaaDoorW.PrintLast Go.Proofs.YtbdpfmpbooikiaaDoorW.PrintMore
set_option linter.unusedVariables false
set_option linter.unusedSimpArgs false
set_option maxHeartbeats 4000000 in
set_option maxRecDepth 100000 in
theorem renamed29 (w : World) : Calls Tryd.prog 29 #[(.agg #[.slice none 0 0, .slice none 0 0]), .slice none 0 0] w fun e w' => e = .returned (.agg #[.slice none 0 0, .slice none 0 0]) ∧ Below w.heap.size w w' := by
  have hb := ((Below.refl w.heap.size w).alloc (Nat.le_refl _) (.cells #[(.slice none 0 0), (.slice none 0 0)] 25 (0, 0))).alloc (by simp) (.cells #[(.slice none 0 0), (.slice none 0 0)] 25 (0, 0))
  have hg := (Blk.here w 25 #[(.slice none 0 0), (.slice none 0 0)]).alloc (.cells #[(.slice none 0 0), (.slice none 0 0)] 25 (0, 0))
  have hr := Blk.here (w.alloc (.cells #[(.slice none 0 0), (.slice none 0 0)] 25 (0, 0))) 25 #[(.slice none 0 0), (.slice none 0 0)]
  rw [show (w.alloc (.cells #[(.slice none 0 0), (.slice none 0 0)] 25 (0, 0))).heap.size = w.heap.size + 1 by simp] at hr
  go_enter Tryd.func29, Tryd.ntmps29
  go_wp2_with fail
  generalize (w.alloc (.cells #[(.slice none 0 0), (.slice none 0 0)] 25 (0, 0))).alloc (.cells #[(.slice none 0 0), (.slice none 0 0)] 25 (0, 0)) = w1 at *
  refine (copy41 _).mono ?_
  rintro e w2 ⟨rfl, hb2⟩
  have B2 := hb.trans (hb2.mono hb.size)
  have g2 := hg.below hb2
  have r2 := hr.below hb2
  have l1 := g2.lt
  have l2 := r2.lt
  have h5 := Blk.here w2 25 #[(.slice none 0 0), (.slice none 0 0)]
  have g3 := g2.alloc (.cells #[(.slice none 0 0), (.slice none 0 0)] 25 (0, 0))
  have r3 := r2.alloc (.cells #[(.slice none 0 0), (.slice none 0 0)] 25 (0, 0))
  have B3 := below_alloc B2 (.cells #[(.slice none 0 0), (.slice none 0 0)] 25 (0, 0))
  clear hb hg hr hb2 g2 r2
  have n1 : w2.heap.size ≠ w.heap.size := by omega
  have n2 : w.heap.size ≠ w2.heap.size := by omega
  have c0 : (w2.alloc (.cells #[(.slice none 0 0), (.slice none 0 0)] 25 (0, 0))).cell? ⟨w.heap.size, 0, none⟩ = some (.slice none 0 0) := g3.cell 0
  go_wp2_with fail
  generalize w2.alloc (.cells #[(.slice none 0 0), (.slice none 0 0)] 25 (0, 0)) = w3 at *
  clear c0
  go_loopw [17] (fun v wr => v = .int .i64 0 ∧ wr = w3) (fun _ _ => 0)
  case atStart => exact ⟨rfl, rfl⟩
  case round =>
    obtain ⟨rfl, rfl⟩ := hrel
    have c1 : wr.cell? ⟨w.heap.size, 1, none⟩ = some (.slice none 0 0) := g3.cell 1
    have y0 : wr.cell? ⟨w2.heap.size, 0, none⟩ = some (.slice none 0 0) := h5.cell 0
    have y1 : wr.cell? ⟨w2.heap.size, 1, none⟩ = some (.slice none 0 0) := h5.cell 1
    have z0 : wr.frozen? ⟨w.heap.size + 1, 0, none⟩ = false := r3.frozen 0
    have z1 : wr.frozen? ⟨w.heap.size + 1, 1, none⟩ = false := r3.frozen 1
    have x0 : wr.cell? ⟨w.heap.size + 1, 0, none⟩ = some (.slice none 0 0) := r3.cell 0
    have x1 : wr.cell? ⟨w.heap.size + 1, 1, none⟩ = some (.slice none 0 0) := r3.cell 1
    go_wp2_with fail
    go_loopw [34] (fun v wr2 => v = .int .i64 0 ∧ wr2 = wr) (fun _ _ => 0)
    case atStart => exact ⟨rfl, rfl⟩
    case round =>
      obtain ⟨rfl, rfl⟩ := hrel
      go_wp2
      refine bodyPost_ret (v := .agg #[.slice none 0 0, .slice none 0 0]) (by rw [results, show Tryd.f29.results = #[.cell 4 25] from rfl]; go_simp) rfl ?_
      exact ⟨rfl, (B3.setCell (p := ⟨w.heap.size + 1, 0, none⟩) (by simp) _).setCell (p := ⟨w.heap.size + 1, 1, none⟩) (by simp) _⟩
theorem back_nil : iso_Back.f 3 [] = some ([], true) := by decide +kernel
set_option maxHeartbeats 4000000 in
set_option maxRecDepth 100000 in
theorem Renamed13 (w : World) : Calls Tryd.prog 13 #[(.agg #[.slice none 0 0, .slice none 0 0]), .slice none 0 0] w fun e w' => e = .returned (.tuple #[.agg #[.slice none 0 0, .slice none 0 0], .int .i64 0]) ∧ Below w.heap.size w w' := by
  have hb := ((Below.refl w.heap.size w).alloc (Nat.le_refl _) (.cells #[(.slice none 0 0), (.slice none 0 0)] 25 (0, 0))).alloc (by simp) (.cells #[(.slice none 0 0), (.slice none 0 0)] 25 (0, 0))
  have hg := (Blk.here w 25 #[(.slice none 0 0), (.slice none 0 0)]).alloc (.cells #[(.slice none 0 0), (.slice none 0 0)] 25 (0, 0))
  have hr := Blk.here (w.alloc (.cells #[(.slice none 0 0), (.slice none 0 0)] 25 (0, 0))) 25 #[(.slice none 0 0), (.slice none 0 0)]
  rw [show (w.alloc (.cells #[(.slice none 0 0), (.slice none 0 0)] 25 (0, 0))).heap.size = w.heap.size + 1 by simp] at hr
  go_enter Tryd.func13, Tryd.ntmps13
  go_wp2_with fail
  generalize (w.alloc (.cells #[(.slice none 0 0), (.slice none 0 0)] 25 (0, 0))).alloc (.cells #[(.slice none 0 0), (.slice none 0 0)] 25 (0, 0)) = w1 at *
  refine (check28 _).mono ?_
  rintro e w2 ⟨rfl, hb2⟩
  have B2 := hb.trans (hb2.mono hb.size)
  have g2 := hg.below hb2
  have r2 := hr.below hb2
  clear hb hg hr hb2
  go_wp2_with fail
  refine (iso_Back.calls 3 none 0 [] [] true _ (Kd.C_nil _ _) (Nat.le_refl _) back_nil).mono ?_
  rintro e w3 ⟨v0, rfl, hv, hb3⟩
  have B3 := B2.trans (hb3.mono B2.size)
  have g3 := g2.below hb3
  have r3 := r2.below hb3
  have c0 : w3.cell? ⟨w.heap.size, 0, none⟩ = some (.slice none 0 0) := g3.cell 0
  have c1 : w3.cell? ⟨w.heap.size, 1, none⟩ = some (.slice none 0 0) := g3.cell 1
  clear B2 g2 r2 hb3 hv
  go_wp2_with fail
  refine (renamed29 _).mono ?_
  rintro e w4 ⟨rfl, hb4⟩
  have B4 := B3.trans (hb4.mono B3.size)
  have r4 := r3.below hb4
  have z0 : w4.frozen? ⟨w.heap.size + 1, 0, none⟩ = false := r4.frozen 0
  have z1 : w4.frozen? ⟨w.heap.size + 1, 1, none⟩ = false := r4.frozen 1
  have x0 : w4.cell? ⟨w.heap.size + 1, 0, none⟩ = some (.slice none 0 0) := r4.cell 0
  have x1 : w4.cell? ⟨w.heap.size + 1, 1, none⟩ = some (.slice none 0 0) := r4.cell 1
  clear B3 g3 r3 hb4 c0 c1
  go_wp2
  refine bodyPost_ret (v := .tuple #[.agg #[.slice none 0 0, .slice none 0 0], .int .i64 0]) (by rw [results, show Tryd.f13.results = #[.cell 4 25, .tmp 5] from rfl]; go_simp) rfl ?_
  exact ⟨rfl, (B4.setCell (p := ⟨w.heap.size + 1, 0, none⟩) (by simp) _).setCell (p := ⟨w.heap.size + 1, 1, none⟩) (by simp) _⟩
set_option maxHeartbeats 4000000 in
set_option maxRecDepth 100000 in
theorem Is15 (w : World) : Calls Tryd.prog 15 #[(.agg #[.slice none 0 0, .slice none 0 0]), (.agg #[.slice none 0 0, .slice none 0 0]), .slice none 0 0] w fun e w' => e = .returned (.bool true) ∧ Below w.heap.size w w' := by
  have hb := ((Below.refl w.heap.size w).alloc (Nat.le_refl _) (.cells #[(.slice none 0 0), (.slice none 0 0)] 25 (0, 0))).alloc (by simp) (.cells #[(.slice none 0 0), (.slice none 0 0)] 25 (0, 0))
  have hg := (Blk.here w 25 #[(.slice none 0 0), (.slice none 0 0)]).alloc (.cells #[(.slice none 0 0), (.slice none 0 0)] 25 (0, 0))
  have hr := Blk.here (w.alloc (.cells #[(.slice none 0 0), (.slice none 0 0)] 25 (0, 0))) 25 #[(.slice none 0 0), (.slice none 0 0)]
  rw [show (w.alloc (.cells #[(.slice none 0 0), (.slice none 0 0)] 25 (0, 0))).heap.size = w.heap.size + 1 by simp] at hr
  have hmm := @run_makeMap Tryd.prog
  go_enter Tryd.func15, Tryd.ntmps15
  go_wp2_with fail
  generalize (w.alloc (.cells #[(.slice none 0 0), (.slice none 0 0)] 25 (0, 0))).alloc (.cells #[(.slice none 0 0), (.slice none 0 0)] 25 (0, 0)) = w1 at *
  refine (Renamed13 _).mono ?_
  rintro e w2 ⟨rfl, hb2⟩
  have B2 := hb.trans (hb2.mono hb.size)
  have g2 := hg.below hb2
  have r2 := hr.below hb2
  have l1 := g2.lt
  have l2 := r2.lt
  have h3 := Blk.here w2 25 #[(.slice none 0 0), (.slice none 0 0)]
  have g3 := g2.alloc (.cells #[(.slice none 0 0), (.slice none 0 0)] 25 (0, 0))
  have r3 := r2.alloc (.cells #[(.slice none 0 0), (.slice none 0 0)] 25 (0, 0))
  have B3 := below_alloc B2 (.cells #[(.slice none 0 0), (.slice none 0 0)] 25 (0, 0))
  have n1 : w2.heap.size ≠ w.heap.size := by omega
  have n2 : w.heap.size ≠ w2.heap.size := by omega
  have n3 : w.heap.size + 1 ≠ w2.heap.size := by omega
  have c0 : (w2.alloc (.cells #[(.slice none 0 0), (.slice none 0 0)] 25 (0, 0))).cell? ⟨w.heap.size + 1, 0, none⟩ = some (.slice none 0 0) := r3.cell 0
  have c1 : (w2.alloc (.cells #[(.slice none 0 0), (.slice none 0 0)] 25 (0, 0))).cell? ⟨w.heap.size + 1, 1, none⟩ = some (.slice none 0 0) := r3.cell 1
  clear hb hg hr hb2 g2 r2
  go_wp2_with fail
  generalize w2.alloc (.cells #[(.slice none 0 0), (.slice none 0 0)] 25 (0, 0)) = w3 at *
  refine (check28 _).mono ?_
  rintro e w4 ⟨rfl, hb4⟩
  have h4 := h3.below hb4
  have g4 := g3.below hb4
  have r4 := r3.below hb4
  have B4 := B3.trans (hb4.mono B3.size)
  clear c0 c1 h3 g3 r3 B3 hb4
  have a0 : w4.cell? ⟨w.heap.size, 0, none⟩ = some (.slice none 0 0) := g4.cell 0
  have a1 : w4.cell? ⟨w.heap.size, 1, none⟩ = some (.slice none 0 0) := g4.cell 1
  have c0 : w4.cell? ⟨w.heap.size + 1, 0, none⟩ = some (.slice none 0 0) := r4.cell 0
  have c1 : w4.cell? ⟨w.heap.size + 1, 1, none⟩ = some (.slice none 0 0) := r4.cell 1
  have d0 : w4.cell? ⟨w2.heap.size, 0, none⟩ = some (.slice none 0 0) := h4.cell 0
  have d1 : w4.cell? ⟨w2.heap.size, 1, none⟩ = some (.slice none 0 0) := h4.cell 1
  go_wp2_with fail
  go_loopw [51] (fun v wr => v = .int .i64 0 ∧ wr = w4) (fun _ _ => 0)
  case atStart => exact ⟨rfl, rfl⟩
  case round =>
    obtain ⟨rfl, rfl⟩ := hrel
    have h5 := h4.alloc (.map #[] 0)
    have r5 := r4.alloc (.map #[] 0)
    have B5 := below_alloc B4 (.map #[] 0)
    have d1' : (wr.alloc (.map #[] 0)).cell? ⟨w2.heap.size, 1, none⟩ = some (.slice none 0 0) := h5.cell 1
    go_wp2_with fail
    generalize wr.alloc (.map #[] 0) = w5 at *
    go_loopw [68] (fun v wr2 => v = .int .i64 0 ∧ wr2 = w5) (fun _ _ => 0)
    case atStart => exact ⟨rfl, rfl⟩
    case round =>
      obtain ⟨rfl, rfl⟩ := hrel
      have c2 := r5.cell 1
      rw [show (#[(Value.slice none 0 0), (Value.slice none 0 0)] : Array Value)[1]? = some (.slice none 0 0) from rfl] at c2
      go_wp2_with fail
      go_loopw [79] (fun v wr3 => v = .int .i64 0 ∧ Blk wr3 (w.heap.size + 1) 25 #[(.slice none 0 0), (.slice none 0 0)] ∧ Below w.heap.size w wr3) (fun _ _ => 0)
      case atStart => exact ⟨rfl, r5, B5⟩
      case round =>
        obtain ⟨rfl, _, B6⟩ := hrel
        go_wp2
        go_ret
        exact ⟨rfl, B6⟩
theorem back3 : iso_Back.f 20 [2, 0, 1] = some ([1, 2, 0], true) := by decide +kernel
theorem back2 : iso_Back.f 20 [1, 1] = some ([], false) := by decide +kernel
theorem ints3 : lapidaryref00_SameInts.f 20 [1, 2, 0] [1, 2, 0] = some true := by decide +kernel
theorem new_row {w : World} {xs : List Int} (hx : xs.length ≤ 1000) : Kd.C (Kd.int .i64) (w.alloc (.cells (xs.map (Value.int .i64)).toArray 3 (0, 0))) (some ⟨w.heap.size, 0, none⟩) xs.length xs := by
  refine ⟨rfl, by omega, fun _ => ⟨_, rfl, fun j p hj => ⟨[.int .i64 p], rfl, rfl, fun i u hu => ?_⟩⟩⟩
  cases i with
  | zero =>
    simp at hu
    subst hu
    have h1 := (Mem.Blk.here w 3 (xs.map (Value.int .i64)).toArray).cell j
    rw [show (Kd.int .i64).sz = 1 from rfl, Nat.mul_one, Nat.add_zero]
    have h2 : (⟨w.heap.size, 0, none⟩ : Addr).add j = ⟨w.heap.size, j, none⟩ := by unfold Addr.add; split <;> simp_all
    rw [h2, h1]
    simp [hj]
  | succ i => simp at hu
set_option maxHeartbeats 4000000 in
set_option maxRecDepth 100000 in
theorem known12 (w : World) : Calls Tryd.prog 12 #[] w fun e w' => e = .returned (.bool true) ∧ Below w.heap.size w w' := by
  go_enter Tryd.func12, Tryd.ntmps12
  go_wp2_with fail
  refine (iso_Back.calls 20 (some ⟨w.heap.size, 0, none⟩) 3 [2, 0, 1] [1, 2, 0] true _ (new_row (xs := [2, 0, 1]) (by decide)) (Nat.le_refl _) back3).mono ?_
  rintro e w2 ⟨v0, rfl, hv, hb2⟩
  have B2 := (below_alloc (Below.refl w.heap.size w) (.cells #[.int .i64 2, .int .i64 0, .int .i64 1] 3 (0, 0))).trans (hb2.mono (by simp))
  clear hb2
  go_wp2_with fail
  refine (iso_Back.calls 20 (some ⟨w2.heap.size, 0, none⟩) 2 [1, 1] [] false _ (new_row (xs := [1, 1]) (by decide)) (Nat.le_refl _) back2).mono ?_
  rintro e w3 ⟨v1, rfl, hv1, hb3⟩
  have B3 := (below_alloc B2 (.cells #[.int .i64 1, .int .i64 1] 3 (0, 0))).trans (hb3.mono (by have := B2.size; simp; omega))
  obtain ⟨A0, c0, rfl⟩ := Kd.R_slice hv
  have hv3 := Kd.R_below (Kd.R_alloc hv (.cells #[.int .i64 1, .int .i64 1] 3 (0, 0))) hb3
  have e0 := (Kd.R_reads' hv3).1
  clear hb3 hv hv1 B2
  go_wp2_with fail
  refine (lapidaryref00_SameInts.calls 20 A0 c0 [1, 2, 0] (some ⟨w3.heap.size, 0, none⟩) 3 [1, 2, 0] true _ (Kd.C_alloc (Kd.R_reads' hv3).2.2 _) (Kd.R_reads' hv3).2.1 (new_row (xs := [1, 2, 0]) (by decide)) (Nat.le_refl _) ints3).mono ?_
  rintro e w4 ⟨rfl, n4, rfl⟩
  have B4 := pw_below_drewN (below_alloc B3 (.cells #[.int .i64 1, .int .i64 2, .int .i64 0] 3 (0, 0))) n4
  go_wp2_with fail
  refine (Is15 _).mono ?_
  rintro e w5 ⟨rfl, hb5⟩
  have B5 := B4.trans (hb5.mono B4.size)
  go_wp2
  go_ret
  exact ⟨rfl, B5⟩
end Go.Proofs.YtbdpfmpbooikiaaDoor.IsoE
namespace Go.Proofs.YtbdpfmpbooikiaaDoor.PIsr
open Go Go.RowKit
def lapidarylaw13_known.f : Option Bool := some true
theorem lapidarylaw13_known.calls (r : Bool) (w : World) (h : lapidarylaw13_known.f = some r) : Calls Tryd.prog 12 #[] w fun e w' => e = .returned (.bool r) ∧ Below w.heap.size w w' := by
  injection h with h
  subst h
  exact IsoE.known12 w
end Go.Proofs.YtbdpfmpbooikiaaDoor.PIsr
