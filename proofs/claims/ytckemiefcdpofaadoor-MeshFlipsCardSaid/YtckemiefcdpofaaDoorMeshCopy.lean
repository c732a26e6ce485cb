import Derived.Test.YtckemiefcdpofaaDoorPMsrx3
import Derived.Test.YtckemiefcdpofaaDoorMem
import Derived.StillTailTactics
import Derived.WalkLawsBesides
import Derived.Laws.Cover3
namespace Go.Proofs.YtckemiefcdpofaaDoor.MD
open Go Go.RowKit Go.Proofs.YtckemiefcdpofaaDoor.Mem Go.Proofs.YtckemiefcdpofaaDoor.PMsr Go.Proofs.YtckemiefcdpofaaDoorW.PrintWords Go.Proofs.YtckemiefcdpofaaDoorW.PrintLast Go.Proofs.YtckemiefcdpofaaDoorW.PrintMore
set_option linter.unusedVariables false
set_option maxRecDepth 100000
set_option linter.unusedSimpArgs false
set_option maxHeartbeats 1000000 in
set_option maxRecDepth 100000 in
theorem clone51 (w : World) (A : Option Addr) (l : List S55) (c : Nat) (hr : Kd.C k55 w A l.length l) (hc : l.length ≤ c) (hlen : l.length ≤ 1000000) :
    Calls Tryd.prog 38 #[.slice A l.length c] w fun e w' => ∃ v, e = .returned v ∧ Kd.R k55 55 w' w.heap.size (fun _ => True) v l ∧ Below w.heap.size w w' := by
  have HR := Lib.hid hr
  clear hr
  have hnil : ∀ (w : World) (a : Option Addr) (l c : Nat), (binOp .eql 22 (.slice a l c) (.slice none 0 0)).run Tryd.prog w = .ok (.bool a.isNone) w := fun w a l c => by
    simp [binOp, run_equal_slice_nil w 22 55 a l c Tryd.underlying22]
  have hn1 := fun w (l c : Nat) => hnil w none l c
  have hn2 := fun w (ad : Addr) (l c : Nat) => hnil w (some ad) l c
  clear hnil
  cases A with
  | none =>
    have hl : l = [] := by
      cases l with
      | nil => rfl
      | cons a r =>
        obtain ⟨ad, h, _⟩ := HR.out.2.2 (by simp)
        cases h
    subst hl
    go_enter Tryd.func38, Tryd.ntmps38
    go_wp2
    go_ret
    exact ⟨_, rfl, Kd.R_nil _ _ _ _ _, Below.refl _ _⟩
  | some ad =>
    have hKM : ∀ (W : World) (x : S55) (cs : List Value), k55.K W x cs → k55.M W w.heap.size (fun _ => False) x cs := fun W x cs h => by
      obtain rfl := k55_open h
      exact k55_mkM _ _ _ x
    go_enter Tryd.func38, Tryd.ntmps38
    go_wp2_with (first | ((with_reducible refine gate_dst (N := 5) rfl ?_); refine Kd.R_lit (w0 := w) k55 w.heap.size 55 ?hg (N := 5) ?hd (xs := ([] : List S55)) (inner := []) (ok := fun _ => True) (okp := fun _ => False) ?hr ?hp (fun _ hk => hk.elim) trivial (Below.refl _ _) (Nat.le_refl _) (by decide) ?_; (case hd => rfl); (case hg => rfl); (case hr => first | (go_simp; done) | (go_simp; rfl)); (case hp => exact Reps.none _ _); intro v1 w5 ho5 hb5 hg5 hn5) | ((with_reducible refine gate_builtin (b := .append) (xs := #[.tmp 5, .tmp 6]) rfl ?_); at_builtin; refine Kd.R_append_rows (Rr := k55.K w5) k55 (w0 := w) w.heap.size rfl (.tmp 5) (.tmp 6) 22 55 (.agg #[.int .i64 0, .int .i64 0, .int .i64 0]) 24 rfl Tryd.underlying22 info55 rfl (by decide) (by omega) v1 [] l (some ad) l.length c (fun _ => True) (fun _ => False) rfl rfl ho5 (Kd.C_below HR.out hb5) (hKM w5) (fun _ hk => hk.elim) (fun _ _ => trivial) hb5 hb5.size (by simp; omega) ?_; intro v7 w7 ho7 hb7 hg7 hn7))
    go_ret
    exact ⟨_, rfl, by simpa using ho7, hb7⟩
set_option maxHeartbeats 1000000 in
set_option maxRecDepth 100000 in
theorem clone52 (w : World) (A : Option Addr) (l : List S36) (c : Nat) (hr : Kd.C k36 w A l.length l) (hc : l.length ≤ c) (hlen : l.length ≤ 1000000) :
    Calls Tryd.prog 39 #[.slice A l.length c] w fun e w' => ∃ v, e = .returned v ∧ Kd.R k36 36 w' w.heap.size (fun _ => True) v l ∧ Below w.heap.size w w' := by
  have HR := Lib.hid hr
  clear hr
  have hnil : ∀ (w : World) (a : Option Addr) (l c : Nat), (binOp .eql 23 (.slice a l c) (.slice none 0 0)).run Tryd.prog w = .ok (.bool a.isNone) w := fun w a l c => by
    simp [binOp, run_equal_slice_nil w 23 36 a l c Tryd.underlying23]
  have hn1 := fun w (l c : Nat) => hnil w none l c
  have hn2 := fun w (ad : Addr) (l c : Nat) => hnil w (some ad) l c
  clear hnil
  cases A with
  | none =>
    have hl : l = [] := by
      cases l with
      | nil => rfl
      | cons a r =>
        obtain ⟨ad, h, _⟩ := HR.out.2.2 (by simp)
        cases h
    subst hl
    go_enter Tryd.func39, Tryd.ntmps39
    go_wp2
    go_ret
    exact ⟨_, rfl, Kd.R_nil _ _ _ _ _, Below.refl _ _⟩
  | some ad =>
    have hKM : ∀ (W : World) (x : S36) (cs : List Value), k36.K W x cs → k36.M W w.heap.size (fun _ => False) x cs := fun W x cs h => by
      obtain rfl := k36_open h
      exact k36_mkM _ _ _ x
    go_enter Tryd.func39, Tryd.ntmps39
    go_wp2_with (first | ((with_reducible refine gate_dst (N := 5) rfl ?_); refine Kd.R_lit (w0 := w) k36 w.heap.size 36 ?hg (N := 5) ?hd (xs := ([] : List S36)) (inner := []) (ok := fun _ => True) (okp := fun _ => False) ?hr ?hp (fun _ hk => hk.elim) trivial (Below.refl _ _) (Nat.le_refl _) (by decide) ?_; (case hd => rfl); (case hg => rfl); (case hr => first | (go_simp; done) | (go_simp; rfl)); (case hp => exact Reps.none _ _); intro v1 w5 ho5 hb5 hg5 hn5) | ((with_reducible refine gate_builtin (b := .append) (xs := #[.tmp 5, .tmp 6]) rfl ?_); at_builtin; refine Kd.R_append_rows (Rr := k36.K w5) k36 (w0 := w) w.heap.size rfl (.tmp 5) (.tmp 6) 23 36 (.agg #[.int .i64 0, .int .i64 0, .int .i64 0]) 24 rfl Tryd.underlying23 info36 rfl (by decide) (by omega) v1 [] l (some ad) l.length c (fun _ => True) (fun _ => False) rfl rfl ho5 (Kd.C_below HR.out hb5) (hKM w5) (fun _ hk => hk.elim) (fun _ _ => trivial) hb5 hb5.size (by simp; omega) ?_; intro v7 w7 ho7 hb7 hg7 hn7))
    go_ret
    exact ⟨_, rfl, by simpa using ho7, hb7⟩
set_option maxHeartbeats 1000000 in
set_option maxRecDepth 100000 in
theorem copy41 (w : World) (A0 A1 : Option Addr) (l0 : List S55) (l1 : List S36) (c0 c1 : Nat) (hr0 : Kd.C k55 w A0 l0.length l0) (hc0 : l0.length ≤ c0) (hr1 : Kd.C k36 w A1 l1.length l1) (hc1 : l1.length ≤ c1) (h0 : l0.length ≤ 1000000) (h1 : l1.length ≤ 1000000) :
    Calls Tryd.prog 21 #[.agg #[.slice A0 l0.length c0, .slice A1 l1.length c1]] w fun e w' => ∃ v0 v1, e = .returned (.agg #[v0, v1]) ∧ Kd.R k55 55 w' w.heap.size (fun _ => True) v0 l0 ∧ Kd.R k36 36 w' w.heap.size (fun _ => True) v1 l1 ∧ Below w.heap.size w w' := by
  have HR0 := Lib.hid hr0
  have HR1 := Lib.hid hr1
  clear hr0 hr1
  have hb1 := ((Below.refl w.heap.size w).alloc (Nat.le_refl _) (.cells #[.slice A0 l0.length c0, .slice A1 l1.length c1] 25 (0, 0))).alloc (by simp) (.cells #[.slice none 0 0, .slice none 0 0] 25 (0, 0))
  have hm1 := (Blk.here w 25 #[.slice A0 l0.length c0, .slice A1 l1.length c1]).alloc (.cells #[.slice none 0 0, .slice none 0 0] 25 (0, 0))
  have hz1 := Blk.here (w.alloc (.cells #[.slice A0 l0.length c0, .slice A1 l1.length c1] 25 (0, 0))) 25 #[.slice none 0 0, .slice none 0 0]
  rw [show (w.alloc (.cells #[.slice A0 l0.length c0, .slice A1 l1.length c1] 25 (0, 0))).heap.size = w.heap.size + 1 by simp] at hz1
  go_enter Tryd.func21, Tryd.ntmps21
  go_wp2_with fail
  generalize (w.alloc (.cells #[.slice A0 l0.length c0, .slice A1 l1.length c1] 25 (0, 0))).alloc (.cells #[.slice none 0 0, .slice none 0 0] 25 (0, 0)) = w1 at *
  have hbd := hb1.drew
  have hmd := hm1.drew
  have hzd := hz1.drew
  generalize hgz : w.heap.size + 1 = gz at *
  have hlz : w.heap.size < gz := by omega
  have x0 : w1.drew.cell? ⟨w.heap.size, 0, none⟩ = some (.slice A0 l0.length c0) := hmd.cell 0
  have x1 : w1.drew.cell? ⟨w.heap.size, 1, none⟩ = some (.slice A1 l1.length c1) := hmd.cell 1
  clear hb1 hm1 hz1
  go_region_held3 (fun w' => w'.cell? ⟨w.heap.size, 0, none⟩ = some (.slice A0 l0.length c0) ∧ w'.cell? ⟨w.heap.size, 1, none⟩ = some (.slice A1 l1.length c1)) (first | exact ⟨x0, x1⟩ | exact ⟨hm5.cell 0, hm5.cell 1⟩ | exact ⟨hm6.cell 0, hm6.cell 1⟩ | exact ⟨hm7.cell 0, hm7.cell 1⟩ | exact ⟨hm8.cell 0, hm8.cell 1⟩)
    (first | (go_at_call 38; refine (clone51 w1.drew A0 l0 c0 (Kd.C_below HR0.out hbd) hc0 h0).mono ?_; rintro e w5 ⟨v0, rfl, ho0, hb5⟩; have hm5 := hmd.below hb5; have hB5 := hbd.trans (hb5.mono hbd.size); have hz5 := hzd.below hb5) | (go_at_call 39; refine (clone52 w5 A1 l1 c1 (Kd.C_below HR1.out hB5) hc1 h1).mono ?_; rintro e w6 ⟨v1, rfl, ho1, hb6⟩; have hm6 := hm5.below hb6; have hB6 := hB5.trans (hb6.mono hB5.size); have hz6 := hz5.below hb6; have r0 : w6.cell? ⟨gz, 0, none⟩ = some (.slice none 0 0) := hz6.cell 0; have r1 : w6.cell? ⟨gz, 1, none⟩ = some (.slice none 0 0) := hz6.cell 1; have f0 : w6.frozen? ⟨gz, 0, none⟩ = false := hz6.frozen 0; have f1 : w6.frozen? ⟨gz, 1, none⟩ = false := hz6.frozen 1; obtain ⟨B0, d0, rfl⟩ := Kd.R_slice ho0; obtain ⟨B1, d1, rfl⟩ := Kd.R_slice ho1; have hm7 := hm6.far (p := ⟨gz, 0, none⟩) (by show w.heap.size ≠ gz; omega) (.slice B0 l0.length d0); have hm8 := hm7.far (p := ⟨gz, 1, none⟩) (by show w.heap.size ≠ gz; omega) (.slice B1 l1.length d1)))
  have hbase : w.heap.size ≤ w1.drew.heap.size := hbd.size
  have hz7 := hz6.set_ 0 (.slice B0 l0.length d0)
  have q0 := Kd.R_set (Kd.R_set (Kd.R_below ho0 hb6) hz6 (by decide) 0 (.slice B0 l0.length d0)) hz7 (by decide) 1 (.slice B1 l1.length d1)
  have q1 := Kd.R_set (Kd.R_set ho1 hz6 (by decide) 0 (.slice B0 l0.length d0)) hz7 (by decide) 1 (.slice B1 l1.length d1)
  have hB8 := (hB6.setCell (p := ⟨gz, 0, none⟩) (by show w.heap.size ≤ gz; omega) (.slice B0 l0.length d0)).setCell (p := ⟨gz, 1, none⟩) (by show w.heap.size ≤ gz; omega) (.slice B1 l1.length d1)
  have l5 := hB5.size
  have z0 : ((w6.setCell ⟨gz, 0, none⟩ (.slice B0 l0.length d0)).setCell ⟨gz, 1, none⟩ (.slice B1 l1.length d1)).cell? ⟨gz, 0, none⟩ = some (.slice B0 l0.length d0) := (hz7.set_ 1 (.slice B1 l1.length d1)).cell 0
  have z1 : ((w6.setCell ⟨gz, 0, none⟩ (.slice B0 l0.length d0)).setCell ⟨gz, 1, none⟩ (.slice B1 l1.length d1)).cell? ⟨gz, 1, none⟩ = some (.slice B1 l1.length d1) := (hz7.set_ 1 (.slice B1 l1.length d1)).cell 1
  clear ho0 ho1 hm5 hm6 hm7 hm8 hz5 hz6 hz7 hzd hmd
  go_wp2
  refine bodyPost_ret (v := .agg #[.slice B0 l0.length d0, .slice B1 l1.length d1]) (by rw [results, show Tryd.f21.results = #[.cell 2 25] from rfl]; go_simp) rfl ?_
  exact ⟨_, _, rfl, Kd.R_lower q0 hbase, Kd.R_lower q1 l5, hB8⟩
end Go.Proofs.YtckemiefcdpofaaDoor.MD
namespace Go.Proofs.YtckemiefcdpofaaDoor.MD
open Go Go.RowKit Go.Proofs.YtckemiefcdpofaaDoor.Mem Go.Proofs.YtckemiefcdpofaaDoor.PMsr Go.Proofs.YtckemiefcdpofaaDoorW.PrintWords Go.Proofs.YtckemiefcdpofaaDoorW.PrintLast Go.Proofs.YtckemiefcdpofaaDoorW.PrintMore
set_option linter.unusedVariables false
set_option maxRecDepth 100000
set_option linter.unusedSimpArgs false
end Go.Proofs.YtckemiefcdpofaaDoor.MD
