/- predict.fore walked. -/
import Derived.Test.YtgkncgiemfbglaaPTable
namespace Go.Proofs.Ytgkncgiemfbglaa.PT
open Go Go.RowKit Go.Maps Go.WideMaps Go.Proofs.Ytgkncgiemfbglaa.Mem Go.Proofs.Ytgkncgiemfbglaa.PPrd Go.Proofs.YtgkncgiemfbglaaW.PrintWords Go.Proofs.YtgkncgiemfbglaaW.PrintLast Go.Proofs.YtgkncgiemfbglaaW.PrintMore
set_option linter.unusedVariables false
theorem noGoto_body {P : Program} {fn : Func} {R : Ending → World → Prop} : Exit.noGoto (bodyPost P fn R) = bodyPost P fn R := by
  funext e a w
  cases e <;> rfl
theorem scope_body {P : Program} {fn : Func} {R : Ending → World → Prop} {c : Code} {a : Act} {w : World} (h : c.wp P (bodyPost P fn R) a w) : (Code.scope c).wp P (bodyPost P fn R) a w :=
  wp_scope_straight (by rw [noGoto_body]; exact h)
theorem w64 {x : Int} (h0 : -9223372036854775808 ≤ x) (h1 : x < 9223372036854775808) : wrap64 x = x := by unfold wrap64; omega
theorem int_lit {a b : Int} (h : (DataW.lit (.int .i64 a) : DataW Unit) = .lit (.int .i64 b)) : a = b := by
  injection h with h
  injection h
set_option maxHeartbeats 4000000 in
set_option maxRecDepth 100000 in
theorem fore_a (w : World) (A1 : Option Addr) (l1 : List S36) (c1 : Nat) (hr1 : Kd.C k36 w A1 l1.length l1) (gm n : Nat) (D : DataW Unit) (own : w.ownsMap Try.prog 77 (plainElem Try.prog 3) gm n D) (v first : Int) (hv0 : -1000000 ≤ v) (hv1 : v ≤ 1000000) (hf0 : 0 ≤ first) (hf1 : first < l1.length)
    (hwf : (Lit.int .i64 (rd_T36 l1 first).f0).wf = true ∧ (Lit.int .i64 (rd_T36 l1 first).f1).wf = true) (hne : (rd_T36 l1 first).f2 ≠ v) :
    Calls Try.prog 27 #[.slice A1 l1.length c1, .map (some gm), .int .i64 v, .int .i64 first] w fun e w' => e = .returned (.agg #[.int .i64 (v - 1), .int .i64 (v - 1), .int .i64 (v - 1)]) ∧ Below w.heap.size w w' := by
  have m1 : wrap64 (v - 1) = v - 1 := w64 (by omega) (by omega)
  have hb1 := (Below.refl w.heap.size w).alloc (Nat.le_refl _) (.cells #[.int .i64 0, .int .i64 0, .int .i64 0] 36 (0, 0))
  have hb2 := hb1.alloc hb1.size (.cells #[.int .i64 (v - 1), .int .i64 (v - 1), .int .i64 (v - 1)] 36 (0, 0))
  have b8 := (Blk.here w 36 #[.int .i64 0, .int .i64 0, .int .i64 0]).alloc (.cells #[.int .i64 (v - 1), .int .i64 (v - 1), .int .i64 (v - 1)] 36 (0, 0))
  have b9 := Blk.here (w.alloc (.cells #[.int .i64 0, .int .i64 0, .int .i64 0] 36 (0, 0))) 36 #[.int .i64 (v - 1), .int .i64 (v - 1), .int .i64 (v - 1)]
  have own2 := (own.alloc (.cells #[.int .i64 0, .int .i64 0, .int .i64 0] 36 (0, 0))).alloc (.cells #[.int .i64 (v - 1), .int .i64 (v - 1), .int .i64 (v - 1)] 36 (0, 0))
  have df : decide (first < 0) = false := decide_eq_false (by omega)
  obtain ⟨ad1, e1, y0, y1, y2⟩ := at_T36 (Kd.C_below hr1 hb2) first hf0 hf1
  cases e1
  have p1 := eq_true hf0
  have p2 := eq_true hf1
  have hkl := kE_key (a := (rd_T36 l1 first).f1) (b := (rd_T36 l1 first).f0) hwf.2 hwf.1
  generalize hqe : rd_T36 l1 first = q at *
  have d2 : (q.f2 == v) = false := beq_eq_false_iff_ne.2 hne
  have d3 : (q.f2 != v) = true := by simp [hne]
  go_enter Try.func27, Try.ntmps27
  go_wp2
  apply scope_body
  go_wp2_with fail
  generalize hw2 : ((w.alloc (.cells #[.int .i64 0, .int .i64 0, .int .i64 0] 36 (0, 0))).alloc (.cells #[.int .i64 (v - 1), .int .i64 (v - 1), .int .i64 (v - 1)] 36 (0, 0))) = w2 at *
  have hs9 : (w.alloc (.cells #[.int .i64 0, .int .i64 0, .int .i64 0] 36 (0, 0))).heap.size = w.heap.size + 1 := by simp
  rw [hs9] at b9
  go_quiet (fail)
  have own3 : (w2.drewN nq).ownsMap Try.prog 77 (plainElem Try.prog 3) gm n D := own2
  have hb3 : Below w.heap.size w (w2.drewN nq) := pw_below_drewN hb2 nq
  have b8' : Blk (w2.drewN nq) w.heap.size 36 #[.int .i64 0, .int .i64 0, .int .i64 0] := b8
  have b9' : Blk (w2.drewN nq) (w.heap.size + 1) 36 #[.int .i64 (v - 1), .int .i64 (v - 1), .int .i64 (v - 1)] := b9
  obtain ⟨ad2, e2, y0, y1, y2⟩ := at_T36 (Kd.C_below hr1 hb3) first hf0 hf1
  cases e2
  rw [hqe] at y0 y1 y2
  generalize hq3 : w2.drewN nq = w3 at *
  have x0 := b8'.cell 0
  have x1 := b8'.cell 1
  have x2 := b8'.cell 2
  have z0 := b9'.cell 0
  have z1 := b9'.cell 1
  have z2 := b9'.cell 2
  have f0 := b8'.frozen 0
  have f1 := (b8'.set_ 0 (.int .i64 (v - 1))).frozen 1
  have f2 := ((b8'.set_ 0 (.int .i64 (v - 1))).set_ 1 (.int .i64 (v - 1))).frozen 2
  have c8 := ((b8'.set_ 0 (.int .i64 (v - 1))).set_ 1 (.int .i64 (v - 1))).set_ 2 (.int .i64 (v - 1))
  go_wp2_with (first | (at_lookup; refine wpList_lookup_own_ok_int _ rfl _ _ 62 rfl 77 3 .i64 lawE Try.underlying62 Try.underlying3 (zeroE _) gm _ D rfl own3 _ _ rfl hkl ?_; intro c hat hwc))
  refine bodyPost_ret (v := .agg #[.int .i64 (v - 1), .int .i64 (v - 1), .int .i64 (v - 1)]) (by rw [results, show Try.f27.results = #[.cell 8 36] from rfl]; go_simp) rfl ?_
  exact ⟨rfl, ((hb3.setCell (p := ⟨w.heap.size, 0, none⟩) (Nat.le_refl _) _).setCell (p := ⟨w.heap.size, 1, none⟩) (Nat.le_refl _) _).setCell (p := ⟨w.heap.size, 2, none⟩) (Nat.le_refl _) _⟩
set_option maxHeartbeats 4000000 in
set_option maxRecDepth 100000 in
theorem fore_b (w : World) (A1 : Option Addr) (l1 : List S36) (c1 : Nat) (hr1 : Kd.C k36 w A1 l1.length l1) (gm n : Nat) (D : DataW Unit) (own : w.ownsMap Try.prog 77 (plainElem Try.prog 3) gm n D) (v first : Int) (hv0 : -1000000 ≤ v) (hv1 : v ≤ 1000000) (hf0 : 0 ≤ first) (hf1 : first < l1.length)
    (hwf : (Lit.int .i64 (rd_T36 l1 first).f0).wf = true ∧ (Lit.int .i64 (rd_T36 l1 first).f1).wf = true) (hv : (rd_T36 l1 first).f2 = v) (hh : Maps.has D (kE ((rd_T36 l1 first).f1, (rd_T36 l1 first).f0)) = true) (i : Int) (hati : ∀ z, D.atKey (kE ((rd_T36 l1 first).f1, (rd_T36 l1 first).f0)) z = .lit (.int .i64 i)) (hi : first ≤ i) :
    Calls Try.prog 27 #[.slice A1 l1.length c1, .map (some gm), .int .i64 v, .int .i64 first] w fun e w' => e = .returned (.agg #[.int .i64 (v - 1), .int .i64 (v - 1), .int .i64 (v - 1)]) ∧ Below w.heap.size w w' := by
  have m1 : wrap64 (v - 1) = v - 1 := w64 (by omega) (by omega)
  have hb1 := (Below.refl w.heap.size w).alloc (Nat.le_refl _) (.cells #[.int .i64 0, .int .i64 0, .int .i64 0] 36 (0, 0))
  have hb2 := hb1.alloc hb1.size (.cells #[.int .i64 (v - 1), .int .i64 (v - 1), .int .i64 (v - 1)] 36 (0, 0))
  have b8 := (Blk.here w 36 #[.int .i64 0, .int .i64 0, .int .i64 0]).alloc (.cells #[.int .i64 (v - 1), .int .i64 (v - 1), .int .i64 (v - 1)] 36 (0, 0))
  have b9 := Blk.here (w.alloc (.cells #[.int .i64 0, .int .i64 0, .int .i64 0] 36 (0, 0))) 36 #[.int .i64 (v - 1), .int .i64 (v - 1), .int .i64 (v - 1)]
  have own2 := (own.alloc (.cells #[.int .i64 0, .int .i64 0, .int .i64 0] 36 (0, 0))).alloc (.cells #[.int .i64 (v - 1), .int .i64 (v - 1), .int .i64 (v - 1)] 36 (0, 0))
  have df : decide (first < 0) = false := decide_eq_false (by omega)
  obtain ⟨ad1, e1, y0, y1, y2⟩ := at_T36 (Kd.C_below hr1 hb2) first hf0 hf1
  cases e1
  have p1 := eq_true hf0
  have p2 := eq_true hf1
  have hkl := kE_key (a := (rd_T36 l1 first).f1) (b := (rd_T36 l1 first).f0) hwf.2 hwf.1
  generalize hqe : rd_T36 l1 first = q at *
  have d4 : decide (i ≥ first) = true := decide_eq_true hi
  go_enter Try.func27, Try.ntmps27
  go_wp2
  apply scope_body
  go_wp2_with fail
  generalize hw2 : ((w.alloc (.cells #[.int .i64 0, .int .i64 0, .int .i64 0] 36 (0, 0))).alloc (.cells #[.int .i64 (v - 1), .int .i64 (v - 1), .int .i64 (v - 1)] 36 (0, 0))) = w2 at *
  have hs9 : (w.alloc (.cells #[.int .i64 0, .int .i64 0, .int .i64 0] 36 (0, 0))).heap.size = w.heap.size + 1 := by simp
  rw [hs9] at b9
  go_quiet (fail)
  have own3 : (w2.drewN nq).ownsMap Try.prog 77 (plainElem Try.prog 3) gm n D := own2
  have hb3 : Below w.heap.size w (w2.drewN nq) := pw_below_drewN hb2 nq
  have b8' : Blk (w2.drewN nq) w.heap.size 36 #[.int .i64 0, .int .i64 0, .int .i64 0] := b8
  have b9' : Blk (w2.drewN nq) (w.heap.size + 1) 36 #[.int .i64 (v - 1), .int .i64 (v - 1), .int .i64 (v - 1)] := b9
  obtain ⟨ad2, e2, y0, y1, y2⟩ := at_T36 (Kd.C_below hr1 hb3) first hf0 hf1
  cases e2
  rw [hqe] at y0 y1 y2
  generalize hq3 : w2.drewN nq = w3 at *
  have x0 := b8'.cell 0
  have x1 := b8'.cell 1
  have x2 := b8'.cell 2
  have z0 := b9'.cell 0
  have z1 := b9'.cell 1
  have z2 := b9'.cell 2
  have f0 := b8'.frozen 0
  have f1 := (b8'.set_ 0 (.int .i64 (v - 1))).frozen 1
  have f2 := ((b8'.set_ 0 (.int .i64 (v - 1))).set_ 1 (.int .i64 (v - 1))).frozen 2
  have c8 := ((b8'.set_ 0 (.int .i64 (v - 1))).set_ 1 (.int .i64 (v - 1))).set_ 2 (.int .i64 (v - 1))
  go_wp2_with (first | (at_lookup; refine wpList_lookup_own_ok_int _ rfl _ _ 62 rfl 77 3 .i64 lawE Try.underlying62 Try.underlying3 (zeroE _) gm _ D rfl own3 _ _ rfl hkl ?_; intro c hat hwc; have hci : c = i := int_lit (hat.symm.trans (hati _)); subst hci))
  refine bodyPost_ret (v := .agg #[.int .i64 (v - 1), .int .i64 (v - 1), .int .i64 (v - 1)]) (by rw [results, show Try.f27.results = #[.cell 8 36] from rfl]; go_simp) rfl ?_
  exact ⟨rfl, ((hb3.setCell (p := ⟨w.heap.size, 0, none⟩) (Nat.le_refl _) _).setCell (p := ⟨w.heap.size, 1, none⟩) (Nat.le_refl _) _).setCell (p := ⟨w.heap.size, 2, none⟩) (Nat.le_refl _) _⟩
set_option maxHeartbeats 4000000 in
set_option maxRecDepth 100000 in
theorem fore_c (w : World) (A1 : Option Addr) (l1 : List S36) (c1 : Nat) (hr1 : Kd.C k36 w A1 l1.length l1) (gm n : Nat) (D : DataW Unit) (own : w.ownsMap Try.prog 77 (plainElem Try.prog 3) gm n D) (v first : Int) (hv0 : -1000000 ≤ v) (hv1 : v ≤ 1000000) (hf0 : 0 ≤ first) (hf1 : first < l1.length)
    (hwf : (Lit.int .i64 (rd_T36 l1 first).f0).wf = true ∧ (Lit.int .i64 (rd_T36 l1 first).f1).wf = true) (hv : (rd_T36 l1 first).f2 = v) (hh : Maps.has D (kE ((rd_T36 l1 first).f1, (rd_T36 l1 first).f0)) = true) (i : Int) (hati : ∀ z, D.atKey (kE ((rd_T36 l1 first).f1, (rd_T36 l1 first).f0)) z = .lit (.int .i64 i)) (hi : i < first) (hi0 : 0 ≤ i) (hp0 : (rd_T36 l1 i).f0 = (rd_T36 l1 first).f1) (hp1 : (rd_T36 l1 i).f1 = (rd_T36 l1 first).f0) :
    Calls Try.prog 27 #[.slice A1 l1.length c1, .map (some gm), .int .i64 v, .int .i64 first] w fun e w' => e = .returned (.agg #[.int .i64 (rd_T36 l1 first).f1, .int .i64 (rd_T36 l1 first).f0, .int .i64 (rd_T36 l1 i).f2]) ∧ Below w.heap.size w w' := by
  have m1 : wrap64 (v - 1) = v - 1 := w64 (by omega) (by omega)
  have hb1 := (Below.refl w.heap.size w).alloc (Nat.le_refl _) (.cells #[.int .i64 0, .int .i64 0, .int .i64 0] 36 (0, 0))
  have hb2 := hb1.alloc hb1.size (.cells #[.int .i64 (v - 1), .int .i64 (v - 1), .int .i64 (v - 1)] 36 (0, 0))
  have b8 := (Blk.here w 36 #[.int .i64 0, .int .i64 0, .int .i64 0]).alloc (.cells #[.int .i64 (v - 1), .int .i64 (v - 1), .int .i64 (v - 1)] 36 (0, 0))
  have b9 := Blk.here (w.alloc (.cells #[.int .i64 0, .int .i64 0, .int .i64 0] 36 (0, 0))) 36 #[.int .i64 (v - 1), .int .i64 (v - 1), .int .i64 (v - 1)]
  have own2 := (own.alloc (.cells #[.int .i64 0, .int .i64 0, .int .i64 0] 36 (0, 0))).alloc (.cells #[.int .i64 (v - 1), .int .i64 (v - 1), .int .i64 (v - 1)] 36 (0, 0))
  have df : decide (first < 0) = false := decide_eq_false (by omega)
  obtain ⟨ad1, e1, y0, y1, y2⟩ := at_T36 (Kd.C_below hr1 hb2) first hf0 hf1
  cases e1
  have p1 := eq_true hf0
  have p2 := eq_true hf1
  have hkl := kE_key (a := (rd_T36 l1 first).f1) (b := (rd_T36 l1 first).f0) hwf.2 hwf.1
  generalize hqe : rd_T36 l1 first = q at *
  have d4 : decide (i ≥ first) = false := decide_eq_false (by omega)
  have p3 := eq_true hi0
  have p4 := eq_true (show i < (l1.length : Int) by omega)
  go_enter Try.func27, Try.ntmps27
  go_wp2
  apply scope_body
  go_wp2_with fail
  generalize hw2 : ((w.alloc (.cells #[.int .i64 0, .int .i64 0, .int .i64 0] 36 (0, 0))).alloc (.cells #[.int .i64 (v - 1), .int .i64 (v - 1), .int .i64 (v - 1)] 36 (0, 0))) = w2 at *
  have hs9 : (w.alloc (.cells #[.int .i64 0, .int .i64 0, .int .i64 0] 36 (0, 0))).heap.size = w.heap.size + 1 := by simp
  rw [hs9] at b9
  go_quiet (fail)
  have own3 : (w2.drewN nq).ownsMap Try.prog 77 (plainElem Try.prog 3) gm n D := own2
  have hb3 : Below w.heap.size w (w2.drewN nq) := pw_below_drewN hb2 nq
  have b8' : Blk (w2.drewN nq) w.heap.size 36 #[.int .i64 0, .int .i64 0, .int .i64 0] := b8
  have b9' : Blk (w2.drewN nq) (w.heap.size + 1) 36 #[.int .i64 (v - 1), .int .i64 (v - 1), .int .i64 (v - 1)] := b9
  obtain ⟨ad2, e2, y0, y1, y2⟩ := at_T36 (Kd.C_below hr1 hb3) first hf0 hf1
  cases e2
  rw [hqe] at y0 y1 y2
  generalize hq3 : w2.drewN nq = w3 at *
  obtain ⟨ad3, e3, v0, v1, v2⟩ := at_T36 (Kd.C_below hr1 hb3) i hi0 (by omega)
  cases e3
  rw [hp0] at v0
  rw [hp1] at v1
  generalize hpf : (rd_T36 l1 i).f2 = pf at *
  have x0 := b8'.cell 0
  have x1 := b8'.cell 1
  have x2 := b8'.cell 2
  have f0 := b8'.frozen 0
  have f1 := (b8'.set_ 0 (.int .i64 q.f1)).frozen 1
  have f2 := ((b8'.set_ 0 (.int .i64 q.f1)).set_ 1 (.int .i64 q.f0)).frozen 2
  have c8 := ((b8'.set_ 0 (.int .i64 q.f1)).set_ 1 (.int .i64 q.f0)).set_ 2 (.int .i64 pf)
  go_wp2_with (first | (at_lookup; refine wpList_lookup_own_ok_int _ rfl _ _ 62 rfl 77 3 .i64 lawE Try.underlying62 Try.underlying3 (zeroE _) gm _ D rfl own3 _ _ rfl hkl ?_; intro c hat hwc; have hci : c = i := int_lit (hat.symm.trans (hati _)); subst hci))
  go_step3
  go_wp2_with fail
  go_loopw [61] (fun v wr => v = .int .i64 0 ∧ wr = w3) (fun _ _ => 0)
  case atStart => exact ⟨rfl, rfl⟩
  case round =>
    obtain ⟨rfl, rfl⟩ := hrel
    go_wp2_with fail
    refine bodyPost_ret (v := .agg #[.int .i64 q.f1, .int .i64 q.f0, .int .i64 pf]) (by rw [results, show Try.f27.results = #[.cell 8 36] from rfl]; go_simp) rfl ?_
    exact ⟨by rw [hpf], ((hb3.setCell (p := ⟨w.heap.size, 0, none⟩) (Nat.le_refl _) _).setCell (p := ⟨w.heap.size, 1, none⟩) (Nat.le_refl _) _).setCell (p := ⟨w.heap.size, 2, none⟩) (Nat.le_refl _) _⟩
end Go.Proofs.Ytgkncgiemfbglaa.PT
