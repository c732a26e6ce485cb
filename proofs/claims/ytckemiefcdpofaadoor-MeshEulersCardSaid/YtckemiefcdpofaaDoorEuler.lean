import Derived.Test.YtckemiefcdpofaaDoorEdges
namespace Go.Proofs.YtckemiefcdpofaaDoor.ED
open Go Go.RowKit Go.Lib Go.Sort Go.Proofs.YtckemiefcdpofaaDoor.OR Go.Proofs.YtckemiefcdpofaaDoor.Mem Go.Proofs.YtckemiefcdpofaaDoor.PMsr Go.Proofs.YtckemiefcdpofaaDoorW.PrintWords Go.Proofs.YtckemiefcdpofaaDoorW.PrintLast Go.Proofs.YtckemiefcdpofaaDoorW.PrintMore
set_option linter.unusedVariables false
set_option linter.unnecessarySimpa false
set_option linter.unusedSimpArgs false
set_option maxRecDepth 100000
theorem edgesOf_len (T : List S36) : (edgesOf T).length ≤ 3 * T.length := by
  have h := comp_len (sorted (raw T)) (sorted (raw T)).length
  rw [sorted_len, raw_len] at h
  unfold edgesOf
  rw [sorted_len, raw_len]
  exact h
theorem euler20 (P : List S55) (T : List S36) (r : Int) (ht : MR.Told P T r) (A0 : Option Addr) (c0 : Nat) (A1 : Option Addr) (c1 : Nat) (w : World) (hr0 : Kd.C k55 w A0 P.length P) (hc0 : P.length ≤ c0) (hr1 : Kd.C k36 w A1 T.length T) (hc1 : T.length ≤ c1) (hG : MM.Gl w) :
    Calls Tryd.prog 20 #[.agg #[.slice A0 P.length c0, .slice A1 T.length c1]] w fun e w' => e = .returned (.tuple #[.int .i64 (if r = 0 then (P.length : Int) - (edgesOf T).length + T.length else 0), .int .i64 r]) ∧ RowKit.Below w.heap.size w w' := by
  have hm1 := Blk.here w 25 #[.slice A0 P.length c0, .slice A1 T.length c1]
  have hb1 := (Below.refl w.heap.size w).alloc (Nat.le_refl _) (.cells #[.slice A0 P.length c0, .slice A1 T.length c1] 25 (0, 0))
  have x0 := hm1.cell 0
  have x1 := hm1.cell 1
  have hC := Lib.hid (edges16 P T r ht A0 c0 A1 c1 (w.alloc (.cells #[.slice A0 P.length c0, .slice A1 T.length c1] 25 (0, 0))) (Kd.C_alloc hr0 _) hc0 (Kd.C_alloc hr1 _) hc1 (hG.alloc _))
  have HT := Lib.hid ht
  clear ht
  go_enter Tryd.func20, Tryd.ntmps20
  go_wp2_with fail
  refine hC.out.mono ?_
  rintro e w2 ⟨v, rfl, hv0, hv1, hb2⟩
  clear hC x0 x1
  have hm2 := hm1.below hb2
  have hbw2 := hb1.trans (hb2.mono hb1.size)
  have x0 := hm2.cell 0
  have x1 := hm2.cell 1
  by_cases h0 : r ≠ 0
  · have d0 : (r != 0) = true := bne_iff_ne.2 h0
    have hv := hv0 h0
    subst hv
    replace hv1 := Lib.hid hv1
    replace hv0 := Lib.hid hv0
    go_wp2_with fail
    go_ret2
    exact ⟨by first | rfl | rw [if_neg h0] | simp [h0], hbw2⟩
  have h0' : r = 0 := by omega
  subst h0'
  have hR := hv1 rfl
  obtain ⟨A6, c6, rfl⟩ := Kd.R_slice hR
  have hl := edgesOf_len T
  have hPT : P.length ≤ 4000 ∧ T.length ≤ 8000 := by
    cases HT.out with
    | ok h _ _ _ => exact h
  have m1 : wrap64 ((P.length : Int) - ((edgesOf T).length : Int)) = (P.length : Int) - ((edgesOf T).length : Int) := by unfold wrap64; omega
  have m2 : wrap64 ((P.length : Int) - ((edgesOf T).length : Int) + (T.length : Int)) = (P.length : Int) - ((edgesOf T).length : Int) + (T.length : Int) := by unfold wrap64; omega
  clear hv0 hv1 h0 hR
  obtain ⟨n, hn⟩ : ∃ n, n = (edgesOf T).length := ⟨_, rfl⟩
  rw [← hn] at m1 m2 hl ⊢
  replace hn := Lib.hid hn
  go_wp2_with fail
  go_ret2
  refine ⟨?_, hbw2⟩
  first | (rw [hn.out]; done) | (rw [← hn.out]; rfl) | (simp [← hn.out]; done) | trace_state
end Go.Proofs.YtckemiefcdpofaaDoor.ED
